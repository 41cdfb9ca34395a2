/- The abstract machine 'Pm', part F: the memory operations. -/
import Derived.Test.YtnkknmdpakebhaaPmE
set_option linter.unusedSimpArgs false
set_option linter.unusedVariables false
namespace Go.Pm
open Go.RowKit

/-- A computation gives x and leaves m'. -/
def Does (P : Program) (c : Ctx) (m : Mem) (μ : Mu) (L : Loc) (w : World) (s : Sem Value) (x : T) (m' : Mem) : Prop :=
  ∃ v w' μ' L' ow', s.run P w = .ok v w' ∧ Inv c m' μ' L' ow' w' ∧ Mu.le μ μ' ∧ Stays L m L' m' ∧ RepT μ' L' m' x v
section
variable {P : Program} {c : Ctx} {m : Mem} {μ : Mu} {L : Loc} {ow : Nat → Option Nat} {w : World}
/-- Nothing turns. -/
theorem Does.pure (h : Inv c m μ L ow w) {s : Sem Value} {v : Value} {x : T} (hr : s.run P w = .ok v w) (hx : RepT μ L m x v) : Does P c m μ L w s x m :=
  ⟨v, w, μ, L, ow, hr, h, Mu.le_refl _, Stays.refl _ _, hx⟩

theorem add_at (b o i : Nat) : (⟨b, o, none⟩ : Addr).add i = ⟨b, o + i, none⟩ := by
  unfold Addr.add
  split
  · rename_i h; simp [h]
  · rfl

/-! ### load -/
abbrev T.toD : T → Option D := unD1
def allD : List T → Option (List D)
  | [] => some []
  | x :: xs => match x.toD, allD xs with
    | some y, some ys => some (y :: ys)
    | _, _ => none
theorem toD_rep {x : T} {y : D} {v : Value} (h : RepT μ L m x v) (hy : x.toD = some y) : RepD μ y v := unD1_rep h hy
theorem allD_rep {vs : Array Value} : ∀ {cs : List T} {l : List D} {o : Nat}, allD cs = some l → (∀ (i : Nat) (x : T), cs[i]? = some x → ∃ v, vs[o + i]? = some v ∧ v.oneCell' = true ∧ RepT μ L m x v) →
    ∃ r, RepL μ l r ∧ ∀ (i : Nat) (u : Value), r[i]? = some u → vs[o + i]? = some u
  | [], l, o, h, _ => by simp [allD] at h; subst h; exact ⟨[], .nil, by simp⟩
  | x :: xs, l, o, h, hv => by
    unfold allD at h
    split at h
    · rename_i y ys hy hys
      injection h with h
      subst h
      obtain ⟨r, hr, hg⟩ := allD_rep (o := o + 1) hys fun i z hz => by
        obtain ⟨v, h1, h2⟩ := hv (i + 1) z (by simpa using hz)
        exact ⟨v, by rwa [Nat.add_comm i 1, ← Nat.add_assoc] at h1, h2⟩
      obtain ⟨v, h1, h2, h3⟩ := hv 0 x rfl
      refine ⟨v :: r, .cons (toD_rep h3 hy) h2 hr, fun i u hu => ?_⟩
      cases i with
      | zero => simp at hu; subst hu; exact h1
      | succ i =>
        have := hg i u (by simpa using hu)
        rwa [Nat.add_assoc, Nat.add_comm 1 i] at this
    · cases h
def ldD (cs : List D) (i : TyI) : Option D :=
  if i.agg then (if i.size ≤ cs.length then some (.agg (cs.take i.size)) else none) else cs.head?
def ldT (cs : List T) (i : TyI) : Option T :=
  if i.agg then (match allD (cs.take i.size) with | some l => if l.length = i.size then some (.d (.agg l)) else none | none => none) else cs.head?

theorem does_loadP (h : Inv c m μ L ow w) {t : TypeId} {i : TyI} (ht : TyOK P t i) {v : Value} {cs : List D} (hv : RepD μ (.ptr cs) v) {x : D} (hx : ldD cs i = some x) :
    Does P c m μ L w (Instr.loadAt t v) (.d x) m := by
  cases hv with
  | @ptr _ b o hc =>
    unfold ldD at hx
    split at hx
    · rename_i hagg
      split at hx
      · rename_i hle
        injection hx with hx
        subst hx
        obtain ⟨l, hl, hg⟩ := (hc.take i.size).vals
        have hlen : l.length = i.size := by rw [hl.length, List.length_take]; omega
        refine .pure h (v := .agg l.toArray) ?_ (.d (.agg hl))
        have := run_loadCells_list (P := P) (w := w) ⟨b, o, none⟩ l (fun j u hu => by rw [add_at]; exact h.mu _ _ (hg j u hu))
        rw [hlen] at this
        simp [Instr.loadAt, Instr.sureAddr, loadVar, ht.isAgg, hagg, ht.sizeOf, this]
      · cases hx
    · rename_i hagg
      cases hc with
      | nil => simp at hx
      | cons h0 h1 hm t' =>
        simp at hx
        subst hx
        refine .pure h (v := _) ?_ (.d h0)
        simp [Instr.loadAt, Instr.sureAddr, loadVar, ht.isAgg, hagg, h.mu _ _ hm]

theorem run_loadO (h : Inv c m μ L ow w) {t : TypeId} {i : TyI} (ht : TyOK P t i) {v : Value} {id g off : Nat} (hv : RepT μ L m (.obj id g off) v) {cs : List T} (hm : m id = some (.box g cs)) {x : T} (hx : ldT (cs.drop off) i = some x) :
    ∃ q, (Instr.loadAt t v).run P w = .ok q w ∧ RepT μ L m x q := by
  cases hv with
  | obj h0 hg hle hA =>
    rw [hm] at h0
    injection h0 with h0
    subst h0
    cases hg
    rw [hA rfl]
    obtain ⟨ho, vs, e, hh, hs, hroom, hcell⟩ := h.box id g cs hm
    have hrow : ∀ k, w.cell? ⟨L.blk id, k, none⟩ = vs[k]? := fun k => cell_of_row w _ k vs e (0, 0) hh
    unfold ldT at hx
    split at hx
    · rename_i hagg
      split at hx
      · rename_i l hl
        split at hx
        · rename_i hlen
          injection hx with hx
          subst hx
          obtain ⟨r, hr, hg⟩ := allD_rep (vs := vs) (o := off) hl fun j z hz => by
            rw [List.getElem?_take] at hz
            split at hz
            · rw [List.getElem?_drop] at hz
              exact hcell _ z hz
            · cases hz
          have hrl : r.length = i.size := by rw [hr.length, hlen]
          refine ⟨.agg r.toArray, ?_, .d (.agg hr)⟩
          have := run_loadCells_list (P := P) (w := w) ⟨L.blk id, off, none⟩ r (fun j u hu => by rw [add_at, hrow]; exact hg j u hu)
          rw [hrl] at this
          simp [Instr.loadAt, Instr.sureAddr, loadVar, ht.isAgg, hagg, ht.sizeOf, this]
        · cases hx
      · cases hx
    · rename_i hagg
      rw [List.head?_eq_getElem?, List.getElem?_drop] at hx
      obtain ⟨u, h1, h2, h3⟩ := hcell _ x hx
      rw [Nat.add_zero] at h1
      refine ⟨u, ?_, h3⟩
      simp [Instr.loadAt, Instr.sureAddr, loadVar, ht.isAgg, hagg, hrow, h1]

theorem does_loadO (h : Inv c m μ L ow w) {t : TypeId} {i : TyI} (ht : TyOK P t i) {v : Value} {id g off : Nat} (hv : RepT μ L m (.obj id g off) v) {cs : List T} (hm : m id = some (.box g cs)) {x : T} (hx : ldT (cs.drop off) i = some x) :
    Does P c m μ L w (Instr.loadAt t v) x m := by
  obtain ⟨q, h1, h2⟩ := run_loadO (P := P) h ht hv hm hx
  exact .pure h h1 h2
/-- A pointer into cells that nobody writes any more is data. -/
theorem froz_ptr (h : Inv c m μ L ow w) {v : Value} {id g off : Nat} (hv : RepT μ L m (.obj id g off) v) {cs : List D} (hm : m id = some (.froz g cs)) (hle : off ≤ cs.length) : RepD μ (.ptr (cs.drop off)) v := by
  cases hv with
  | obj h0 hg hle' hA =>
    rw [hm] at h0
    injection h0 with h0
    subst h0
    cases hg
    rw [hA rfl]
    have := (h.froz id g cs hm).drop off hle
    rw [Nat.zero_add] at this
    exact .ptr this

/-! ### A value's cells; alloc, box -/
def T.cells : T → Option (List T)
  | .d x => some (x.cells.map .d)
  | .own id xs => some [.own id xs]
  | .obj id g off => some [.obj id g off]
  | .view id g sz off n => some [.view id g sz off n]
  | _ => none
theorem cells_rep {x : T} {cs : List T} {v : Value} (h : RepT μ L m x v) (hc : x.cells = some cs) :
    v.cells.size = cs.length ∧ ∀ (i : Nat) (y : T), cs[i]? = some y → ∃ u, v.cells[i]? = some u ∧ u.oneCell' = true ∧ RepT μ L m y u := by
  cases x with
  | d x =>
    simp [T.cells] at hc
    subst hc
    cases h with
    | d h =>
      have hl := h.cells
      refine ⟨by have := hl.length; simpa using this, fun i y hy => ?_⟩
      rw [List.getElem?_map] at hy
      cases hx : x.cells[i]? with
      | none => rw [hx] at hy; cases hy
      | some z =>
        rw [hx] at hy
        simp at hy
        subst hy
        obtain ⟨u, h1, h2, h3⟩ := hl.get i z hx
        exact ⟨u, by simpa using h1, h3, .d h2⟩
  | own id xs =>
    simp [T.cells] at hc
    subst hc
    have hv : ∃ A n k, v = .slice A n k := by
      cases h with
      | own h _ _ _ _ => obtain ⟨A, k, e, _⟩ := h.slice_inv; exact ⟨A, _, k, e⟩
    obtain ⟨A, n, k, rfl⟩ := hv
    refine ⟨rfl, fun i y hy => ?_⟩
    cases i with
    | zero => simp at hy; subst hy; exact ⟨_, rfl, rfl, h⟩
    | succ i => simp at hy
  | obj id g off =>
    simp [T.cells] at hc
    subst hc
    have hv : ∃ A, v = .pointer A := by cases h; exact ⟨_, rfl⟩
    obtain ⟨A, rfl⟩ := hv
    refine ⟨rfl, fun i y hy => ?_⟩
    cases i with
    | zero => simp at hy; subst hy; exact ⟨_, rfl, rfl, h⟩
    | succ i => simp at hy
  | view id g sz off n => 
    simp [T.cells] at hc
    subst hc
    have hv : ∃ A n k, v = .slice A n k := by cases h; exact ⟨_, _, _, rfl⟩
    obtain ⟨A, n, k, rfl⟩ := hv
    refine ⟨rfl, fun i y hy => ?_⟩
    cases i with
    | zero => simp at hy; subst hy; exact ⟨_, rfl, rfl, h⟩
    | succ i => simp at hy
  | tup xs => simp [T.cells] at hc
  | anyb => simp [T.cells] at hc
  | un => simp [T.cells] at hc
  | any => simp [T.cells] at hc

theorem obj_new {d o r : Nat} {cs : List T} {μ : Mu} {L : Loc} {m : Mem} : RepT μ (L.setBlk d o r) (setM m d (.box 0 cs)) (.obj d 0 0) (.pointer (some ⟨o, 0, none⟩)) :=
  .obj (setM_self m d _) rfl (Nat.le_refl _) fun _ => by simp [Loc.setBlk]
theorem does_box (h : Inv c m μ L ow w) {t : TypeId} {x : T} {v : Value} (hv : RepT μ L m x v) {cs : List T} (hc : x.cells = some cs) {d : Nat} (hd : m d = none) :
    Does P c m μ L w (Instr.box t v) (.obj d 0 0) (setM m d (.box 0 cs)) := by
  obtain ⟨h1, h2⟩ := cells_rep hv hc
  obtain ⟨hi, hs⟩ := h.newBox hd v.cells t 0 cs (by omega) h2
  refine ⟨.pointer (some ⟨w.heap.size, 0, none⟩), w.alloc (.cells v.cells t), μ, _, _, ?_, hi, Mu.le_refl _, hs, obj_new⟩
  simp [Instr.box, newVar, newRow]
theorem does_alloc (h : Inv c m μ L ow w) {t : TypeId} {i : TyI} (ht : TyOK P t i) {d : Nat} (hd : m d = none) :
    Does P c m μ L w (Instr.alloc t true (.tuple #[])) (.obj d 0 0) (setM m d (.box 0 (i.zero.cells.map .d))) := by
  obtain ⟨z, hz, hr⟩ := ht.zero
  have := does_box (P := P) h (t := t) (.d (hr μ)) (cs := i.zero.cells.map .d) rfl hd
  obtain ⟨v, w', μ', L', ow', h1, h2⟩ := this
  refine ⟨v, w', μ', L', ow', ?_, h2⟩
  rw [← h1]
  simp [Instr.alloc, Instr.box, hz]

/-! ### store -/
/-- Cells are written one behind the other. -/
theorem does_storeCells {P : Program} {c : Ctx} {μ : Mu} {L : Loc} {ow : Nat → Option Nat} {id g : Nat} : ∀ (vs : List Value) (ys : List T) (cs : List T) (off k : Nat) (m : Mem) (w : World), Inv c m μ L ow w → m id = some (.box g cs) → off + k + ys.length ≤ cs.length → vs.length = ys.length →
      (∀ (i : Nat) (y : T), ys[i]? = some y → ∃ u, vs[i]? = some u ∧ u.oneCell' = true ∧ RepT μ L m y u) →
    ∃ w' cs', (storeCells ⟨L.blk id, off, none⟩ vs k).run P w = .ok () w' ∧ cs'.length = cs.length ∧ (∀ i, cs'[i]? = if off + k ≤ i ∧ i < off + k + ys.length then ys[i - (off + k)]? else cs[i]?) ∧
      Inv c (setM m id (.box g cs')) μ L ow w' ∧ Stays L m L (setM m id (.box g cs'))
  | [], [], cs, off, k, m, w, h, hid, hle, _, _ => by
    have e : setM m id (.box g cs) = m := by
      funext j
      unfold setM
      split
      · rename_i e; subst e; exact hid.symm
      · rfl
    refine ⟨w, cs, by simp [storeCells], rfl, fun i => ?_, by rw [e]; exact h, by rw [e]; exact Stays.refl _ _⟩
    rw [if_neg (by simp only [List.length_nil]; omega)]
  | v :: vs, y :: ys, cs, off, k, m, w, h, hid, hle, hl, hv => by
    obtain ⟨u, h1, h2, h3⟩ := hv 0 y rfl
    simp at h1
    subst h1
    simp only [List.length_cons] at hle hl
    obtain ⟨hi, hs, ⟨u0, hu0⟩, hf⟩ := h.store hid (off + k) (by omega) y v h2 h3
    have e2 : ∀ cs2, setM (setM m id (.box g (cs.set (off + k) y))) id (.box g cs2) = setM m id (.box g cs2) := fun cs2 => by funext j; unfold setM; split <;> simp_all
    obtain ⟨w', cs', hr, hlen, hget, hinv, hst⟩ := does_storeCells (P := P) (id := id) (g := g) vs ys (cs.set (off + k) y) off (k + 1) _ _ hi (by simp [setM]) (by simp; omega) (by omega) fun i z hz => by
      obtain ⟨u', h4, h5, h6⟩ := hv (i + 1) z (by simpa using hz)
      exact ⟨u', by simpa using h4, h5, h6.mono (Mu.le_refl _) hs⟩
    rw [e2] at hinv hst
    refine ⟨w', cs', ?_, by simpa using hlen, fun i => ?_, hinv, ?_⟩
    · rw [← hr]
      simp [storeCells, add_at, hu0, hf, run_store, h2]
    · rw [hget i]
      simp only [List.length_cons]
      by_cases h7 : i = off + k
      · subst h7
        rw [if_neg (by omega), if_pos (by omega)]
        have h8 : off + k < cs.length := by omega
        simp [List.getElem?_set, h8]
      · by_cases h8 : off + (k + 1) ≤ i ∧ i < off + (k + 1) + ys.length
        · rw [if_pos h8, if_pos (by omega)]
          have : i - (off + k) = (i - (off + (k + 1))) + 1 := by omega
          rw [this]
          rfl
        · rw [if_neg h8, if_neg (by omega), List.getElem?_set_ne (by omega)]
    · exact Stays.turn L hid _ _ (fun _ _ => rfl) (fun _ _ => rfl) (fun _ _ => rfl) (fun g' hg => ⟨g', hg, Nat.le_refl _, fun _ => ⟨rfl, rfl⟩⟩) (fun _ _ _ q => by cases q)
  | [], _ :: _, _, _, _, _, _, _, _, _, hl, _ => by simp at hl
  | _ :: _, [], _, _, _, _, _, _, _, _, hl, _ => by simp at hl

def splice (cs : List T) (off : Nat) (ys : List T) : List T := cs.take off ++ ys ++ cs.drop (off + ys.length)
theorem splice_get (cs : List T) (off : Nat) (ys : List T) (h : off + ys.length ≤ cs.length) (i : Nat) : (splice cs off ys)[i]? = if off ≤ i ∧ i < off + ys.length then ys[i - off]? else cs[i]? := by
  unfold splice
  rw [List.append_assoc, List.getElem?_append]
  simp only [List.length_take, Nat.min_eq_left (show off ≤ cs.length by omega)]
  split
  · rw [if_neg (by omega), List.getElem?_take, if_pos (by assumption)]
  · rw [List.getElem?_append]
    split
    · rw [if_pos (by omega)]
    · rw [if_neg (by omega), List.getElem?_drop]
      congr 1
      omega
/-- A store. -/
theorem does_store (h : Inv c m μ L ow w) {t : TypeId} {i : TyI} (ht : TyOK P t i) {va vx : Value} {id g off : Nat} (ha : RepT μ L m (.obj id g off) va) {cs : List T} (hid : m id = some (.box g cs)) {x : T} (hx : RepT μ L m x vx)
    {ys : List T} (hy : x.cells = some ys) (hl : ys.length = i.size) (hle : off + i.size ≤ cs.length) :
    ∃ w', (Instr.storeAt t va vx).run P w = .ok () w' ∧ Inv c (setM m id (.box g (splice cs off ys))) μ L ow w' ∧ Stays L m L (setM m id (.box g (splice cs off ys))) := by
  cases ha with
  | obj h0 hg hle' hA =>
    rw [hid] at h0
    injection h0 with h0
    subst h0
    cases hg
    rw [hA rfl]
    obtain ⟨h1, h2⟩ := cells_rep hx hy
    obtain ⟨w', cs', hr, hlen, hget, hinv, hst⟩ := does_storeCells (P := P) vx.cells.toList ys cs off 0 m w h hid (by omega) (by simpa using h1) fun j y hj => by
      obtain ⟨u, h3, h4⟩ := h2 j y hj
      exact ⟨u, by simpa using h3, h4⟩
    have e : cs' = splice cs off ys := List.ext_getElem? fun j => by
      rw [hget j, splice_get _ _ _ (by omega)]
      simp
    rw [e] at hinv hst
    refine ⟨w', ?_, hinv, hst⟩
    have hsz : vx.cells.size = i.size := by omega
    simp [Instr.storeAt, Instr.sureAddr, storeVar, ht.sizeOf, hsz, hr]
end
end Go.Pm
