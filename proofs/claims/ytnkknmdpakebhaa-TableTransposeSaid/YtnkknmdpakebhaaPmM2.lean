/- The abstract machine Pm, parts W to W3, joined. -/
import Derived.Test.YtnkknmdpakebhaaPmM1
import Derived.Deep.LoopGhost
import Derived.Orders
set_option linter.unusedSimpArgs false
set_option linter.unusedVariables false
namespace Go.Pm
open Go.RowKit
section
variable {P : Program} {c : Ctx} {m : Mem} {μ : Mu} {L : Loc} {ow : Nat → Option Nat} {w : World} {tab : Tab} {ρT : Operand → Option T} {ρ : Operand → Value}
theorem does_litV (h : Inv c m μ L ow w) {t e : TypeId} {i ie : TyI} (ht : TyOK P t i) (hk : i.k = .slice e) (he : TyOK P e ie) (hz : 0 < ie.size) {xs : List D} {vs : List Value} (hv : RepV μ xs vs) (hs : ∀ y ∈ xs, y.sz = ie.size)
    (hle : xs.length * ie.size ≤ 16777216) {d : Nat} (hd : m d = none) :
    Does P c m μ L w (Instr.buildSlice t xs.length ((vs.zipIdx 0).map fun p => (p.2, p.1)).toArray) (.view d 0 ie.size 0 xs.length) (setM m d (.box 0 ((xs.flatMap D.cells).map .d))) := by
  have hrun := run_lit w ht hk he hz hv hs hle
  have hfl := hv.flat
  have hlen : (vs.flatMap fun v => v.cells.toList).length = xs.length * ie.size := hfl.length hs
  obtain ⟨g1, g2⟩ := hfl.gets
  obtain ⟨hi, hst⟩ := h.newBox hd (vs.flatMap fun v => v.cells.toList).toArray e 0 ((xs.flatMap D.cells).map .d) (by simp only [List.length_map, List.size_toArray]; omega) fun j x hx => by
    rw [List.getElem?_map] at hx
    cases hq : (xs.flatMap D.cells)[j]? with
    | none => rw [hq] at hx; cases hx
    | some y =>
      rw [hq] at hx
      simp at hx
      subst hx
      obtain ⟨u, q1, q2, q3⟩ := g2 j y hq
      exact ⟨u, by rw [List.getElem?_toArray]; exact q1, q2, .d q3⟩
  have hmax : xs.length ≤ maxLen := by
    have : xs.length ≤ xs.length * ie.size := Nat.le_mul_of_pos_right _ hz
    simp only [maxLen]; omega
  refine ⟨_, _, μ, _, _, hrun, hi, Mu.le_refl _, hst, ?_⟩
  refine .view (setM_self m d _) rfl (Nat.le_refl _) fun _ => ⟨fun _ => by simp [Loc.setBlk], ?_, Nat.le_refl _, hmax⟩
  simp only [Loc.setBlk, if_true, List.size_toArray, hlen, Nat.zero_add]
  exact Nat.le_refl _
theorem emp_ok {tx : T} {v : Value} (h : RepT μ L m tx v) (he : tx.emp = true) : RepD μ (.slice []) v := by
  unfold T.emp at he
  split at he
  · rename_i h1; exact asSlice_rep h h1
  · cases he
theorem srcT_ok (h : Inv c m μ L ow w) {sz k : Nat} {tx : T} {us : List T} {v : Value} (hx : RepT μ L m tx v) (hs : srcT m sz tx = some (k, us)) (hk : 0 < k) : Src m μ L w v k sz us := by
  unfold srcT at hs
  split at hs
  · rename_i id g s off n
    split at hs
    · rename_i g' cs hm
      split at hs
      · rename_i hc
        obtain ⟨rfl, rfl, hle⟩ := hc
        simp only [Option.some.injEq, Prod.mk.injEq] at hs
        obtain ⟨rfl, rfl⟩ := hs
        exact Src.ofV h hm hx hle hk
      · cases hs
    · cases hs
  · split at hs
    · rename_i ys hys
      split at hs
      · rename_i hall
        simp only [Option.some.injEq, Prod.mk.injEq] at hs
        obtain ⟨rfl, rfl⟩ := hs
        exact Src.ofD h (asSlice_rep hx hys) (fun y hy => by simpa using (List.all_eq_true.1 hall) y hy) (by intro q; subst q; simp at hk)
      · cases hs
    · cases hs
theorem evX_ok (hT : TabOK P tab) (h : Inv c m μ L ow w) (hρ : ∀ x t, ρT x = some t → RepT μ L m t (ρ x)) {o : Oper} {d : Nat} {r : T} {u : Upd} (he : evX tab ρT m d o.op = some (r, u)) :
    Runs P c m μ L w (execOp ρ o) (some r) (m.upd u) := by
  obtain ⟨dst, op, ty, pos, after, guard⟩ := o
  cases op <;> simp only [evX] at he <;> try (cases he; done)
  case makeSlice t l c =>
    split at he
    · rename_i e sz by_ z vw kl l' kc c' ht hl hc hd
      split at he
      · rename_i ie hie
        split at he
        · rename_i hcond
          cases he
          obtain ⟨h1, h2, h3, h4, h5⟩ := hcond
          have hl' := hρ _ _ hl
          have hc' := hρ _ _ hc
          cases hl' with
          | d hl' => cases hc' with
            | d hc' => exact .of (does_make h (hT _ _ ht) rfl (hT _ _ hie) h1 hl' hc' h2 h3 h4 h5 hd)
        · cases he
      · cases he
    · cases he
  case buildSlice t n parts =>
    split at he
    · rename_i e sz by_ z ht
      split at he
      · rename_i ie xs hie hxs hd
        split at he
        · rename_i hc
          cases he
          obtain ⟨hn, hseq, hz, hall, hle⟩ := hc
          subst hn
          have hrv := allT_rep hρ hxs
          have := does_litV (P := P) h (hT _ _ ht) rfl (hT _ _ hie) hz hrv (fun y hy => by simpa using (List.all_eq_true.1 hall) y hy) hle hd
          have hp : (((parts.toList.map (·.2)).map ρ).zipIdx 0).map (fun p => (p.2, p.1)) = (parts.map fun p => (p.1, ρ p.2)).toList := by
            rw [Array.toList_map, seqFrom_zip hseq, List.map_map]
            rfl
          rw [hp] at this
          rw [Array.toArray_toList] at this
          exact .of this
        · cases he
      · cases he
    · cases he
  case call cl =>
    obtain ⟨callee, args, tys⟩ := cl
    obtain ⟨args⟩ := args
    obtain ⟨tys⟩ := tys
    simp only [] at he
    split at he
    · rename_i s x t t'
      split at he
      · rename_i htt
        subst htt
        split at he
        · rename_i e sz by_ z ts tx ht hs hx
          split at he
          · rename_i ie hie
            split at he
            · rename_i k us hsrc
              have hs' := hρ _ _ hs
              have hx' := hρ _ _ hx
              have hgo : ∀ {y : T} {m' : Mem}, Does P c m μ L w (Builtin.append_ #[t, t] ty #[ρ s, ρ x]) y m' → Runs P c m μ L w (execOp ρ ⟨dst, .call ⟨.builtin .append, ⟨[s, x]⟩, ⟨[t, t]⟩⟩, ty, pos, after, guard⟩) (some y) m' := by
                intro y m' hd
                have := Runs.of hd
                simpa [execOp, resolve, invoke, builtin] using this
              split at he
              · split at he
                · rename_i hd
                  split at he
                  · rename_i hc
                    cases he
                    refine hgo ?_
                    have hyr := emp_ok hx' hc.2
                    have hk := (hT _ _ ht).kind
                    simp only [] at hk
                    obtain ⟨f, zz, hf, hfs, hfb, hfz, hzsz, hzr⟩ := (hT _ _ hie).info
                    cases hs' with
                    | d hs' =>
                      generalize hvs : ρ s = vs at hs'
                      generalize hvx : ρ x = vx at hyr
                      cases hs'
                      obtain ⟨B, cap', rfl, _, _, _⟩ := hyr.slice_inv
                      refine .pure h (v := .slice none 0 0) ?_ (.d .nil)
                      cases B <;> simp [Builtin.append_, run_underlying hk, sizeOf, typeInfo, hf, Builtin.lenOf, Builtin.firstCells, loadCells, loadCellsFrom, storeCells]
                  · split at he
                    · rename_i hc
                      cases he
                      refine hgo ?_
                      cases hs' with
                      | d hs' =>
                        generalize hvs : ρ s = vs at hs'
                        cases hs'
                        exact does_appendNV h (hT _ _ ht) rfl (hT _ _ hie) hd (srcT_ok h hx' hsrc hc.1) hc.1 hc.2.1 (by simp only [maxLen]; omega)
                    · cases he
                · cases he
              · rename_i id g sz' off n
                split at he
                · rename_i g' cs hm
                  split at he
                  · rename_i hc
                    obtain ⟨rfl, hc⟩ := hc
                    cases he
                    exact hgo (does_appendV0 h (hT _ _ ht) rfl (hT _ _ hie) hm hs' (emp_ok hx' hc))
                  · split at he
                    · rename_i hc
                      obtain ⟨rfl, rfl, rfl, h3, h4, h5, h6, h7⟩ := hc
                      cases he
                      exact hgo (does_appendV h (hT _ _ ht) rfl (hT _ _ hie) h4 hm hs' h3 (srcT_ok h hx' hsrc h5) h5 h6 (by simp only [maxLen]; omega))
                    · cases he
                · cases he
              · cases he
            · cases he
          · cases he
        · cases he
      · cases he
    · cases he
end
end Go.Pm
namespace Go.Pm
open Go.RowKit

/-! ### Contracts -/
def D.le (x y : D) : Prop := ∀ μ v, RepD μ x v → RepD μ y v
theorem D.le_refl (x : D) : D.le x x := fun _ _ h => h
theorem D.nil_le : D.le .nil (.slice []) := fun _ _ h => h.of_nil
inductive LeL : List D → List D → Prop
  | nil : LeL [] []
  | cons {x y : D} {xs ys : List D} (h : D.le x y) (t : LeL xs ys) : LeL (x :: xs) (y :: ys)
theorem LeL.refl : ∀ xs : List D, LeL xs xs
  | [] => .nil
  | x :: xs => .cons (D.le_refl x) (LeL.refl xs)
theorem RepV.le {μ : Mu} {xs ys : List D} {vs : List Value} (h : RepV μ xs vs) (hl : LeL xs ys) : RepV μ ys vs := by
  induction hl generalizing vs with
  | nil => exact h
  | cons h1 t ih =>
    cases h with
    | cons h2 t2 => exact .cons (h1 _ _ h2) (ih t2)
inductive RepR (μ : Mu) : List D → Value → Prop
  | one {x : D} {v : Value} (h : RepD μ x v) : RepR μ [x] v
  | many {xs : List D} {vs : List Value} (hn : xs.length ≠ 1) (h : RepV μ xs vs) : RepR μ xs (.tuple vs.toArray)
def resT : List D → T
  | [x] => .d x
  | xs => .tup (xs.map .d)
theorem RepR.rep {μ : Mu} {L : Loc} {m : Mem} {rs : List D} {v : Value} (h : RepR μ rs v) : RepT μ L m (resT rs) v := by
  cases h with
  | one h => exact .d h
  | @many _ vs hn h =>
    have : resT rs = .tup (rs.map .d) := by
      unfold resT
      split
      · simp at hn
      · rfl
    rw [this]
    refine .tup (by rw [h.length]; simp) fun i x hx => ?_
    rw [List.getElem?_map] at hx
    cases hq : rs[i]? with
    | none => rw [hq] at hx; cases hx
    | some y =>
      rw [hq] at hx
      simp at hx
      subst hx
      obtain ⟨v, h1, h2⟩ := h.get i y hq
      have : vs.getD i undef = v := by rw [List.getD_eq_getElem?_getD, h1]; rfl
      rw [this]
      exact .d h2

/-- What a call leaves: its results, in a snapshot that has taken in new blocks alone; all that was there as it was. -/
def Left (w0 : World) (μ0 : Mu) (rs : List D) (e : Ending) (w' : World) : Prop :=
  ∃ v μ', e = .returned v ∧ RepR μ' rs v ∧ Mu.le μ0 μ' ∧ (∀ a u, μ' a = some u → w'.cell? a = some u) ∧ (∀ a u, μ' a = some u → μ0 a = some u ∨ w0.heap.size ≤ a.block) ∧ Fr w0 (fun _ => False) w'
/-- Called with these data the function answers these. -/
def Spec (P : Program) (g : FuncId) (ys rs : List D) : Prop :=
  ∀ (w0 : World) (μ0 : Mu) (vs : List Value), (∀ a u, μ0 a = some u → w0.cell? a = some u) → RepV μ0 ys vs →
    ((callFunc g vs.toArray).run P w0 = .ok (.enter g vs.toArray) w0 ∧ Calls P g vs.toArray w0 (Left w0 μ0 rs)) ∨
    (∃ v, (callFunc g vs.toArray).run P w0 = .ok (.value v) w0 ∧ RepR μ0 rs v)


/-! ### Contracts of functions that write what they are handed -/
inductive A where
  | d (x : D)
  | obj (k off : Nat)
  | view (k sz off n : Nat)
inductive R where
  | d (x : D)
  | fresh (sz n : Nat) (cs : List D)
inductive RepA (μ : Mu) (bs rm : List Nat) : A → Value → Prop
  | d {x : D} {v : Value} (h : RepD μ x v) : RepA μ bs rm (.d x) v
  | obj {k off b : Nat} (hb : bs[k]? = some b) : RepA μ bs rm (.obj k off) (.pointer (some ⟨b, off, none⟩))
  | view {k sz off n b r cap : Nat} {A : Addr} (hb : bs[k]? = some b) (hr : rm[k]? = some r) (hA : 0 < cap → A = ⟨b, off, none⟩) (h1 : off + cap * sz ≤ r) (h2 : n ≤ cap) (h3 : cap ≤ maxLen) : RepA μ bs rm (.view k sz off n) (.slice (some A) n cap)
inductive RepAs (μ : Mu) (bs rm : List Nat) : List A → List Value → Prop
  | nil : RepAs μ bs rm [] []
  | cons {x : A} {xs : List A} {v : Value} {l : List Value} (h : RepA μ bs rm x v) (t : RepAs μ bs rm xs l) : RepAs μ bs rm (x :: xs) (v :: l)
theorem RepAs.length {μ : Mu} {bs rm : List Nat} {xs : List A} {l : List Value} (h : RepAs μ bs rm xs l) : l.length = xs.length := by
  induction h with
  | nil => rfl
  | cons _ _ ih => simp [ih]
theorem RepAs.get {μ : Mu} {bs rm : List Nat} {xs : List A} {l : List Value} (h : RepAs μ bs rm xs l) : ∀ (i : Nat) (x : A), xs[i]? = some x → ∃ v, l[i]? = some v ∧ RepA μ bs rm x v := by
  induction h with
  | nil => simp
  | cons h t ih =>
    intro i x hx
    cases i with
    | zero => simp at hx; subst hx; exact ⟨_, rfl, h⟩
    | succ i => simpa using ih i x (by simpa using hx)
theorem RepAs.append {μ : Mu} {bs rm : List Nat} {xs ys : List A} {us vs : List Value} (h : RepAs μ bs rm xs us) (k : RepAs μ bs rm ys vs) : RepAs μ bs rm (xs ++ ys) (us ++ vs) := by
  induction h with
  | nil => exact k
  | cons h3 t ih => exact .cons h3 ih
theorem RepV.toA {μ : Mu} {bs rm : List Nat} {xs : List D} {vs : List Value} (h : RepV μ xs vs) : RepAs μ bs rm (xs.map .d) vs := by
  induction h with
  | nil => exact .nil
  | cons h t ih => exact .cons (.d h) ih
/-- Blocks of cells, each with its data at its beginning. -/
structure Objs (w : World) (μ : Mu) (bs rm : List Nat) (css : List (List D)) : Prop where
  len : bs.length = css.length
  rlen : rm.length = css.length
  nodup : bs.Nodup
  off : ∀ a v, μ a = some v → a.block ∉ bs
  cells : ∀ (k b r : Nat) (cs : List D), bs[k]? = some b → rm[k]? = some r → css[k]? = some cs → ∃ vs e, w.heap[b]? = some (.cells vs e (0, 0)) ∧ cs.length ≤ vs.size ∧ vs.size = r ∧
    ∀ (i : Nat) (x : D), cs[i]? = some x → ∃ v, vs[i]? = some v ∧ v.oneCell' = true ∧ RepD μ x v
inductive RepR1 (w0 w : World) (μ : Mu) : R → Value → Prop
  | d {x : D} {v : Value} (h : RepD μ x v) : RepR1 w0 w μ (.d x) v
  | fresh {sz n b cap e : Nat} {A : Addr} {cs : List D} {vs : Array Value} (hA : 0 < cap → A = ⟨b, 0, none⟩) (h0 : w0.heap.size ≤ b) (hoff : ∀ a v, μ a = some v → a.block ≠ b) (hh : w.heap[b]? = some (.cells vs e (0, 0))) (hl : cs.length ≤ vs.size) (hc : cap * sz ≤ vs.size) (hn : n ≤ cap) (hm : cap ≤ maxLen)
      (hv : ∀ (i : Nat) (x : D), cs[i]? = some x → ∃ v, vs[i]? = some v ∧ v.oneCell' = true ∧ RepD μ x v) : RepR1 w0 w μ (.fresh sz n cs) (.slice (some A) n cap)
inductive RepRs (w0 w : World) (μ : Mu) : List R → List Value → Prop
  | nil : RepRs w0 w μ [] []
  | cons {x : R} {xs : List R} {v : Value} {l : List Value} (h : RepR1 w0 w μ x v) (t : RepRs w0 w μ xs l) : RepRs w0 w μ (x :: xs) (v :: l)
theorem RepRs.length {w0 w : World} {μ : Mu} {xs : List R} {l : List Value} (h : RepRs w0 w μ xs l) : l.length = xs.length := by
  induction h with
  | nil => rfl
  | cons _ _ ih => simp [ih]
theorem RepRs.get {w0 w : World} {μ : Mu} {xs : List R} {l : List Value} (h : RepRs w0 w μ xs l) : ∀ (i : Nat) (x : R), xs[i]? = some x → ∃ v, l[i]? = some v ∧ RepR1 w0 w μ x v := by
  induction h with
  | nil => simp
  | cons h t ih =>
    intro i x hx
    cases i with
    | zero => simp at hx; subst hx; exact ⟨_, rfl, h⟩
    | succ i => simpa using ih i x (by simpa using hx)
inductive RepRR (w0 w : World) (μ : Mu) : List R → Value → Prop
  | one {x : R} {v : Value} (h : RepR1 w0 w μ x v) : RepRR w0 w μ [x] v
  | many {xs : List R} {vs : List Value} (hn : xs.length ≠ 1) (h : RepRs w0 w μ xs vs) : RepRR w0 w μ xs (.tuple vs.toArray)
def LeftR (w0 : World) (μ0 : Mu) (bs rm : List Nat) (rs : List R) (css' : List (List D)) (e : Ending) (w' : World) : Prop :=
  ∃ v μ', e = .returned v ∧ RepRR w0 w' μ' rs v ∧ Mu.le μ0 μ' ∧ (∀ a u, μ' a = some u → w'.cell? a = some u) ∧ (∀ a u, μ' a = some u → μ0 a = some u ∨ w0.heap.size ≤ a.block) ∧ Fr w0 (· ∈ bs) w' ∧ Objs w' μ' bs rm css'
/-- Called with these arguments, what they lead to being css, the function answers rs and leaves css'. -/
def SpecR (P : Program) (g : FuncId) (as : List A) (css : List (List D)) (rs : List R) (css' : List (List D)) : Prop :=
  ∀ (w0 : World) (μ0 : Mu) (bs rm : List Nat) (vs : List Value), (∀ a u, μ0 a = some u → w0.cell? a = some u) → (∀ b ∈ bs, b < w0.heap.size) → Objs w0 μ0 bs rm css → RepAs μ0 bs rm as vs →
    (callFunc g vs.toArray).run P w0 = .ok (.enter g vs.toArray) w0 ∧ Calls P g vs.toArray w0 (LeftR w0 μ0 bs rm rs css')
end Go.Pm
namespace Go.Pm
open Go.RowKit

def idx : List Nat → Nat → Option Nat
  | [], _ => none
  | i :: r, x => if i = x then some 0 else (idx r x).map (· + 1)
theorem idx_get : ∀ {l : List Nat} {x k : Nat}, idx l x = some k → l[k]? = some x
  | [], x, k, h => by cases h
  | i :: r, x, k, h => by
    unfold idx at h
    split at h
    · rename_i e
      injection h with h
      subst h e
      rfl
    · obtain ⟨j, h1, h2⟩ := Option.map_eq_some_iff.1 h
      subst h2
      simpa using idx_get h1
def boxWith (m : Mem) (id : Nat) (cs : List D) : Own := match m id with
  | some (.box g _) => .box g (cs.map .d)
  | _ => .box 0 (cs.map .d)
def updB (m0 : Mem) : Mem → List Nat → List (List D) → Mem
  | m, id :: ids, cs :: css => setM (updB m0 m ids css) id (boxWith m0 id cs)
  | m, _, _ => m
theorem updB_ne (m0 m : Mem) : ∀ {ids : List Nat} {css : List (List D)} {i : Nat}, i ∉ ids → updB m0 m ids css i = m i
  | [], _, i, _ => by simp [updB]
  | id :: ids, [], i, _ => by simp [updB]
  | id :: ids, cs :: css, i, h => by
    rw [List.mem_cons, not_or] at h
    rw [updB, setM_ne _ _ (fun e => h.1 e.symm), updB_ne m0 m h.2]
theorem updB_at (m0 m : Mem) : ∀ {ids : List Nat} {css : List (List D)} {k id : Nat} {cs : List D}, ids.Nodup → ids[k]? = some id → css[k]? = some cs → updB m0 m ids css id = some (boxWith m0 id cs)
  | [], _, k, id, cs, _, h, _ => by simp at h
  | i :: ids, [], k, id, cs, _, _, h => by simp at h
  | i :: ids, c :: css, 0, id, cs, _, h1, h2 => by
    simp at h1 h2
    subst h1 h2
    rw [updB, setM_self]
  | i :: ids, c :: css, k + 1, id, cs, hn, h1, h2 => by
    rw [List.nodup_cons] at hn
    simp at h1 h2
    have hne : i ≠ id := fun e => by subst e; exact hn.1 (List.mem_of_getElem? h1)
    rw [updB, setM_ne _ _ hne, updB_at m0 m hn.2 h1 h2]
section
variable {P : Program} {c : Ctx} {m : Mem} {μ : Mu} {L : Loc} {ow : Nat → Option Nat} {w : World}

theorem Inv.called (h : Inv c m μ L ow w) {ids : List Nat} (hb : ∀ id ∈ ids, ∃ g cs, m id = some (.box g cs)) (hnd : ids.Nodup) {w' : World} {μ' : Mu} {css' : List (List D)} (hle : Mu.le μ μ')
    (hmu' : ∀ a u, μ' a = some u → w'.cell? a = some u) (hnew : ∀ a u, μ' a = some u → μ a = some u ∨ w.heap.size ≤ a.block) (hfr : Fr w (· ∈ ids.map L.blk) w') (hob : Objs w' μ' (ids.map L.blk) (ids.map L.room) css') :
    Inv c (updB m m ids css') μ' L ow w' ∧ Stays L m L (updB m m ids css') := by
  have hlen : ids.length = css'.length := by simpa using hob.len
  have hat : ∀ id ∈ ids, ∃ (k : Nat) (cs : List D) (g : Nat) (cs0 : List T), ids[k]? = some id ∧ css'[k]? = some cs ∧ m id = some (.box g cs0) ∧ updB m m ids css' id = some (.box g (cs.map .d)) := by
    intro id hid
    obtain ⟨k, hk⟩ := List.mem_iff_getElem?.1 hid
    have hlt : k < css'.length := by rw [← hlen]; exact (List.getElem?_eq_some_iff.1 hk).1
    obtain ⟨g, cs0, hm⟩ := hb id hid
    refine ⟨k, css'[k], g, cs0, hk, List.getElem?_eq_getElem hlt, hm, ?_⟩
    rw [updB_at m m hnd hk (List.getElem?_eq_getElem hlt)]
    simp only [boxWith, hm]
  have hst : Stays L m L (updB m m ids css') := by
    refine ⟨fun id o g hi hg => ?_, fun id e sz n hi => ?_⟩
    · by_cases hid : id ∈ ids
      · obtain ⟨k, cs, g', cs0, h1, h2, h3, h4⟩ := hat id hid
        rw [hi] at h3
        injection h3 with h3
        subst h3
        exact ⟨_, g, h4, hg, Nat.le_refl _, fun _ => ⟨rfl, rfl⟩⟩
      · exact ⟨o, g, by rw [updB_ne m m hid, hi], hg, Nat.le_refl _, fun _ => ⟨rfl, rfl⟩⟩
    · have hid : id ∉ ids := fun q => by obtain ⟨g, cs, h1⟩ := hb id q; rw [hi] at h1; cases h1
      exact ⟨n, by rw [updB_ne m m hid, hi], Nat.le_refl _, fun _ => rfl⟩
  have hne : ∀ b i, ow b = some i → i ∉ ids → b ∉ ids.map L.blk := by
    intro b i ho hi q
    obtain ⟨j, hj, rfl⟩ := List.mem_map.1 q
    obtain ⟨g, cs, h1⟩ := hb j hj
    have := (h.box j g cs h1).1
    rw [ho] at this
    injection this with this
    subst this
    exact hi hj
  have hkeep : ∀ b i, ow b = some i → i ∉ ids → w'.heap[b]? = w.heap[b]? := fun b i ho hi => hfr.block b (h.own b i ho).1 (hne b i ho hi)
  refine ⟨⟨?_, hmu', fun a v ha => hle a v (h.mu0 a v ha), ?_, ?_, ?_, ?_, ?_, ?_⟩, hst⟩
  · refine ⟨hfr.os.trans h.fr.os, hfr.tape.trans h.fr.tape, hfr.output.trans h.fr.output, Nat.le_trans h.fr.size hfr.size, fun k hk hS => ?_⟩
    rw [hfr.block k (Nat.lt_of_lt_of_le hk h.fr.size) (fun q => ?_)]
    · exact h.fr.block k hk hS
    · obtain ⟨j, hj, rfl⟩ := List.mem_map.1 q
      obtain ⟨g, cs, h1⟩ := hb j hj
      rcases (h.own _ _ (h.box j g cs h1).1).2 with h' | h'
      · omega
      · exact hS h'
  · intro a v ha
    rcases hnew a v ha with h1 | h1
    · exact h.muNew a v h1
    · exact .inr (Nat.le_trans h.fr.size h1)
  · intro a v ha id ho
    rcases hnew a v ha with h1 | h1
    · obtain ⟨e, sz, n, hm, hoff⟩ := h.muOwn a v h1 id ho
      have hid : id ∉ ids := fun q => by obtain ⟨g, cs, h2⟩ := hb id q; rw [hm] at h2; cases h2
      exact ⟨e, sz, n, by rw [updB_ne m m hid, hm], hoff⟩
    · have := (h.own _ _ ho).1; omega
  · exact fun b id ho => ⟨Nat.lt_of_lt_of_le (h.own b id ho).1 hfr.size, (h.own b id ho).2⟩
  · intro id g cs hi
    by_cases hid : id ∈ ids
    · obtain ⟨k, cs', g', cs0, h1, h2, h3, h4⟩ := hat id hid
      rw [h4] at hi
      injection hi with hi
      injection hi with hi1 hi2
      subst hi1 hi2
      obtain ⟨ho, _, _, _, _, hroom, _⟩ := h.box id g' cs0 h3
      obtain ⟨vs, e, k1, k2, k3, k4⟩ := hob.cells k (L.blk id) (L.room id) cs' (by simp [h1]) (by simp [h1]) h2
      refine ⟨ho, vs, e, k1, by simpa using k2, k3, fun i x hx => ?_⟩
      rw [List.getElem?_map] at hx
      cases hq : cs'[i]? with
      | none => rw [hq] at hx; cases hx
      | some y =>
        rw [hq] at hx
        simp at hx
        subst hx
        obtain ⟨v, q1, q2, q3⟩ := k4 i y hq
        exact ⟨v, q1, q2, .d q3⟩
    · rw [updB_ne m m hid] at hi
      obtain ⟨ho, vs, e, hh, hs, hroom, hv⟩ := h.box id g cs hi
      refine ⟨ho, vs, e, (hkeep _ _ ho hid).trans hh, hs, hroom, fun i x hx => ?_⟩
      obtain ⟨v, q1, q2, q3⟩ := hv i x hx
      exact ⟨v, q1, q2, q3.mono hle hst⟩
  · intro id e sz n hi
    have hid : id ∉ ids := fun q => by
      obtain ⟨k, cs', g', cs0, h1, h2, h3, h4⟩ := hat id q
      rw [h4] at hi; cases hi
    rw [updB_ne m m hid] at hi
    obtain ⟨h0, ⟨cells, hr⟩, ho⟩ := h.tok id e sz n hi
    exact ⟨h0, ⟨cells, rowAt_keep hr fun b hb' => hkeep b _ (ho b hb').1 hid⟩, ho⟩
  · intro id g cs hi
    have hid : id ∉ ids := fun q => by
      obtain ⟨k, cs', g', cs0, h1, h2, h3, h4⟩ := hat id q
      rw [h4] at hi; cases hi
    rw [updB_ne m m hid] at hi
    exact (h.froz id g cs hi).mono hle

/-- What a call has made is taken over. -/
theorem Inv.adopt (h : Inv c m μ L ow w) {d b e : Nat} {vs : Array Value} {cs : List D} (hd : m d = none) (hb : ow b = none) (hnew : c.w0.heap.size ≤ b) (hoff : ∀ a v, μ a = some v → a.block ≠ b)
    (hh : w.heap[b]? = some (.cells vs e (0, 0))) (hl : cs.length ≤ vs.size) (hv : ∀ (i : Nat) (x : D), cs[i]? = some x → ∃ v, vs[i]? = some v ∧ v.oneCell' = true ∧ RepD μ x v) :
    Inv c (setM m d (.box 0 (cs.map .d))) μ (L.setBlk d b vs.size) (setOw ow b d) w ∧ Stays L m (L.setBlk d b vs.size) (setM m d (.box 0 (cs.map .d))) := by
  have hst : Stays L m (L.setBlk d b vs.size) (setM m d (.box 0 (cs.map .d))) := Stays.new L hd _ _ (fun i hi => by simp [Loc.setBlk, hi]) (fun i hi => by simp [Loc.setBlk, hi]) (fun i _ => rfl)
  have hne : ∀ b' i, ow b' = some i → b' ≠ b := fun b' i ho q => by rw [q, hb] at ho; cases ho
  refine ⟨⟨h.fr, h.mu, h.mu0, h.muNew, ?_, ?_, ?_, ?_, ?_⟩, hst⟩
  · intro a v ha i hi
    unfold setOw at hi
    rw [if_neg (hoff a v ha)] at hi
    obtain ⟨e', sz, n, hm, ho⟩ := h.muOwn a v ha i hi
    have : d ≠ i := fun q => by rw [← q, hd] at hm; cases hm
    exact ⟨e', sz, n, by rw [setM_ne m _ this, hm], ho⟩
  · intro b' i hi
    unfold setOw at hi
    split at hi
    · rename_i q
      subst q
      exact ⟨(Array.getElem?_eq_some_iff.1 hh).1, .inl hnew⟩
    · exact h.own b' i hi
  · intro i g cs' hi
    by_cases he : d = i
    · subst he
      rw [setM_self] at hi
      injection hi with hi
      injection hi with hi1 hi2
      subst hi1 hi2
      refine ⟨by simp [Loc.setBlk, setOw], vs, e, by simpa [Loc.setBlk] using hh, by simpa using hl, by simp [Loc.setBlk], fun j x hx => ?_⟩
      rw [List.getElem?_map] at hx
      cases hq : cs[j]? with
      | none => rw [hq] at hx; cases hx
      | some y =>
        rw [hq] at hx
        simp at hx
        subst hx
        obtain ⟨v, q1, q2, q3⟩ := hv j y hq
        exact ⟨v, q1, q2, .d q3⟩
    · rw [setM_ne m _ he] at hi
      obtain ⟨ho, vs', e', hh', hs', hr', hv'⟩ := h.box i g cs' hi
      have he' : i ≠ d := fun q => he q.symm
      refine ⟨by simp [Loc.setBlk, he', setOw, hne _ _ ho, ho], vs', e', by simpa [Loc.setBlk, he'] using hh', hs', by simp [Loc.setBlk, he', hr'], fun j x hx => ?_⟩
      obtain ⟨v, h1, h2, h3⟩ := hv' j x hx
      exact ⟨v, h1, h2, h3.mono (Mu.le_refl _) hst⟩
  · intro i e' sz n hi
    have he : d ≠ i := fun q => by subst q; rw [setM_self] at hi; cases hi
    rw [setM_ne m _ he] at hi
    obtain ⟨h0, h1, h2⟩ := h.tok i e' sz n hi
    exact ⟨h0, h1, fun b' hb' => ⟨by simp [setOw, hne _ _ (h2 b' hb').1, (h2 b' hb').1], (h2 b' hb').2⟩⟩
  · intro i g cs' hi
    have he : d ≠ i := fun q => by subst q; rw [setM_self] at hi; cases hi
    have he' : i ≠ d := fun q => he q.symm
    rw [setM_ne m _ he] at hi
    simpa [Loc.setBlk, he'] using h.froz i g cs' hi
end
end Go.Pm
namespace Go.Pm
open Go.RowKit

/-! ### Lists of operations -/
structure X where
  P : Program
  tab : Tab
  ok : TabOK P tab
  mixed : P.follows .mixedOrders = true
  refs : Bool
def St.putO (σ : St) : Option Nat → T → St
  | some d, x => σ.put d x
  | none, _ => σ
def St.upd (σ : St) : Upd → St
  | none => σ
  | some (id, o) => σ.set id o
theorem St.upd_m (σ : St) (u : Upd) : (σ.upd u).m = σ.m.upd u := by
  cases u with
  | none => rfl
  | some p => exact look_set _ _ _
theorem St.upd_env (σ : St) (u : Upd) : (σ.upd u).env = σ.env := by cases u <;> rfl
def callOf : Op → Option (Operand × List Operand)
  | .call cl => match cl.callee with
    | .value f => some (f, cl.args.toList)
    | _ => none
  | _ => none
def gtmp (ops : Array Oper) (j : Nat) : Option Tmp := (ops[j]?).bind (·.dst)
/-- Arguments, some of which lead to what may be written. -/
def argA (m : Mem) (ids : List Nat) : T → Option A
  | .d x => some (.d x)
  | .own _ xs => some (.d (.slice xs))
  | .obj id g off => match m id, idx ids id with
    | some (.box g' _), some k => if g' = g then some (.obj k off) else none
    | _, _ => none
  | .view id g sz off n => match m id, idx ids id with
    | some (.box g' _), some k => if g' = g then some (.view k sz off n) else none
    | _, _ => none
  | _ => none
def argsA (m : Mem) (ids : List Nat) (ρ : Operand → Option T) : List Operand → Option (List A)
  | [] => some []
  | x :: xs => match (ρ x).bind (argA m ids), argsA m ids ρ xs with
    | some y, some ys => some (y :: ys)
    | _, _ => none
inductive LeA : List A → List A → Prop
  | nil : LeA [] []
  | d {x y : D} {xs ys : List A} (h : D.le x y) (t : LeA xs ys) : LeA (.d x :: xs) (.d y :: ys)
  | same (x : A) {xs ys : List A} (t : LeA xs ys) : LeA (x :: xs) (x :: ys)
theorem LeA.refl : ∀ xs : List A, LeA xs xs
  | [] => .nil
  | x :: xs => .same x (LeA.refl xs)
theorem RepAs.le {μ : Mu} {bs rm : List Nat} {xs ys : List A} {vs : List Value} (h : RepAs μ bs rm xs vs) (hl : LeA xs ys) : RepAs μ bs rm ys vs := by
  induction hl generalizing vs with
  | nil => exact h
  | d h1 t ih =>
    cases h with
    | cons h2 t2 =>
      cases h2 with
      | d h2 => exact .cons (.d (h1 _ _ h2)) (ih t2)
  | same x t ih =>
    cases h with
    | cons h2 t2 => exact .cons h2 (ih t2)
def boxesOf (m : Mem) : List Nat → Option (List (List D))
  | [] => some []
  | id :: ids => match m id with
    | some (.box _ cs) => match allD cs, boxesOf m ids with
      | some ds, some css => some (ds :: css)
      | _, _ => none
    | _ => none
def freshOf : List R → List (List D)
  | [] => []
  | .d _ :: r => freshOf r
  | .fresh _ _ cs :: r => cs :: freshOf r
def R.t (d : Nat) : R → T
  | .d x => .d x
  | .fresh sz n _ => .view d 0 sz 0 n
def resTR (d : Nat) : List R → T
  | [x] => x.t d
  | xs => .tup (xs.map (R.t d))
def updBL (m0 : Mem) (l : List (Nat × Own)) : List Nat → List (List D) → List (Nat × Own)
  | id :: ids, cs :: css => (id, boxWith m0 id cs) :: updBL m0 l ids css
  | _, _ => l
theorem look_updBL (m0 : Mem) (l : List (Nat × Own)) : ∀ (ids : List Nat) (css : List (List D)), look (updBL m0 l ids css) = updB m0 (look l) ids css
  | id :: ids, cs :: css => by rw [updBL, look_set, look_updBL m0 l ids css, updB]
  | [], _ => by simp [updBL, updB]
  | _ :: _, [] => by simp [updBL, updB]
def frU (d : Nat) (l : List (Nat × Own)) : List (List D) → List (Nat × Own)
  | cs :: _ => (d, .box 0 (cs.map .d)) :: l
  | [] => l
/-- The state behind a call of a function that writes. -/
def St.after (σ : St) (ids : List Nat) (css' : List (List D)) (rs : List R) (dst : Option Nat) : St :=
  (⟨σ.env, frU (dst.getD 0) (updBL σ.m σ.mem ids css') (freshOf rs)⟩ : St).putO dst (resTR (dst.getD 0) rs)
/-- A call of a function that writes what it is handed, or makes what is written later. -/
def WRef (x : X) (N : Nat) (dst : Option Nat) (f : Operand) (args : List Operand) (σ : St) (K : St → Prop) : Prop :=
  ∃ g caps as zs ids css rs css', σ.ev f = some (.d (.fn g caps)) ∧ argsA σ.m ids σ.ev args = some as ∧ LeA (as ++ caps.map .d) zs ∧ boxesOf σ.m ids = some css ∧ ids.Nodup ∧ SpecR x.P g zs css rs css' ∧
    (dst.all (· < N) = true) ∧ (freshOf rs = [] ∨ (freshOf rs).length = 1 ∧ dst.isSome = true ∧ σ.m (dst.getD 0) = none) ∧ K (σ.after ids css' rs dst)
/-- One operation that is carried out. -/
def WOp (x : X) (N : Nat) (ref : Bool) (o : Oper) (σ : St) (K : St → Prop) : Prop :=
  match callOf o.op with
  | some (f, args) => (∃ g caps ys zs rs, σ.ev f = some (.d (.fn g caps)) ∧ allT σ.ev args = some ys ∧ LeL (ys ++ caps) zs ∧ Spec x.P g zs rs ∧ (o.dst.all (· < N) = true) ∧ K (σ.putO o.dst (resT rs))) ∨
    (ref = true ∧ WRef x N o.dst f args σ K)
  | none => match evOp x.tab σ.ev σ.m (o.dst.getD 0) o.op with
    | some (some y, u) => (o.dst.all (· < N) = true) ∧ K ((σ.upd u).putO o.dst y)
    | some (none, u) => o.dst = none ∧ K (σ.upd u)
    | none => ref = true ∧ match evX x.tab σ.ev σ.m (o.dst.getD 0) o.op with
      | some (y, u) => (o.dst.all (· < N) = true) ∧ K ((σ.upd u).putO o.dst y)
      | none => False
/-- What a guard finds. -/
def gvalT : Option T → Option (Option Bool)
  | some (.d (.bool b)) => some (some b)
  | some .un => some none
  | _ => none
def gval (ops : Array Oper) (env : List (Nat × T)) (j : Nat) : Option (Option Bool) := gvalT ((gtmp ops j).bind (look env))
def WOps (x : X) (N : Nat) (ref : Bool) (ops : Array Oper) : List Oper → St → (St → Prop) → Prop
  | [], σ, K => K σ
  | o :: r, σ, K => match o.guard with
    | none => WOp x N ref o σ fun σ' => WOps x N ref ops r σ' K
    | some (j, want) => match gval ops σ.env j with
      | some y => if y = some want then WOp x N ref o σ fun σ' => WOps x N ref ops r σ' K else o.dst.all (· < N) = true ∧ WOps x N ref ops r (σ.putO o.dst .un) K
      | none => False

theorem EnvOK.putO {c : Ctx} {μ : Mu} {L : Loc} {m : Mem} {env : List (Nat × T)} {mm : List (Nat × Own)} {a : Act} (h : EnvOK c μ L m env a) {d : Option Nat} (hd : d.all (· < c.n) = true) {x : T} {v : Value} (hv : RepT μ L m x v) : EnvOK c μ L m ((⟨env, mm⟩ : St).putO d x).env (a.put d v) := by
  cases d with
  | none => exact h
  | some d => exact h.put (by simpa using hd) hv

section
variable {c : Ctx} {m : Mem} {μ : Mu} {L : Loc} {ow : Nat → Option Nat} {w : World}
theorem argA_rep (h : Inv c m μ L ow w) {ids : List Nat} {t : T} {v : Value} (ht : RepT μ L m t v) {y : A} (hy : argA m ids t = some y) : RepA μ (ids.map L.blk) (ids.map L.room) y v := by
  unfold argA at hy
  split at hy
  · injection hy with hy; subst hy; cases ht; exact .d ‹_›
  · injection hy with hy; subst hy; exact .d (own_slice ht)
  · rename_i id g off
    split at hy
    · rename_i g' cs k hm hk
      split at hy
      · rename_i hg
        subst hg
        injection hy with hy
        subst hy
        cases ht with
        | obj h0 hg hle hA =>
          rw [hm] at h0
          injection h0 with h0
          subst h0
          cases hg
          rw [hA rfl]
          exact .obj (by simp [idx_get hk])
      · cases hy
    · cases hy
  · rename_i id g sz off n
    split at hy
    · rename_i g' cs k hm hk
      split at hy
      · rename_i hg
        subst hg
        injection hy with hy
        subst hy
        cases ht with
        | view h0 hg hle hA =>
          rw [hm] at h0
          injection h0 with h0
          subst h0
          cases hg
          obtain ⟨q1, q2, q3, q4⟩ := hA rfl
          exact .view (b := L.blk id) (r := L.room id) (by simp [idx_get hk]) (by simp [idx_get hk]) q1 q2 q3 q4
      · cases hy
    · cases hy
  · cases hy
theorem argsA_rep (h : Inv c m μ L ow w) {ids : List Nat} {ρT : Operand → Option T} {ρ : Operand → Value} (hρ : ∀ x t, ρT x = some t → RepT μ L m t (ρ x)) : ∀ {l : List Operand} {as : List A}, argsA m ids ρT l = some as → RepAs μ (ids.map L.blk) (ids.map L.room) as (l.map ρ)
  | [], as, ha => by simp only [argsA, Option.some.injEq] at ha; subst ha; exact .nil
  | x :: l, as, ha => by
    unfold argsA at ha
    split at ha
    · rename_i y ys hy hys
      injection ha with ha
      subst ha
      obtain ⟨t, h1, h2⟩ := bind_eq hy
      exact .cons (argA_rep h (hρ x t h1) h2) (argsA_rep h hρ hys)
    · cases ha
theorem boxesOf_len : ∀ {ids : List Nat} {css : List (List D)}, boxesOf m ids = some css → ids.length = css.length
  | [], css, h => by simp only [boxesOf, Option.some.injEq] at h; subst h; rfl
  | id :: ids, css, h => by
    unfold boxesOf at h
    split at h
    · split at h
      · rename_i ds css' h1 h2
        injection h with h
        subst h
        simp [boxesOf_len h2]
      · cases h
    · cases h
theorem boxesOf_get : ∀ {ids : List Nat} {css : List (List D)}, boxesOf m ids = some css → ∀ (k id : Nat), ids[k]? = some id → ∃ g cs ds, m id = some (.box g cs) ∧ allD cs = some ds ∧ css[k]? = some ds
  | [], css, h, k, id, hk => by simp at hk
  | i :: ids, css, h, k, id, hk => by
    unfold boxesOf at h
    split at h
    · rename_i g cs hm
      split at h
      · rename_i ds css' h1 h2
        injection h with h
        subst h
        cases k with
        | zero => simp at hk; subst hk; exact ⟨g, cs, ds, hm, h1, rfl⟩
        | succ k => simpa using boxesOf_get h2 k id (by simpa using hk)
      · cases h
    · cases h
theorem allD_length : ∀ {cs : List T} {ds : List D}, allD cs = some ds → ds.length = cs.length
  | [], ds, h => by simp only [allD, Option.some.injEq] at h; subst h; rfl
  | z :: zs, ds, h => by
    unfold allD at h
    split at h
    · rename_i y ys h1 h2
      injection h with h
      subst h
      simp [allD_length h2]
    · cases h
theorem objs_of (h : Inv c m μ L ow w) {ids : List Nat} {css : List (List D)} (hb : boxesOf m ids = some css) (hnd : ids.Nodup) : Objs w μ (ids.map L.blk) (ids.map L.room) css := by
  have hbox : ∀ id ∈ ids, ∃ g cs, m id = some (.box g cs) := fun id hid => by
    obtain ⟨k, hk⟩ := List.mem_iff_getElem?.1 hid
    obtain ⟨g, cs, ds, h1, _⟩ := boxesOf_get hb k id hk
    exact ⟨g, cs, h1⟩
  have how : ∀ id ∈ ids, ow (L.blk id) = some id := fun id hid => by
    obtain ⟨g, cs, h1⟩ := hbox id hid
    exact (h.box id g cs h1).1
  refine ⟨by simp [boxesOf_len hb], by simp [boxesOf_len hb], ?_, fun a v ha hq => ?_, fun k b r ds h1 h2 h3 => ?_⟩
  · rw [List.nodup_iff_pairwise_ne, List.pairwise_map]
    refine List.Pairwise.imp_of_mem ?_ (List.nodup_iff_pairwise_ne.1 hnd)
    intro a b ha hb' hne e
    have h1 := how a ha
    rw [e, how b hb'] at h1
    injection h1 with h1
    exact hne h1.symm
  · obtain ⟨id, hid, e⟩ := List.mem_map.1 hq
    obtain ⟨g, cs, h1⟩ := hbox id hid
    obtain ⟨e', sz, n, hm, _⟩ := h.muOwn a v ha id (by rw [← e]; exact how id hid)
    rw [h1] at hm
    cases hm
  · rw [List.getElem?_map] at h1 h2
    cases hq : ids[k]? with
    | none => rw [hq] at h1; cases h1
    | some id =>
      rw [hq] at h1 h2
      simp only [Option.map_some, Option.some.injEq] at h1 h2
      subst h1 h2
      obtain ⟨g, cs, ds', k1, k2, k3⟩ := boxesOf_get hb k id hq
      rw [h3] at k3
      injection k3 with k3
      subst k3
      obtain ⟨ho, vs, e, hh, hs, hroom, hv⟩ := h.box id g cs k1
      obtain ⟨r, hr, hg⟩ := allD_rep (vs := vs) (o := 0) k2 fun i z hz => by rw [Nat.zero_add]; exact hv i z hz
      have hl : ds.length = cs.length := allD_length k2
      refine ⟨vs, e, hh, by omega, hroom, fun i y hy => ?_⟩
      obtain ⟨u, q1, q2, q3⟩ := hr.get i y hy
      exact ⟨u, by have := hg i u q1; rwa [Nat.zero_add] at this, q3, q2⟩
end
theorem rep_plain {w0 w : World} {μ : Mu} {L : Loc} {m : Mem} {d : Nat} {rs : List R} {vs : List Value} (h : RepRs w0 w μ rs vs) (hf : freshOf rs = []) : ∀ (i : Nat) (x : R), rs[i]? = some x → RepT μ L m (x.t d) (vs.getD i undef) := by
  induction h with
  | nil => simp
  | @cons x xs v l h t ih =>
    cases h with
    | d h =>
      intro i y hy
      cases i with
      | zero => simp at hy; subst hy; exact .d h
      | succ i => simpa using ih hf i y (by simpa using hy)
    | fresh => simp [freshOf] at hf
theorem rep_fresh {w0 w : World} {μ : Mu} {d : Nat} {rs : List R} {vs : List Value} {cs : List D} (h : RepRs w0 w μ rs vs) (hf : freshOf rs = [cs]) :
    ∃ (b e : Nat) (bl : Array Value), w0.heap.size ≤ b ∧ (∀ a v, μ a = some v → a.block ≠ b) ∧ w.heap[b]? = some (.cells bl e (0, 0)) ∧ cs.length ≤ bl.size ∧ (∀ (i : Nat) (x : D), cs[i]? = some x → ∃ v, bl[i]? = some v ∧ v.oneCell' = true ∧ RepD μ x v) ∧
      ∀ (L : Loc) (m : Mem) (cc : List T), L.blk d = b → L.room d = bl.size → m d = some (.box 0 cc) → ∀ (i : Nat) (x : R), rs[i]? = some x → RepT μ L m (x.t d) (vs.getD i undef) := by
  induction h with
  | nil => simp [freshOf] at hf
  | @cons x xs v l h t ih =>
    cases h with
    | d h =>
      obtain ⟨b, e, bl, h1, h2, h3, h4, h5, h6⟩ := ih hf
      refine ⟨b, e, bl, h1, h2, h3, h4, h5, fun L m cc k1 k2 k3 i y hy => ?_⟩
      cases i with
      | zero => simp at hy; subst hy; exact .d h
      | succ i => simpa using h6 L m cc k1 k2 k3 i y (by simpa using hy)
    | @fresh sz n b cap e A cs' bl hA h0 hoff hh hl hc hn hm hv =>
      simp only [freshOf, List.cons.injEq] at hf
      obtain ⟨rfl, hf⟩ := hf
      refine ⟨b, e, bl, h0, hoff, hh, hl, hv, fun L m cc k1 k2 k3 i y hy => ?_⟩
      cases i with
      | zero =>
        simp at hy
        subst hy
        exact .view k3 rfl (Nat.le_refl _) fun _ => ⟨fun q => by rw [k1]; exact hA q, by rw [k2, Nat.zero_add]; exact hc, hn, hm⟩
      | succ i => simpa using rep_plain t hf i y (by simpa using hy)
theorem rep_resTR {w0 w : World} {μ : Mu} {L : Loc} {m : Mem} {d : Nat} {rs : List R} {vs : List Value} (hl : vs.length = rs.length) (h : ∀ (i : Nat) (x : R), rs[i]? = some x → RepT μ L m (x.t d) (vs.getD i undef)) {v : Value} (hv : (∃ u, rs.length = 1 ∧ vs = [u] ∧ v = u) ∨ (rs.length ≠ 1 ∧ v = .tuple vs.toArray)) : RepT μ L m (resTR d rs) v := by
  rcases hv with ⟨u, h1, rfl, rfl⟩ | ⟨h1, rfl⟩
  · cases rs with
    | nil => simp at h1
    | cons x r =>
      cases r with
      | nil => simpa [resTR] using h 0 x rfl
      | cons => simp at h1
  · have : resTR d rs = .tup (rs.map (R.t d)) := by
      unfold resTR
      split
      · simp at h1
      · rfl
    rw [this]
    refine .tup (by simp [hl]) fun i x hx => ?_
    rw [List.getElem?_map] at hx
    cases hq : rs[i]? with
    | none => rw [hq] at hx; cases hx
    | some y =>
      rw [hq] at hx
      simp at hx
      subst hx
      exact h i y hq
theorem RepRR.split {w0 w : World} {μ : Mu} {rs : List R} {v : Value} (h : RepRR w0 w μ rs v) : ∃ vs, RepRs w0 w μ rs vs ∧ ((∃ u, rs.length = 1 ∧ vs = [u] ∧ v = u) ∨ (rs.length ≠ 1 ∧ v = .tuple vs.toArray)) := by
  cases h with
  | one h => exact ⟨[v], .cons h .nil, .inl ⟨v, rfl, rfl, rfl⟩⟩
  | many hn h => exact ⟨_, h, .inr ⟨hn, rfl⟩⟩
theorem putO_m (σ : St) (d : Option Nat) (t : T) : (σ.putO d t).m = σ.m := by cases d <;> rfl
theorem WRef_ok {x : X} {c : Ctx} {o : Oper} {f : Operand} {args : List Operand} {σ : St} {K : St → Prop} {a : Act} {w : World} {next : Act → World → Prop} {Q : Exit → Act → World → Prop} {μ : Mu} {L : Loc} {ow : Nat → Option Nat}
    (hc : callOf o.op = some (f, args)) (h : WRef x c.n o.dst f args σ K) (hi : Inv c σ.m μ L ow w) (he : EnvOK c μ L σ.m σ.env a) (hK : ∀ σ' a' w', K σ' → Sim c σ' a' w' → next a' w') : o.wp x.P a w next Q := by
  have hρ : ∀ y t, σ.ev y = some t → RepT μ L σ.m t (a.eval y) := fun y t hy => ev_rep he hy
  obtain ⟨g, caps, as, zs, ids, css, rs, css', hf, hargs, hle, hbox, hnd, hspec, hd, hfr1, hk⟩ := h
  obtain ⟨dst, op, ty, pos, after, guard⟩ := o
  cases op <;> simp only [callOf] at hc <;> try (cases hc; done)
  rename_i cl
  obtain ⟨callee, cargs, tys⟩ := cl
  cases callee <;> simp only [] at hc <;> try (cases hc; done)
  rename_i fo
  simp only [Option.some.injEq, Prod.mk.injEq] at hc
  obtain ⟨rfl, rfl⟩ := hc
  have hf' := hρ _ _ hf
  have hav := argsA_rep hi hρ hargs
  cases hf' with
  | d hf' =>
    generalize hfv : a.eval fo = fv at hf'
    cases hf' with
    | @fn _ _ l hl =>
      have hcv : RepV μ caps l := by
        clear hle hf hspec hk hfv
        revert l
        induction caps with
        | nil => intro l hl; cases hl; exact .nil
        | cons y ys ih => intro l hl; cases hl with | cons h1 h2 t => exact .cons h1 (ih t)
      have hall := (hav.append hcv.toA).le hle
      have hop : ∀ nx w', (callFunc g ((cargs.toList.map a.eval) ++ l).toArray).run x.P w = .ok nx w' → (execOp a.eval ⟨dst, .call ⟨.value fo, cargs, tys⟩, ty, pos, after, guard⟩).run x.P w = .ok nx w' := by
        intro nx w' hr
        have e1 : (cargs.toList.map a.eval ++ l).toArray = cargs.map a.eval ++ l.toArray := by
          rw [← Array.toList_map]
          apply Array.ext'
          simp
        rw [e1] at hr
        simp [execOp, resolve, hfv, Deferred.ofValue, invoke, hr]
      have hbx : ∀ id ∈ ids, ∃ g cs, σ.m id = some (.box g cs) := fun id hid => by
        obtain ⟨k, hk⟩ := List.mem_iff_getElem?.1 hid
        obtain ⟨g, cs, ds, h1, _⟩ := boxesOf_get hbox k id hk
        exact ⟨g, cs, h1⟩
      obtain ⟨hr, hcalls⟩ := hspec w μ (ids.map L.blk) (ids.map L.room) _ hi.mu (fun b hb => by
        obtain ⟨id, hid, rfl⟩ := List.mem_map.1 hb
        obtain ⟨g', cs', h1⟩ := hbx id hid
        exact (hi.own _ _ (hi.box id g' cs' h1).1).1) (objs_of hi hbox hnd) hall
      unfold Oper.wp
      rw [hop _ _ hr, Oper.upon_enter]
      refine hcalls.mono ?_
      rintro e w' ⟨v, μ', rfl, hv, hmle, hmu', hnew, hfr, hob⟩
      obtain ⟨hi', hst⟩ := hi.called hbx hnd hmle hmu' hnew hfr hob
      obtain ⟨vs, hvs, hvv⟩ := hv.split
      rcases hfr1 with hnone | ⟨hone, hsome, hdn⟩
      · refine hK _ _ _ hk ⟨μ', L, ow, ?_, ?_⟩
        · unfold St.after
          rw [putO_m, hnone]
          show Inv c (look (updBL σ.m σ.mem ids css')) μ' L ow w'
          rw [look_updBL]
          exact hi'
        · unfold St.after
          rw [putO_m, hnone]
          have h2 := (he.mono hmle hst).putO (mm := updBL σ.m σ.mem ids css') hd (rep_resTR (w0 := w) (w := w') (d := dst.getD 0) hvs.length (rep_plain hvs hnone) hvv)
          have : (⟨σ.env, frU (dst.getD 0) (updBL σ.m σ.mem ids css') []⟩ : St).m = updB σ.m σ.m ids css' := look_updBL _ _ _ _
          rw [this]
          exact h2
      · obtain ⟨cs, hcs⟩ := List.length_eq_one_iff.1 hone
        obtain ⟨b, e, bl, h1, h2, h3, h4, h5, h6⟩ := rep_fresh (d := dst.getD 0) hvs hcs
        have hdi : dst.getD 0 ∉ ids := fun q => by obtain ⟨g', cs', h7⟩ := hbx _ q; rw [hdn] at h7; cases h7
        have hob' : ow b = none := by
          cases ho : ow b with
          | none => rfl
          | some id => have := (hi.own b id ho).1; omega
        obtain ⟨hi2, hst2⟩ := hi'.adopt (d := dst.getD 0) (by rw [updB_ne _ _ hdi]; exact hdn) hob' (Nat.le_trans hi.fr.size h1) h2 h3 h4 h5
        have hmm : (⟨σ.env, frU (dst.getD 0) (updBL σ.m σ.mem ids css') (freshOf rs)⟩ : St).m = setM (updB σ.m σ.m ids css') (dst.getD 0) (.box 0 (cs.map .d)) := by
          rw [hcs]
          show look ((dst.getD 0, Own.box 0 (cs.map .d)) :: updBL σ.m σ.mem ids css') = _
          rw [look_set, look_updBL]
          rfl
        refine hK _ _ _ hk ⟨μ', L.setBlk (dst.getD 0) b bl.size, setOw ow b (dst.getD 0), ?_, ?_⟩
        · unfold St.after
          rw [putO_m, hmm]
          exact hi2
        · unfold St.after
          rw [putO_m, hmm]
          exact ((he.mono hmle hst).mono (Mu.le_refl _) hst2).putO hd (rep_resTR (w0 := w) (w := w') (d := dst.getD 0) hvs.length (h6 _ _ _ (by simp [Loc.setBlk]) (by simp [Loc.setBlk]) (setM_self _ _ _)) hvv)
theorem WOp_ok {x : X} {c : Ctx} {o : Oper} {σ : St} {K : St → Prop} {a : Act} {w : World} {next : Act → World → Prop} {Q : Exit → Act → World → Prop}
    {ref : Bool} (h : WOp x c.n ref o σ K) (hs : Sim c σ a w) (hK : ∀ σ' a' w', K σ' → Sim c σ' a' w' → next a' w') : o.wp x.P a w next Q := by
  obtain ⟨μ, L, ow, hi, he⟩ := hs
  have hρ : ∀ y t, σ.ev y = some t → RepT μ L σ.m t (a.eval y) := fun y t hy => ev_rep he hy
  unfold WOp at h
  split at h
  · -- a call
    rename_i f args hc
    rcases h with h | ⟨_, h⟩
    case inr => exact WRef_ok hc h hi he hK
    obtain ⟨g, caps, ys, zs, rs, hf, hargs, hle, hspec, hd, hk⟩ := h
    obtain ⟨dst, op, ty, pos, after, guard⟩ := o
    cases op <;> simp only [callOf] at hc <;> try (cases hc; done)
    rename_i cl
    obtain ⟨callee, cargs, tys⟩ := cl
    cases callee <;> simp only [] at hc <;> try (cases hc; done)
    rename_i fo
    simp only [Option.some.injEq, Prod.mk.injEq] at hc
    obtain ⟨rfl, rfl⟩ := hc
    have hf' := hρ _ _ hf
    have hav := allT_rep hρ hargs
    cases hf' with
    | d hf' =>
      generalize hfv : a.eval fo = fv at hf'
      cases hf' with
      | @fn _ _ l hl =>
        have hcv : RepV μ caps l := by
          clear hle hf hspec hk hfv
          revert l
          induction caps with
          | nil => intro l hl; cases hl; exact .nil
          | cons y ys ih => intro l hl; cases hl with | cons h1 h2 t => exact .cons h1 (ih t)
        have happ : ∀ {xs ys : List D} {us vs : List Value}, RepV μ xs us → RepV μ ys vs → RepV μ (xs ++ ys) (us ++ vs) := by
          intro xs ys us vs h1 h2
          induction h1 with
          | nil => exact h2
          | cons h3 t ih => exact .cons h3 ih
        have hall := (happ hav hcv).le hle
        have hop : ∀ nx w', (callFunc g ((cargs.toList.map a.eval) ++ l).toArray).run x.P w = .ok nx w' → (execOp a.eval ⟨dst, .call ⟨.value fo, cargs, tys⟩, ty, pos, after, guard⟩).run x.P w = .ok nx w' := by
          intro nx w' hr
          have e1 : (cargs.toList.map a.eval ++ l).toArray = cargs.map a.eval ++ l.toArray := by
            rw [← Array.toList_map]
            apply Array.ext'
            simp
          rw [e1] at hr
          simp [execOp, resolve, hfv, Deferred.ofValue, invoke, hr]
        rcases hspec w μ _ hi.mu hall with ⟨hr, hcalls⟩ | ⟨v, hr, hv⟩
        · unfold Oper.wp
          rw [hop _ _ hr, Oper.upon_enter]
          refine hcalls.mono ?_
          rintro e w' ⟨v, μ', rfl, hv, hmle, hmu', hnew, hfr⟩
          have hg : Grows w w' := ⟨hfr.os, hfr.tape, hfr.output, hfr.size, fun k hk => hfr.block k hk (fun h => h)⟩
          have hi' := hi.grows hg hmle fun b u hb => (hnew b u hb).imp id fun h => ⟨h, hmu' b u hb⟩
          refine hK _ _ _ hk ⟨μ', L, ow, ?_, ?_⟩
          · cases dst <;> exact hi'
          · have := (he.mono hmle (Stays.refl _ _)).putO (mm := σ.mem) hd hv.rep
            cases dst <;> exact this
        · unfold Oper.wp
          rw [hop _ _ hr, Oper.upon_value]
          refine hK _ _ _ hk ⟨μ, L, ow, ?_, ?_⟩
          · cases dst <;> exact hi
          · have := he.putO (mm := σ.mem) hd hv.rep
            cases dst <;> exact this
  · split at h
    · rename_i y u hev
      obtain ⟨hd, hk⟩ := h
      obtain ⟨nx, w', μ', L', ow', hr, hi', hmle, hst, v, rfl, hv⟩ := evOp_ok x.ok hi hρ hev
      unfold Oper.wp
      rw [hr, Oper.upon_value]
      refine hK _ _ _ hk ⟨μ', L', ow', ?_, ?_⟩
      · have : ((σ.upd u).putO o.dst y).m = σ.m.upd u := by
          rw [← St.upd_m]
          cases o.dst <;> rfl
        rw [this]
        exact hi'
      · have : ((σ.upd u).putO o.dst y).m = σ.m.upd u := by
          rw [← St.upd_m]
          cases o.dst <;> rfl
        rw [this]
        have h2 := (he.mono hmle hst).putO (mm := (σ.upd u).mem) hd hv
        rw [← St.upd_env σ u] at h2
        exact h2
    · rename_i u hev
      obtain ⟨hd, hk⟩ := h
      obtain ⟨nx, w', μ', L', ow', hr, hi', hmle, hst, rfl⟩ := evOp_ok x.ok hi hρ hev
      unfold Oper.wp
      rw [hr, Oper.upon_skip]
      refine hK _ _ _ hk ⟨μ', L', ow', by rw [St.upd_m]; exact hi', ?_⟩
      rw [St.upd_m, St.upd_env, hd]
      exact he.mono hmle hst
    · obtain ⟨_, h⟩ := h
      split at h
      · rename_i y u hev
        obtain ⟨hd, hk⟩ := h
        obtain ⟨nx, w', μ', L', ow', hr, hi', hmle, hst, v, rfl, hv⟩ := evX_ok x.ok hi hρ hev
        unfold Oper.wp
        rw [hr, Oper.upon_value]
        refine hK _ _ _ hk ⟨μ', L', ow', ?_, ?_⟩
        · have : ((σ.upd u).putO o.dst y).m = σ.m.upd u := by
            rw [← St.upd_m]
            cases o.dst <;> rfl
          rw [this]
          exact hi'
        · have : ((σ.upd u).putO o.dst y).m = σ.m.upd u := by
            rw [← St.upd_m]
            cases o.dst <;> rfl
          rw [this]
          have h2 := (he.mono hmle hst).putO (mm := (σ.upd u).mem) hd hv
          rw [← St.upd_env σ u] at h2
          exact h2
      · exact h.elim
end Go.Pm
namespace Go.Pm
open Go.RowKit

theorem yielded_of {c : Ctx} {σ : St} {a : Act} {w : World} (hs : Sim c σ a w) (hn : True) {ops : Array Oper} {j : Nat} {y : Option Bool} (h : gval ops σ.env j = some y) : yielded ops a.tmps j = y := by
  obtain ⟨μ, L, ow, hi, he⟩ := hs
  unfold gval gvalT at h
  split at h
  · rename_i b hb
    injection h with h
    subst h
    obtain ⟨t, h1, h2⟩ := bind_eq hb
    have hr := he.2.2 t _ h2
    unfold gtmp at h1
    unfold yielded
    rw [h1]
    cases hr with
    | d hr =>
      generalize hv : a.tmps.getD t undef = v at hr
      cases hr
      simp only [Option.bind_some]
      by_cases hlt : t < a.tmps.size
      · simp [Array.getD, hlt] at hv
        simp [Array.getElem?_eq_getElem hlt, hv]
      · simp [Array.getD, hlt, undef] at hv
  · rename_i hb
    injection h with h
    subst h
    obtain ⟨t, h1, h2⟩ := bind_eq hb
    have hr := he.2.2 t _ h2
    unfold gtmp at h1
    unfold yielded
    rw [h1]
    generalize hv : a.tmps.getD t undef = v at hr
    cases hr
    simp only [Option.bind_some]
    by_cases hlt : t < a.tmps.size
    · simp [Array.getD, hlt] at hv
      simp [Array.getElem?_eq_getElem hlt, hv, undef]
    · have hnone : a.tmps[t]? = none := Array.getElem?_eq_none (Nat.le_of_not_lt hlt)
      rw [hnone]
  · cases h
theorem WOps_ok {x : X} {c : Ctx} {ref : Bool} {ops : Array Oper} {Q : Exit → Act → World → Prop} : ∀ (l : List Oper) (σ : St) (K : St → Prop) (a : Act) (w : World), WOps x c.n ref ops l σ K → Sim c σ a w → (∀ σ' a' w', K σ' → Sim c σ' a' w' → Q .normal a' w') → wpList x.P ops Q l a w
  | [], σ, K, a, w, h, hs, hK => hK _ _ _ h hs
  | o :: r, σ, K, a, w, h, hs, hK => by
    unfold WOps at h
    refine wpList_step fun K' hK' => ?_
    split at h
    · rename_i hg
      rw [if_pos (by simp [Region.wanted, hg])]
      exact WOp_ok h hs fun σ' a' w' h' hs' => hK' _ _ (WOps_ok r σ' K a' w' h' hs' hK)
    · rename_i j want hg
      split at h
      · rename_i b hb
        have hy := yielded_of hs trivial hb
        split at h
        · rename_i e
          subst e
          rw [if_pos (by simp [Region.wanted, hg, hy])]
          exact WOp_ok h hs fun σ' a' w' h' hs' => hK' _ _ (WOps_ok r σ' K a' w' h' hs' hK)
        · rename_i e
          rw [if_neg (by simp [Region.wanted, hg, hy, e])]
          refine hK' _ _ (WOps_ok r _ K _ _ h.2 ?_ hK)
          obtain ⟨μ, L, ow, hi, he⟩ := hs
          have hm : (σ.putO o.dst .un).m = σ.m := by cases o.dst <;> rfl
          refine ⟨μ, L, ow, by rw [hm]; exact hi, ?_⟩
          rw [hm]
          exact he.putO (mm := σ.mem) h.1 .un
      · exact h.elim

/-- What is forgotten: temporaries, and what is owned where no temporary that is kept leads to it. -/
def T.ids : T → List Nat
  | .obj id _ _ => [id]
  | .own id _ => [id]
  | .view id _ _ _ _ => [id]
  | _ => []
def T.flat : T → Bool
  | .tup _ => false
  | _ => true
inductive T.le : T → T → Prop
  | refl (x : T) : T.le x x
  | any (x : T) : T.le x .any
  | d {a b : D} (h : D.le a b) : T.le (.d a) (.d b)
  | own {id : Nat} {xs : List D} {b : D} (h : D.le (.slice xs) b) : T.le (.own id xs) (.d b)
theorem RepT.le {μ : Mu} {L : Loc} {m : Mem} {x y : T} {v : Value} (h : RepT μ L m x v) (hl : T.le x y) : RepT μ L m y v := by
  cases hl with
  | refl => exact h
  | any => exact .any v
  | d hd => cases h with | d h => exact .d (hd _ _ h)
  | own hd => cases h with | own h _ _ _ _ => exact .d (hd _ _ h)
inductive Own.le : Own → Own → Prop
  | refl (o : Own) : Own.le o o
  | box {g : Nat} {cs cs' : List T} (hl : cs'.length = cs.length) (h : ∀ (i : Nat) (x : T), cs'[i]? = some x → ∃ y, cs[i]? = some y ∧ T.le y x) : Own.le (.box g cs) (.box g cs')
theorem Own.le.gen {o o' : Own} (h : Own.le o o') : o'.gen = o.gen := by cases h <;> rfl
def Own.ids : Own → List Nat
  | .box _ cs => cs.flatMap T.ids
  | _ => []
def Own.flat : Own → Bool
  | .box _ cs => cs.all T.flat
  | _ => true
structure St.le (σ σ' : St) : Prop where
  env : ∀ t x, look σ'.env t = some x → ∃ y, look σ.env t = some y ∧ T.le y x ∧ x.flat = true ∧ ∀ i ∈ x.ids, isSome' (look σ'.mem i) = true
  mem : ∀ i o, look σ'.mem i = some o → ∃ o0, look σ.mem i = some o0 ∧ Own.le o0 o ∧ o.flat = true ∧ ∀ j ∈ o.ids, isSome' (look σ'.mem j) = true
  top : ∀ i, 900000 ≤ i → isSome' (look σ.mem i) = true → isSome' (look σ'.mem i) = true
theorem Sim.le {c : Ctx} {σ σ' : St} {a : Act} {w : World} (h : Sim c σ a w) (hl : St.le σ σ') : Sim c σ' a w := by
  obtain ⟨μ, L, ow, hi, he⟩ := h
  have key : ∀ i, isSome' (look σ'.mem i) = true → ∀ o, σ.m i = some o → ∃ o', σ'.m i = some o' ∧ Own.le o o' := by
    intro i hi o ho
    cases hq : look σ'.mem i with
    | none => rw [hq] at hi; cases hi
    | some o' =>
      obtain ⟨o0, h1, h2, _⟩ := hl.mem i o' hq
      rw [show look σ.mem i = σ.m i from rfl, ho] at h1
      injection h1 with h1
      subst h1
      exact ⟨o', hq, h2⟩
  have tokkey : ∀ {e sz n : Nat} {o' : Own}, Own.le (.tok e sz n) o' → o' = .tok e sz n := by
    intro e sz n o' q; cases q; rfl
  have hrep : ∀ x v, RepT μ L σ.m x v → x.flat = true → (∀ i ∈ x.ids, isSome' (look σ'.mem i) = true) → RepT μ L σ'.m x v := by
    intro x v hx hfl hids
    cases hx with
    | d h => exact .d h
    | obj h hg hle hA =>
      obtain ⟨o', h1, h2⟩ := key _ (hids _ (by simp [T.ids])) _ h
      exact .obj h1 (by rw [h2.gen]; exact hg) hle hA
    | own h1 h2 h3 h4 h5 =>
      obtain ⟨o', q1, q2⟩ := key _ (hids _ (by simp [T.ids])) _ h2
      rw [tokkey q2] at q1
      exact .own h1 q1 h3 h4 h5
    | view h hg hle hA =>
      obtain ⟨o', h1, h2⟩ := key _ (hids _ (by simp [T.ids])) _ h
      exact .view h1 (by rw [h2.gen]; exact hg) hle hA
    | tup h1 h2 => cases hfl
    | anyb b => exact .anyb b
    | un => exact .un
    | any v => exact .any v
  refine ⟨μ, L, fun b => (ow b).bind fun id => if isSome' (look σ'.mem id) then some id else none, ⟨hi.fr, hi.mu, hi.mu0, hi.muNew, ?_, ?_, ?_, ?_, ?_⟩, ⟨he.1.1, ?_⟩, he.2.1, fun t x hx => ?_⟩
  · intro q v hq id ho
    obtain ⟨id', h1, h2⟩ := bind_eq ho
    split at h2
    · rename_i hk
      injection h2 with h2
      subst h2
      obtain ⟨e, sz, n, h3, h4⟩ := hi.muOwn q v hq _ h1
      obtain ⟨o', q1, q2⟩ := key _ hk _ h3
      rw [tokkey q2] at q1
      exact ⟨e, sz, n, q1, h4⟩
    · cases h2
  · intro b id ho
    obtain ⟨id', h1, h2⟩ := bind_eq ho
    split at h2
    · injection h2 with h2; subst h2; exact hi.own b _ h1
    · cases h2
  · intro id g cs' hm
    obtain ⟨o0, k1, k2, k3, k4⟩ := hl.mem id _ hm
    have : ∃ cs, o0 = .box g cs ∧ cs'.length = cs.length ∧ ∀ (i : Nat) (x : T), cs'[i]? = some x → ∃ y, cs[i]? = some y ∧ T.le y x := by
      cases k2 with
      | refl => exact ⟨cs', rfl, rfl, fun i x hx => ⟨x, hx, .refl x⟩⟩
      | box hl h => exact ⟨_, rfl, hl, h⟩
    obtain ⟨cs, rfl, hlen, hpt⟩ := this
    obtain ⟨ho, vs, e, h1, h2, hroom, h3⟩ := hi.box id g cs k1
    refine ⟨by simp [ho, show look σ'.mem id = some (.box g cs') from hm, isSome'], vs, e, h1, by omega, hroom, fun i y hy => ?_⟩
    obtain ⟨z, q1, q2⟩ := hpt i y hy
    obtain ⟨v, h4, h5, h6⟩ := h3 i z q1
    refine ⟨v, h4, h5, hrep _ _ (h6.le q2) ?_ fun j hj => k4 j ?_⟩
    · exact (List.all_eq_true.1 k3) y (List.mem_of_getElem? hy)
    · exact List.mem_flatMap.2 ⟨y, List.mem_of_getElem? hy, hj⟩
  · intro id e sz n hm
    obtain ⟨o0, k1, k2, _⟩ := hl.mem id _ hm
    have : o0 = .tok e sz n := by cases k2; rfl
    subst this
    obtain ⟨h0, h1, h2⟩ := hi.tok id e sz n k1
    exact ⟨h0, h1, fun b hb => ⟨by simp [(h2 b hb).1, show look σ'.mem id = some (.tok e sz n) from hm, isSome'], (h2 b hb).2⟩⟩
  · intro id g cs hm
    obtain ⟨o0, k1, k2, _⟩ := hl.mem id _ hm
    have : o0 = .froz g cs := by cases k2; rfl
    subst this
    exact hi.froz id g cs k1
  · intro id b r hb
    obtain ⟨h1, o, h2, h3⟩ := he.1.2 id b r hb
    obtain ⟨o', q1, q2⟩ := key id (hl.top id h1 (by rw [show look σ.mem id = σ.m id from rfl, h2]; rfl)) o h2
    exact ⟨h1, o', q1, by rw [q2.gen]; exact h3⟩
  · obtain ⟨y, h1, h2, h3, h4⟩ := hl.env t x hx
    exact hrep _ _ ((he.2.2 t y h1).le h2) h3 h4

/-! ### Only some things are kept -/
def lowT (kp : Nat → Bool) : T → T
  | .d x => .d x
  | .own id xs => if kp id then .own id xs else .d (.slice xs)
  | .obj id g off => if kp id then .obj id g off else .any
  | .view id g sz off n => if kp id then .view id g sz off n else .any
  | .tup _ => .any
  | .anyb => .anyb
  | .un => .un
  | .any => .any
theorem lowT_le (kp : Nat → Bool) (x : T) : T.le x (lowT kp x) := by
  cases x <;> simp only [lowT]
  case d => exact .refl _
  case own => split; exact .refl _; exact .own (D.le_refl _)
  case obj => split; exact .refl _; exact .any _
  case view => split; exact .refl _; exact .any _
  case tup => exact .any _
  case anyb => exact .refl _
  case un => exact .refl _
  case any => exact .refl _
theorem lowT_flat (kp : Nat → Bool) (x : T) : (lowT kp x).flat = true := by
  cases x <;> simp only [lowT] <;> (try split) <;> rfl
theorem lowT_ids (kp : Nat → Bool) (x : T) : ∀ i ∈ (lowT kp x).ids, kp i = true := by
  cases x <;> simp only [lowT] <;> (try split) <;> simp [T.ids] <;> assumption
def lowO (kp : Nat → Bool) : Own → Own
  | .box g cs => .box g (cs.map (lowT kp))
  | o => o
def St.kp (σ : St) (ids : List Nat) (i : Nat) : Bool := ids.contains i && isSome' (look σ.mem i)
def St.keep (σ : St) (ts ids : List Nat) : St := ⟨ts.filterMap fun t => (look σ.env t).map fun x => (t, lowT (σ.kp ids) x), ids.filterMap fun i => (look σ.mem i).map fun o => (i, lowO (σ.kp ids) o)⟩
theorem look_keep {α β : Type} (l : List (Nat × α)) (f : α → β) : ∀ (ts : List Nat) (t : Nat), look (ts.filterMap fun t => (look l t).map fun x => (t, f x)) t = if t ∈ ts then (look l t).map f else none
  | [], t => by simp [look]
  | s :: ts, t => by
    rw [List.filterMap_cons]
    cases hs : look l s with
    | none =>
      simp only [Option.map_none]
      rw [look_keep l f ts t]
      by_cases h : t = s
      · subst h; simp [hs]
      · simp [h]
    | some x =>
      simp only [Option.map_some]
      rw [look_cons]
      by_cases h : s = t
      · subst h; simp [hs]
      · have : ¬ t = s := fun q => h q.symm
        rw [if_neg h, look_keep l f ts t]
        simp [this]
theorem St.keep_le (σ : St) (ts ids : List Nat) (h : σ.mem.all (fun p => decide (p.1 < 900000) || ids.contains p.1) = true) : St.le σ (σ.keep ts ids) := by
  have hmem : ∀ i, look (σ.keep ts ids).mem i = if i ∈ ids then (look σ.mem i).map (lowO (σ.kp ids)) else none := look_keep _ _ _
  have henv : ∀ t, look (σ.keep ts ids).env t = if t ∈ ts then (look σ.env t).map (lowT (σ.kp ids)) else none := look_keep _ _ _
  have hk : ∀ i, σ.kp ids i = true → isSome' (look (σ.keep ts ids).mem i) = true := by
    intro i hi
    unfold St.kp at hi
    rw [Bool.and_eq_true] at hi
    rw [hmem, if_pos (by simpa using hi.1)]
    cases hq : look σ.mem i with
    | none => rw [hq] at hi; cases hi.2
    | some o => rfl
  refine ⟨fun t x hx => ?_, fun i o ho => ?_, fun i hi hs => ?_⟩
  · rw [henv] at hx
    split at hx
    · obtain ⟨y, h1, h2⟩ := map_eq hx
      subst h2
      exact ⟨y, h1, lowT_le _ _, lowT_flat _ _, fun j hj => hk j (lowT_ids _ _ j hj)⟩
    · cases hx
  · rw [hmem] at ho
    split at ho
    · obtain ⟨y, h1, h2⟩ := map_eq ho
      subst h2
      refine ⟨y, h1, ?_, ?_, ?_⟩
      · cases y <;> simp only [lowO]
        case box g cs =>
          refine .box (by simp) fun j x hx => ?_
          rw [List.getElem?_map] at hx
          cases hq : cs[j]? with
          | none => rw [hq] at hx; cases hx
          | some z => rw [hq] at hx; simp at hx; subst hx; exact ⟨z, rfl, lowT_le _ _⟩
        all_goals exact .refl _
      · cases y <;> simp [lowO, Own.flat, lowT_flat]
      · intro j hj
        cases y <;> simp only [lowO, Own.ids] at hj <;> try (simp at hj; done)
        obtain ⟨z, hz, hj⟩ := List.mem_flatMap.1 hj
        obtain ⟨q, _, rfl⟩ := List.mem_map.1 hz
        exact hk j (lowT_ids _ _ j hj)
    · cases ho
  · cases hq : look σ.mem i with
    | none => rw [hq] at hs; cases hs
    | some o =>
      have := List.all_eq_true.1 h _ (look_mem hq)
      simp only [Bool.or_eq_true, decide_eq_true_eq] at this
      rw [hmem, if_pos (by rcases this with h1 | h1; omega; simpa using h1), hq]
      rfl

/-! ### What is frozen -/
theorem EnvOK.more {c : Ctx} {μ : Mu} {L : Loc} {m : Mem} {env : List (Nat × T)} {a : Act} (h : EnvOK c μ L m env a) {t : Nat} {x : T} (hx : RepT μ L m x (a.tmps.getD t undef)) : EnvOK c μ L m ((t, x) :: env) a := by
  refine ⟨h.1, h.2.1, fun s y hy => ?_⟩
  rw [look_cons] at hy
  split at hy
  · rename_i e
    subst e
    injection hy with hy
    subst hy
    exact hx
  · exact h.2.2 s y hy
theorem allD_get : ∀ {cs : List T} {ds : List D}, allD cs = some ds → ∀ (i : Nat) (x : T), cs[i]? = some x → ∃ y, unD1 x = some y ∧ ds[i]? = some y
  | [], ds, h, i, x, hx => by simp at hx
  | z :: zs, ds, h, i, x, hx => by
    unfold allD at h
    split at h
    · rename_i y ys h1 h2
      injection h with h
      subst h
      cases i with
      | zero => simp at hx; subst hx; exact ⟨y, h1, rfl⟩
      | succ i => simpa using allD_get h2 i x (by simpa using hx)
    · cases h
theorem Sim.freeze {c : Ctx} {σ : St} {a : Act} {w : World} (h : Sim c σ a w) (hS : ∀ b, ¬ c.S b) {t id g : Nat} {cs : List T} {ds : List D} (ht : look σ.env t = some (.obj id g 0)) (hm : look σ.mem id = some (.box g cs)) (hd : allD cs = some ds) :
    Sim c ((σ.set id (.froz g ds)).put t (.d (.ptr ds))) a w := by
  obtain ⟨μ, L, ow, hi, he⟩ := h
  obtain ⟨μ', ow', hi', hle, hst⟩ := hi.freeze hS (show σ.m id = _ from hm) (allD_length hd) (allD_get hd)
  have hm2 : (σ.set id (.froz g ds)).m = setM σ.m id (.froz g ds) := look_set _ _ _
  have he' := he.mono hle hst
  rw [← hm2] at hi' he'
  refine ⟨μ', L, ow', hi', he'.more (.d ?_)⟩
  have := he'.2.2 t _ ht
  have hp := froz_ptr hi' this (cs := ds) (by rw [hm2]; exact setM_self _ _ _) (Nat.zero_le _)
  simpa using hp
theorem Sim.close {c : Ctx} {σ : St} {a : Act} {w : World} (h : Sim c σ a w) (hS : ∀ b, ¬ c.S b) {t id g sz : Nat} {cs : List T} {xs : List D} (ht : look σ.env t = some (.view id g sz 0 xs.length)) (hm : look σ.mem id = some (.box g cs)) (hd : allD cs = some (xs.flatMap D.cells)) (hs : ∀ x ∈ xs, x.sz = sz) :
    Sim c ((σ.set id (.froz g (xs.flatMap D.cells))).put t (.d (.slice xs))) a w := by
  obtain ⟨μ, L, ow, hi, he⟩ := h
  obtain ⟨μ', ow', hi', hle, hst⟩ := hi.freeze hS (show σ.m id = _ from hm) (allD_length hd) (allD_get hd)
  have hm2 : (σ.set id (.froz g (xs.flatMap D.cells))).m = setM σ.m id (.froz g (xs.flatMap D.cells)) := look_set _ _ _
  have he' := he.mono hle hst
  rw [← hm2] at hi' he'
  refine ⟨μ', L, ow', hi', he'.more (.d ?_)⟩
  exact seal_view hi' (he'.2.2 t _ ht) (by rw [hm2]; exact setM_self _ _ _) hs rfl
/-- Steps that the machine does not see. -/
inductive Gh (refs : Bool) : St → St → Prop
  | refl (σ : St) : Gh refs σ σ
  | le {σ σ' : St} (h : St.le σ σ') : Gh refs σ σ'
  | freeze {σ : St} {t id g : Nat} {cs : List T} {ds : List D} (hr : refs = false) (ht : look σ.env t = some (.obj id g 0)) (hm : look σ.mem id = some (.box g cs)) (hd : allD cs = some ds) : Gh refs σ ((σ.set id (.froz g ds)).put t (.d (.ptr ds)))
  | close {σ : St} {t id g sz : Nat} {cs : List T} {xs : List D} (hr : refs = false) (ht : look σ.env t = some (.view id g sz 0 xs.length)) (hm : look σ.mem id = some (.box g cs)) (hd : allD cs = some (xs.flatMap D.cells)) (hs : ∀ x ∈ xs, x.sz = sz) : Gh refs σ ((σ.set id (.froz g (xs.flatMap D.cells))).put t (.d (.slice xs)))
  | trans {σ σ' σ'' : St} (h : Gh refs σ σ') (k : Gh refs σ' σ'') : Gh refs σ σ''
theorem Sim.gh {c : Ctx} {refs : Bool} {σ σ' : St} {a : Act} {w : World} (hS : refs = false → ∀ b, ¬ c.S b) (hg : Gh refs σ σ') (h : Sim c σ a w) : Sim c σ' a w := by
  induction hg with
  | refl => exact h
  | le hl => exact h.le hl
  | freeze hr ht hm hd => exact h.freeze (hS hr) ht hm hd
  | close hr ht hm hd hs => exact h.close (hS hr) ht hm hd hs
  | trans _ _ ih1 ih2 => exact ih2 (ih1 h)
end Go.Pm
namespace Go.Pm
open Go.RowKit

/-! ### What an operation looks at -/
def clsOp : Op → Nat
  | .load .. => 1
  | .store .. => 2
  | .alloc _ | .box .. | .buildSlice .. => 3
  | .call cl => match cl.callee with
    | .builtin .append => 4
    | _ => 0
  | _ => 0
def idsOf : Option T → List Nat
  | some (.obj id _ _) => [id]
  | _ => []
def sup (ρ : Operand → Option T) (d : Nat) : Op → List Nat
  | .load _ a | .store _ a _ => idsOf (ρ a)
  | .alloc _ | .box .. | .buildSlice .. => [d]
  | .call cl => match cl.callee with
    | .builtin .append => match cl.args.toList with
      | s :: _ => match ρ s with
        | some (.own id _) => [id]
        | _ => [d]
      | [] => []
    | _ => []
  | _ => []

theorem allT_congr {ρ ρ' : Operand → Option T} : ∀ {l : List Operand}, (∀ y ∈ l, ρ y = ρ' y) → allT ρ l = allT ρ' l
  | [], _ => rfl
  | y :: l, h => by
    unfold allT
    rw [h y List.mem_cons_self, allT_congr fun z hz => h z (List.mem_cons_of_mem _ hz)]
theorem allP_congr {ρ ρ' : Operand → Option T} : ∀ {l : List (Nat × Operand)}, (∀ p ∈ l, ρ p.2 = ρ' p.2) → allP ρ l = allP ρ' l
  | [], _ => rfl
  | (k, y) :: l, h => by
    unfold allP
    rw [h (k, y) List.mem_cons_self, allP_congr fun z hz => h z (List.mem_cons_of_mem _ hz)]
theorem bnd_congr {ρ ρ' : Operand → Option T} {d : Nat} {o : Option Operand} (h : ∀ y, o = some y → ρ y = ρ' y) : bnd ρ d o = bnd ρ' d o := by
  cases o with
  | none => rfl
  | some y => simp only [bnd, h y rfl]
theorem evBuiltin_ρ {tab : Tab} {ρ ρ' : Operand → Option T} {m : Mem} {d : Nat} {b : Builtin} {args : List Operand} {tys : List Nat} (h : ∀ y ∈ args, ρ y = ρ' y) : evBuiltin tab ρ m d b args tys = evBuiltin tab ρ' m d b args tys := by
  unfold evBuiltin
  split
  · rename_i x t
    rw [h x (by simp)]
  · rename_i s x t t'
    rw [h s (by simp), h x (by simp)]
  · rename_i t x y
    rw [h x (by simp), h y (by simp)]
  · rename_i t x y
    rw [h x (by simp), h y (by simp)]
  · rfl
theorem evOp_ρ {tab : Tab} {ρ ρ' : Operand → Option T} {m : Mem} {d : Nat} {op : Op} (h : ∀ y ∈ op.operands, ρ y = ρ' y) : evOp tab ρ m d op = evOp tab ρ' m d op := by
  cases op <;> simp only [Op.operands] at h <;> simp only [evOp] <;> try rfl
  case move x => rw [h x (by simp)]
  case assign x => rw [h x (by simp)]
  case pick c a b => rw [h c (by simp), h a (by simp), h b (by simp)]
  case box e x => rw [h x (by simp)]
  case load t a => rw [h a (by simp)]
  case store t a x => rw [h a (by simp), h x (by simp)]
  case nilCheck x => rw [h x (by simp)]
  case binOp op t x y t' => rw [h x (by simp), h y (by simp)]
  case unOp op t x => rw [h x (by simp)]
  case convert s t x => rw [h x (by simp)]
  case fieldAddr s x f => rw [h x (by simp)]
  case indexAddr t x ix => rw [h x (by simp), h ix (by simp)]
  case extract x k => rw [h x (by simp)]
  case index t x ix => rw [h x (by simp), h ix (by simp)]
  case makeFunc fn first caps =>
    rw [allT_congr (ρ := ρ) (ρ' := ρ') fun y hy => h y (by simp; exact .inr (by simpa using hy))]
  case buildSlice t n parts =>
    rw [allT_congr (ρ := ρ) (ρ' := ρ') fun y hy => h y (by simpa using hy)]
  case build t parts =>
    rw [allP_congr (ρ := ρ) (ρ' := ρ') fun p hp => h p.2 (by simp; exact ⟨p.1, by simpa using hp⟩)]
  case slice t x lo hi mx =>
    have hc : ∀ len mx', (∀ y, mx' = some y → mx = some y) → cut ρ len lo hi mx' = cut ρ' len lo hi mx' := by
      intro len mx' hm
      unfold cut
      rw [bnd_congr (ρ := ρ) (ρ' := ρ') fun y hy => h y (by subst hy; simp), bnd_congr (ρ := ρ) (ρ' := ρ') fun y hy => h y (by subst hy; simp), bnd_congr (ρ := ρ) (ρ' := ρ') (o := mx') fun y hy => h y (by rw [hm y hy]; simp)]
    rw [h x (by simp)]
    simp only [hc _ none (fun y q => by cases q), hc _ mx (fun y q => q)]
  case call cl =>
    obtain ⟨callee, args, tys⟩ := cl
    cases callee <;> simp only [] <;> try rfl
    exact evBuiltin_ρ fun y hy => h y (by simp [Call.operands]; simpa using hy)
theorem sup_ρ {ρ ρ' : Operand → Option T} {d : Nat} {op : Op} (h : ∀ y ∈ op.operands, ρ y = ρ' y) : sup ρ d op = sup ρ' d op := by
  cases op <;> simp only [Op.operands] at h <;> simp only [sup] <;> try rfl
  case load t a => rw [h a (by simp)]
  case store t a x => rw [h a (by simp)]
  case call cl =>
    obtain ⟨callee, args, tys⟩ := cl
    cases callee <;> simp only [] <;> try rfl
    rename_i b
    cases b <;> simp only [] <;> try rfl
    split
    · rename_i s r hs
      rw [h s (by simp [Call.operands]; rw [← Array.mem_toList_iff, hs]; simp)]
    · rfl
theorem evOp_m {tab : Tab} {ρ : Operand → Option T} {m m' : Mem} {d : Nat} {op : Op} (h : ∀ id ∈ sup ρ d op, m id = m' id) : evOp tab ρ m d op = evOp tab ρ m' d op := by
  cases op <;> simp only [sup] at h <;> simp only [evOp] <;> try rfl
  case alloc e => rw [h d (by simp)]
  case box e x => rw [h d (by simp)]
  case load t a =>
    split
    · rfl
    · rename_i i id g off ht ha
      rw [ha] at h
      rw [h id (by simp [idsOf])]
    · rfl
  case store t a x =>
    split
    · rename_i i id g off ys ht ha hx
      rw [ha] at h
      rw [h id (by simp [idsOf])]
    · rfl
  case buildSlice t n parts => rw [h d (by simp)]
  case call cl =>
    obtain ⟨callee, args, tys⟩ := cl
    cases callee <;> simp only [] at h ⊢ <;> try rfl
    rename_i b
    unfold evBuiltin
    split
    · rfl
    · rename_i s x t t' hs ht
      rw [hs] at h
      simp only [] at h
      split
      · split
        · rename_i e sz by_ z id xs ys h1 h2 h3
          rw [h2] at h
          rw [h id (by simp)]
        · rename_i e sz by_ z ys h1 h2 h3
          rw [h2] at h
          rw [h d (by simp)]
        · rfl
      · rfl
    · rfl
    · rfl
    · rfl
/-- What an operation changes, and what it found there. -/
theorem evOp_u {tab : Tab} {ρ : Operand → Option T} {m : Mem} {d : Nat} {op : Op} {out : Option T} {id : Nat} {o : Own} (h : evOp tab ρ m d op = some (out, some (id, o))) :
    (clsOp op = 2 ∧ id ∈ sup ρ d op ∧ ∃ g cs, m id = some (.box g cs)) ∨ (clsOp op = 3 ∧ id = d ∧ m d = none) ∨
    (clsOp op = 4 ∧ ((∃ e s n, m id = some (.tok e s n)) ∨ (id = d ∧ m d = none)) ∧ id ∈ sup ρ d op) := by
  cases op <;> simp only [evOp] at h <;> try (cases h; done)
  case move x => obtain ⟨a, _, h2⟩ := map_eq h; cases h2
  case assign x => obtain ⟨a, _, h2⟩ := map_eq h; cases h2
  case pick =>
    split at h
    · obtain ⟨a, _, h2⟩ := map_eq h; cases h2
    · cases h
  case alloc e =>
    split at h
    · rename_i i hi hd; cases h; exact .inr (.inl ⟨rfl, rfl, hd⟩)
    · cases h
  case box e x =>
    split at h
    · rename_i i hi hd; cases h; exact .inr (.inl ⟨rfl, rfl, hd⟩)
    · cases h
  case load t a =>
    split at h
    · obtain ⟨a, _, h2⟩ := map_eq h; cases h2
    · split at h
      · split at h
        · obtain ⟨a, _, h2⟩ := map_eq h; cases h2
        · cases h
      · cases h
    · cases h
  case store t a x =>
    split at h
    · rename_i i id' g off ys ht ha hx
      split at h
      · rename_i cs hm
        split at h
        · cases h; exact .inl ⟨rfl, by simp [sup, ha, idsOf], _, cs, hm⟩
        · cases h
      · cases h
    · cases h
  case nilCheck x => split at h <;> cases h
  case binOp op t x y t' =>
    split at h
    · split at h
      · obtain ⟨a, _, h2⟩ := map_eq h; cases h2
      · cases h
    · cases h
  case unOp op t x =>
    split at h
    · obtain ⟨a, _, h2⟩ := map_eq h; cases h2
    · cases h
  case convert s t x =>
    split at h
    · obtain ⟨a, _, h2⟩ := map_eq h; cases h2
    · cases h
  case fieldAddr s x f =>
    split at h
    · obtain ⟨a, _, h2⟩ := map_eq h; cases h2
    · split at h
      · split at h <;> cases h
      · cases h
    · cases h
  case indexAddr t x ix =>
    split at h
    · split at h
      · split at h <;> cases h
      · cases h
    · split at h
      · split at h <;> cases h
      · cases h
    · cases h
  case build t parts =>
    split at h
    · obtain ⟨a, _, h2⟩ := map_eq h; cases h2
    · cases h
  case slice t x lo hi mx =>
    split at h
    · split at h <;> cases h
    · split at h
      · split at h
        · split at h <;> cases h
        · cases h
      · cases h
    · cases h
  case extract x k =>
    split at h
    · obtain ⟨a, _, h2⟩ := map_eq h; cases h2
    · cases h
  case makeFunc fn first caps =>
    split at h
    · split at h
      · obtain ⟨a, _, h2⟩ := bind_eq h
        split at h2 <;> cases h2
      · cases h
    · cases h
  case buildSlice t n parts =>
    split at h
    · split at h
      · rename_i hd
        split at h
        · cases h; exact .inr (.inl ⟨rfl, rfl, hd⟩)
        · cases h
      · cases h
    · cases h
  case index t x ix =>
    split at h
    · split at h
      · split at h <;> cases h
      · cases h
    · cases h
  case call cl =>
    obtain ⟨callee, args, tys⟩ := cl
    cases callee <;> simp only [] at h <;> try (cases h; done)
    rename_i b
    unfold evBuiltin at h
    split at h
    · split at h
      · cases h
      · cases h
      · obtain ⟨a, _, h2⟩ := map_eq h; cases h2
      · cases h
    · rename_i s x t t' hs ht
      refine .inr (.inr ⟨rfl, ?_⟩)
      split at h
      · split at h
        · rename_i e sz by_ z id' xs ys h1 h2 h3
          split at h
          · rename_i ie e' sz' n hie hm
            split at h
            · cases h
            · split at h
              · cases h; exact ⟨.inl ⟨_, _, _, hm⟩, by simp [sup, hs, h2]⟩
              · cases h
          · cases h
        · rename_i e sz by_ z ys h1 h2 h3
          split at h
          · rename_i ie hie hd
            split at h
            · cases h
            · split at h
              · cases h; exact ⟨.inr ⟨rfl, hd⟩, by simp [sup, hs, h2]⟩
              · cases h
          · cases h
        · cases h
      · cases h
    · split at h <;> cases h
    · split at h <;> cases h
    · cases h
end Go.Pm
namespace Go.Pm
open Go.RowKit

def app (σ : St) (d : Option Nat) (out : Option T) (u : Upd) : St := match out with
  | some y => (σ.upd u).putO d y
  | none => σ.upd u
/-- Carried out. -/
def Exec (x : X) (o : Oper) (σ : St) (out : Option T) (u : Upd) : Prop :=
  (∃ f args g caps ys zs rs, callOf o.op = some (f, args) ∧ σ.ev f = some (.d (.fn g caps)) ∧ allT σ.ev args = some ys ∧ LeL (ys ++ caps) zs ∧ Spec x.P g zs rs ∧ out = some (resT rs) ∧ u = none) ∨
  (callOf o.op = none ∧ evOp x.tab σ.ev σ.m (o.dst.getD 0) o.op = some (out, u) ∧ (out = none → o.dst = none))
def Act1 (x : X) (N : Nat) (ops : Array Oper) (o : Oper) (σ : St) (out : Option T) (u : Upd) : Prop :=
  o.dst.all (· < N) = true ∧
  (((o.guard = none ∨ ∃ j want, o.guard = some (j, want) ∧ gval ops σ.env j = some (some want)) ∧ Exec x o σ out u) ∨
   ((∃ j want b, o.guard = some (j, want) ∧ gval ops σ.env j = some b ∧ b ≠ some want) ∧ out = some .un ∧ u = none))

theorem WOp_exec {x : X} {N : Nat} {o : Oper} {σ : St} {K : St → Prop} (h : WOp x N false o σ K) : ∃ out u, o.dst.all (· < N) = true ∧ Exec x o σ out u ∧ K (app σ o.dst out u) := by
  unfold WOp at h
  split at h
  · rename_i f args hc
    rcases h with ⟨g, caps, ys, zs, rs, hf, hargs, hle, hsp, hd, hk⟩ | ⟨h, _⟩
    case inr => cases h
    exact ⟨some (resT rs), none, hd, .inl ⟨f, args, g, caps, ys, zs, rs, hc, hf, hargs, hle, hsp, rfl, rfl⟩, hk⟩
  · rename_i hc
    split at h
    · rename_i y u hev
      exact ⟨some y, u, h.1, .inr ⟨hc, hev, fun q => by cases q⟩, h.2⟩
    · rename_i u hev
      exact ⟨none, u, by rw [h.1]; rfl, .inr ⟨hc, hev, fun _ => h.1⟩, h.2⟩
    · cases h.1
theorem exec_WOp {x : X} {N : Nat} {ref : Bool} {o : Oper} {σ : St} {out : Option T} {u : Upd} (hd : o.dst.all (· < N) = true) (h : Exec x o σ out u) {K : St → Prop} (hK : K (app σ o.dst out u)) : WOp x N ref o σ K := by
  rcases h with ⟨f, args, g, caps, ys, zs, rs, hc, hf, hargs, hle, hsp, rfl, rfl⟩ | ⟨hc, hev, hn⟩
  · unfold WOp
    rw [hc]
    exact .inl ⟨g, caps, ys, zs, rs, hf, hargs, hle, hsp, hd, hK⟩
  · unfold WOp
    rw [hc]
    simp only []
    rw [hev]
    cases out with
    | some y => exact ⟨hd, hK⟩
    | none => exact ⟨hn rfl, hK⟩
/-- The abstract run, operation by operation. -/
def Tr (x : X) (N : Nat) (ops : Array Oper) : List Nat → St → (St → Prop) → Prop
  | [], σ, K => K σ
  | i :: r, σ, K => ∃ o out u, ops[i]? = some o ∧ Act1 x N ops o σ out u ∧ Tr x N ops r (app σ o.dst out u) K
theorem Tr_of {x : X} {N : Nat} {ops : Array Oper} : ∀ (l : List Oper) (k : Nat) (σ : St) (K : St → Prop), (∀ j, l[j]? = ops[k + j]?) → WOps x N false ops l σ K → Tr x N ops (List.range' k l.length) σ K
  | [], k, σ, K, _, h => h
  | o :: r, k, σ, K, hj, h => by
    have h0 : ops[k]? = some o := by simpa using (hj 0).symm
    have hr : ∀ j, r[j]? = ops[k + 1 + j]? := fun j => by have := hj (j + 1); simpa [Nat.add_assoc, Nat.add_comm 1 j] using this
    unfold WOps at h
    simp only [List.length_cons, List.range'_succ]
    split at h
    · rename_i hg
      obtain ⟨out, u, h1, h2, h3⟩ := WOp_exec h
      exact ⟨o, out, u, h0, ⟨h1, .inl ⟨.inl hg, h2⟩⟩, Tr_of r (k + 1) _ K hr h3⟩
    · rename_i j want hg
      split at h
      · rename_i b hb
        split at h
        · rename_i e
          subst e
          obtain ⟨out, u, h1, h2, h3⟩ := WOp_exec h
          exact ⟨o, out, u, h0, ⟨h1, .inl ⟨.inr ⟨j, want, hg, hb⟩, h2⟩⟩, Tr_of r (k + 1) _ K hr h3⟩
        · rename_i e
          exact ⟨o, some .un, none, h0, ⟨h.1, .inr ⟨⟨j, want, b, hg, hb, e⟩, rfl, rfl⟩⟩, Tr_of r (k + 1) _ K hr h.2⟩
      · exact h.elim

/-! ### States that read alike -/
structure Alike (σ σ' : St) : Prop where
  env : ∀ t, look σ.env t = look σ'.env t
  mem : ∀ i, look σ.mem i = look σ'.mem i
theorem Alike.refl (σ : St) : Alike σ σ := ⟨fun _ => rfl, fun _ => rfl⟩
theorem Alike.symm {σ σ' : St} (h : Alike σ σ') : Alike σ' σ := ⟨fun t => (h.env t).symm, fun t => (h.mem t).symm⟩
theorem Alike.trans {a b c : St} (h : Alike a b) (k : Alike b c) : Alike a c := ⟨fun t => (h.env t).trans (k.env t), fun t => (h.mem t).trans (k.mem t)⟩
theorem Sim.alike {c : Ctx} {σ σ' : St} {a : Act} {w : World} (h : Sim c σ a w) (e : Alike σ σ') : Sim c σ' a w := by
  obtain ⟨μ, L, ow, hi, he⟩ := h
  have hm : σ'.m = σ.m := funext fun i => (e.mem i).symm
  refine ⟨μ, L, ow, by rw [hm]; exact hi, ⟨he.1.1, by rw [hm]; exact he.1.2⟩, he.2.1, fun t x hx => ?_⟩
  rw [hm]
  exact he.2.2 t x (by rw [e.env t]; exact hx)
theorem app_look (σ : St) (d : Option Nat) (out : Option T) (u : Upd) (t : Nat) : look (app σ d out u).env t = match d, out with
    | some d, some y => if d = t then some y else look σ.env t
    | _, _ => look σ.env t := by
  cases out with
  | none => simp only [app, St.upd_env]
  | some y =>
    cases d with
    | none => simp only [app, St.putO, St.upd_env]
    | some d => simp only [app, St.putO, St.put, look_cons, St.upd_env]
theorem app_m (σ : St) (d : Option Nat) (out : Option T) (u : Upd) : (app σ d out u).m = σ.m.upd u := by
  cases out with
  | none => exact St.upd_m σ u
  | some y =>
    rw [← St.upd_m]
    cases d <;> rfl
theorem app_alike {σ σ' : St} (h : Alike σ σ') (d : Option Nat) (out : Option T) (u : Upd) : Alike (app σ d out u) (app σ' d out u) := by
  refine ⟨fun t => ?_, fun i => ?_⟩
  · rw [app_look, app_look]
    split <;> first | (split <;> first | rfl | exact h.env t) | exact h.env t
  · have e : σ.m = σ'.m := funext h.mem
    show (app σ d out u).m i = (app σ' d out u).m i
    rw [app_m, app_m, e]

/-! ### An operation looks at its operands, its guard, and what it names -/
theorem looks_operand {ops : Array Oper} {o : Oper} {t : Nat} (h : Operand.tmp t ∈ o.op.operands) : t ∈ o.looksAt ops := by
  unfold Oper.looksAt
  refine List.mem_append_left _ (List.mem_filterMap.2 ⟨.tmp t, by simpa using h, rfl⟩)
theorem looks_guard {ops : Array Oper} {o : Oper} {j t : Nat} {want : Bool} (hg : o.guard = some (j, want)) (h : gtmp ops j = some t) : t ∈ o.looksAt ops := by
  unfold Oper.looksAt
  refine List.mem_append_right _ ?_
  rw [hg]
  unfold gtmp at h
  simp [h]
theorem ev_congr {σ σ' : St} {ops : Array Oper} {o : Oper} (h : ∀ t ∈ o.looksAt ops, look σ.env t = look σ'.env t) : ∀ y ∈ o.op.operands, σ.ev y = σ'.ev y := by
  intro y hy
  cases y with
  | tmp t => exact h t (looks_operand hy)
  | _ => rfl
theorem callOf_operands {op : Op} {f : Operand} {args : List Operand} (h : callOf op = some (f, args)) : f ∈ op.operands ∧ ∀ y ∈ args, y ∈ op.operands := by
  cases op <;> simp only [callOf] at h <;> try (cases h; done)
  rename_i cl
  obtain ⟨callee, cargs, tys⟩ := cl
  cases callee <;> simp only [] at h <;> try (cases h; done)
  simp only [Option.some.injEq, Prod.mk.injEq] at h
  obtain ⟨rfl, rfl⟩ := h
  simp [Op.operands, Call.operands]
  exact fun y hy => .inr hy
theorem Exec.congr {x : X} {o : Oper} {σ σ' : St} {ops : Array Oper} {out : Option T} {u : Upd} (h : Exec x o σ out u) (he : ∀ t ∈ o.looksAt ops, look σ.env t = look σ'.env t) (hm : ∀ id ∈ sup σ.ev (o.dst.getD 0) o.op, σ.m id = σ'.m id) : Exec x o σ' out u := by
  have hev := ev_congr he
  rcases h with ⟨f, args, g, caps, ys, zs, rs, hc, hf, hargs, hle, hsp, h1, h2⟩ | ⟨hc, h1, h2⟩
  · have ho := callOf_operands hc
    exact .inl ⟨f, args, g, caps, ys, zs, rs, hc, by rw [← hev f ho.1]; exact hf, by rw [← allT_congr fun y hy => hev y (ho.2 y hy)]; exact hargs, hle, hsp, h1, h2⟩
  · refine .inr ⟨hc, ?_, h2⟩
    rw [← evOp_ρ hev, ← evOp_m hm]
    exact h1
theorem Act1.congr {x : X} {N : Nat} {o : Oper} {σ σ' : St} {ops : Array Oper} {out : Option T} {u : Upd} (h : Act1 x N ops o σ out u) (he : ∀ t ∈ o.looksAt ops, look σ.env t = look σ'.env t)
    (hm : Exec x o σ out u → ∀ id ∈ sup σ.ev (o.dst.getD 0) o.op, σ.m id = σ'.m id) : Act1 x N ops o σ' out u := by
  have hgd : ∀ j want b, o.guard = some (j, want) → gval ops σ.env j = some b → gval ops σ'.env j = some b := by
    intro j want b hg hb
    unfold gval at hb ⊢
    cases hq : gtmp ops j with
    | none => rw [hq] at hb; cases hb
    | some t =>
      rw [hq, Option.bind_some] at hb
      rw [Option.bind_some, ← he t (looks_guard hg hq)]
      exact hb
  obtain ⟨h0, h1⟩ := h
  refine ⟨h0, ?_⟩
  rcases h1 with ⟨h2, h3⟩ | ⟨⟨j, want, b, h2, h3, h4⟩, h5⟩
  · refine .inl ⟨?_, h3.congr he (hm h3)⟩
    rcases h2 with h2 | ⟨j, want, h2, h4⟩
    · exact .inl h2
    · exact .inr ⟨j, want, h2, hgd _ _ _ h2 h4⟩
  · exact .inr ⟨⟨j, want, b, h2, hgd _ _ _ h2 h3, h4⟩, h5⟩
theorem Tr.alike {x : X} {N : Nat} {ops : Array Oper} {K : St → Prop} (hK : ∀ σ σ', Alike σ σ' → K σ → K σ') : ∀ {l : List Nat} {σ σ' : St}, Alike σ σ' → Tr x N ops l σ K → Tr x N ops l σ' K
  | [], σ, σ', e, h => hK _ _ e h
  | i :: r, σ, σ', e, ⟨o, out, u, h1, h2, h3⟩ => ⟨o, out, u, h1, h2.congr (fun t _ => e.env t) (fun _ i _ => e.mem i), Tr.alike hK (app_alike e _ _ _) h3⟩
end Go.Pm
namespace Go.Pm
open Go.RowKit

/-- Which pairs must be ordered, beside those that share a temporary. -/
def meetsN (a b : Nat) : Bool := (a == 1 && b == 2) || (a == 2 && b == 1) || (a == 2 && b == 2) || (a == 4 && b == 4)
def meets (p q : Oper) : Bool := meetsN (clsOp p.op) (clsOp q.op)
def Wf (σ : St) : Prop := ∃ c a w, Sim c σ a w
theorem Wf.obj {σ : St} (h : Wf σ) {t id g off : Nat} (hl : look σ.env t = some (.obj id g off)) : ∃ o g', σ.m id = some o ∧ o.gen = some g' := by
  obtain ⟨c, a, w, μ, L, ow, hi, he⟩ := h
  have hr := he.2.2 t _ hl
  generalize a.tmps.getD t undef = v at hr
  cases hr with
  | obj hm hg => exact ⟨_, _, hm, hg⟩
theorem Wf.own {σ : St} (h : Wf σ) {t id : Nat} {xs : List D} (hl : look σ.env t = some (.own id xs)) : ∃ e s n, σ.m id = some (.tok e s n) := by
  obtain ⟨c, a, w, μ, L, ow, hi, he⟩ := h
  have hr := he.2.2 t _ hl
  generalize a.tmps.getD t undef = v at hr
  cases hr with
  | own _ hm => exact ⟨_, _, _, hm⟩
theorem ev_look {σ : St} {y : Operand} {id : Nat} (h : (∃ g off, σ.ev y = some (.obj id g off)) ∨ ∃ xs, σ.ev y = some (.own id xs)) : ∃ t, y = .tmp t ∧ σ.ev y = look σ.env t := by
  cases y with
  | tmp t => exact ⟨t, rfl, rfl⟩
  | const v =>
    rcases h with ⟨_, _, h⟩ | ⟨_, h⟩ <;> simp only [St.ev] at h <;> unfold constT at h <;> split at h <;> simp at h
  | func f => rcases h with ⟨_, _, h⟩ | ⟨_, h⟩ <;> simp [St.ev] at h
  | global g => rcases h with ⟨_, _, h⟩ | ⟨_, h⟩ <;> simp [St.ev] at h
/-- What an operation names, in a state in which it may come up: a variable in memory, a row, or the new thing that it makes. -/
theorem sup_kinds {σ : St} (hw : Wf σ) {d : Nat} {op : Op} {id : Nat} (h : id ∈ sup σ.ev d op) :
    ((clsOp op = 1 ∨ clsOp op = 2) ∧ ∃ o g', σ.m id = some o ∧ o.gen = some g') ∨ (clsOp op = 3 ∧ id = d) ∨ (clsOp op = 4 ∧ ((∃ e s n, σ.m id = some (.tok e s n)) ∨ id = d)) := by
  cases op <;> simp only [sup] at h <;> try (simp at h; done)
  case alloc e => exact .inr (.inl ⟨rfl, by simpa using h⟩)
  case box e x => exact .inr (.inl ⟨rfl, by simpa using h⟩)
  case buildSlice t n p => exact .inr (.inl ⟨rfl, by simpa using h⟩)
  case load t a =>
    refine .inl ⟨.inl rfl, ?_⟩
    unfold idsOf at h
    split at h
    · rename_i id' g off ha
      simp at h
      subst h
      obtain ⟨q, _, h2⟩ := ev_look (.inl ⟨g, off, ha⟩)
      exact hw.obj (h2.symm.trans ha)
    · simp at h
  case store t a x =>
    refine .inl ⟨.inr rfl, ?_⟩
    unfold idsOf at h
    split at h
    · rename_i id' g off ha
      simp at h
      subst h
      obtain ⟨q, _, h2⟩ := ev_look (.inl ⟨g, off, ha⟩)
      exact hw.obj (h2.symm.trans ha)
    · simp at h
  case call cl =>
    obtain ⟨callee, args, tys⟩ := cl
    cases callee <;> simp only [] at h <;> try (simp at h; done)
    rename_i b
    cases b <;> simp only [] at h <;> try (simp at h; done)
    refine .inr (.inr ⟨rfl, ?_⟩)
    split at h
    · split at h
      · rename_i s r hs id' xs ha
        simp at h
        subst h
        obtain ⟨q, _, h2⟩ := ev_look (.inr ⟨xs, ha⟩)
        exact .inl (hw.own (h2.symm.trans ha))
      · exact .inr (by simpa using h)
    · simp at h
/-- A step can be taken: the state behind it is one of some frame and world. -/
theorem Wf.step {x : X} {N : Nat} {ops : Array Oper} {o : Oper} {σ : St} {out : Option T} {u : Upd} {c : Ctx} {a : Act} {w : World} (hs : Sim c σ a w) (hN : c.n = N) (h : Act1 x N ops o σ out u) : Wf (app σ o.dst out u) := by
  subst hN
  obtain ⟨h0, h1⟩ := h
  rcases h1 with ⟨_, h3⟩ | ⟨_, rfl, rfl⟩
  · have hw := WOp_ok (ref := false) (Q := fun _ _ _ => False) (exec_WOp h0 h3 (K := fun σ' => σ' = app σ o.dst out u) rfl) hs (next := fun a' w' => Sim c (app σ o.dst out u) a' w') (fun σ' a' w' e hs' => e ▸ hs')
    unfold Oper.wp at hw
    generalize (execOp a.eval o).run x.P w = r at hw
    cases r with
    | ok nx w' =>
      cases nx <;> simp only [Oper.upon] at hw <;> try exact ⟨c, _, _, hw⟩
      · obtain ⟨e, w2, fr, hR, _⟩ := hw []
        cases e with
        | returned v => exact ⟨c, _, _, hR⟩
        | panicked ch => exact hR.elim
        | outgrown => obtain ⟨_, _, hR⟩ := hR; exact hR.elim
      · obtain ⟨v, w2, hR, _⟩ := hw default []
        exact ⟨c, _, _, hR⟩
      all_goals exact hw.elim
    | halt e w' => cases e <;> simp only [Oper.upon] at hw
  · obtain ⟨μ, L, ow, hi, he⟩ := hs
    refine ⟨c, a.put o.dst undef, w, μ, L, ow, ?_, ?_⟩
    · rw [app_m]; exact hi
    · rw [app_m]
      exact he.putO (mm := σ.mem) h0 .un

theorem upd_look (m : Mem) (u : Upd) (i : Nat) (h : ∀ id o, u = some (id, o) → id ≠ i) : m.upd u i = m i := by
  cases u with
  | none => rfl
  | some p => simp [Mem.upd, setM, h p.1 p.2 rfl]
theorem upd_mono {m : Mem} {u : Upd} {i : Nat} (h : m.upd u i = none) : m i = none := by
  cases u with
  | none => exact h
  | some p =>
    simp only [Mem.upd, setM] at h
    split at h
    · cases h
    · exact h
/-- The change that an operation makes is told by 'evOp_u'. -/
theorem Act1.upd {x : X} {N : Nat} {ops : Array Oper} {o : Oper} {σ : St} {out : Option T} {id : Nat} {ow : Own} (h : Act1 x N ops o σ out (some (id, ow))) :
    (clsOp o.op = 2 ∧ id ∈ sup σ.ev (o.dst.getD 0) o.op ∧ ∃ o g', σ.m id = some o ∧ o.gen = some g') ∨ (clsOp o.op = 3 ∧ id = o.dst.getD 0 ∧ σ.m id = none) ∨
    (clsOp o.op = 4 ∧ ((∃ e s n, σ.m id = some (.tok e s n)) ∨ (id = o.dst.getD 0 ∧ σ.m id = none)) ∧ id ∈ sup σ.ev (o.dst.getD 0) o.op) := by
  rcases h.2 with ⟨_, h3⟩ | ⟨_, _, h3⟩
  · rcases h3 with ⟨_, _, _, _, _, _, _, _, _, _, _, _, _, h4⟩ | ⟨_, h4, _⟩
    · cases h4
    · rcases evOp_u h4 with h5 | ⟨h5, h6, h7⟩ | ⟨h5, h6, h7⟩
      · obtain ⟨k1, k2, g, cs, k3⟩ := h5
        exact .inl ⟨k1, k2, _, _, k3, rfl⟩
      · exact .inr (.inl ⟨h5, h6, by rw [h6]; exact h7⟩)
      · refine .inr (.inr ⟨h5, ?_, h7⟩)
        rcases h6 with h6 | ⟨h6, h8⟩
        · exact .inl h6
        · exact .inr ⟨h6, by rw [h6]; exact h8⟩
  · cases h3

/-- What makes a new thing has a place for it. -/
def hasDst (o : Oper) : Bool := match clsOp o.op with
  | 3 | 4 => o.dst.isSome
  | _ => true
/-- What an operation that runs names, told of an earlier state in which its operands were there already. -/
theorem kinds2 {σ : St} (hw : Wf σ) {tab : Tab} {m1 : Mem} {d : Nat} {op : Op} {r : Option T × Upd} (h : evOp tab σ.ev m1 d op = some r) (hm : ∀ i, m1 i = none → σ.m i = none) {id : Nat} (hid : id ∈ sup σ.ev d op) :
    ((clsOp op = 1 ∨ clsOp op = 2) ∧ ∃ o g', σ.m id = some o ∧ o.gen = some g') ∨ (clsOp op = 3 ∧ id = d ∧ σ.m id = none) ∨ (clsOp op = 4 ∧ ((∃ e s n, σ.m id = some (.tok e s n)) ∨ (id = d ∧ σ.m id = none))) := by
  cases op <;> simp only [sup] at hid <;> try (simp at hid; done)
  case alloc e =>
    simp at hid
    subst hid
    simp only [evOp] at h
    split at h
    · rename_i _ hd; exact .inr (.inl ⟨rfl, rfl, hm _ hd⟩)
    · cases h
  case box e x =>
    simp at hid
    subst hid
    simp only [evOp] at h
    split at h
    · rename_i _ hd; exact .inr (.inl ⟨rfl, rfl, hm _ hd⟩)
    · cases h
  case buildSlice t n p =>
    simp at hid
    subst hid
    simp only [evOp] at h
    split at h
    · split at h
      · rename_i hd; exact .inr (.inl ⟨rfl, rfl, hm _ hd⟩)
      · cases h
    · cases h
  case load t a =>
    rcases sup_kinds hw (op := .load t a) (d := d) hid with h1 | ⟨h1, _⟩ | ⟨h1, _⟩
    · exact .inl h1
    · cases h1
    · cases h1
  case store t a x =>
    rcases sup_kinds hw (op := .store t a x) (d := d) hid with h1 | ⟨h1, _⟩ | ⟨h1, _⟩
    · exact .inl h1
    · cases h1
    · cases h1
  case call cl =>
    obtain ⟨callee, args, tys⟩ := cl
    cases callee <;> simp only [] at hid <;> try (simp at hid; done)
    rename_i b
    cases b <;> simp only [] at hid <;> try (simp at hid; done)
    refine .inr (.inr ⟨rfl, ?_⟩)
    simp only [evOp] at h
    unfold evBuiltin at h
    split at h
    · rename_i _ _ hb _ _; cases hb
    · rename_i s y t t' _ hs ht
      rw [hs] at hid
      simp only [] at hid
      split at h
      · split at h
        · rename_i e sz by_ z id' xs ys h1 h2 h3
          rw [h2] at hid
          simp at hid
          subst hid
          obtain ⟨q, _, h4⟩ := ev_look (.inr ⟨xs, h2⟩)
          exact .inl (hw.own (h4.symm.trans h2))
        · rename_i e sz by_ z ys h1 h2 h3
          rw [h2] at hid
          simp at hid
          subst hid
          split at h
          · rename_i ie hie hd; exact .inr ⟨rfl, hm _ hd⟩
          · cases h
        · cases h
      · cases h
    · rename_i _ _ _ hb _; cases hb
    · rename_i _ _ _ hb _; cases hb
    · cases h
/-- What one changes the other does not name. -/
theorem apart_names {x : X} {N : Nat} {ops : Array Oper} {p q : Oper} {σ : St} (hap : ∀ d, p.dst = some d → q.dst ≠ some d) (hmt : meets p q = false) (hp : hasDst p = true) (hq : hasDst q = true) {outp : Option T} {idp : Nat} {op : Own}
    (hap1 : Act1 x N ops p σ outp (some (idp, op))) {id : Nat} (hk : ((clsOp q.op = 1 ∨ clsOp q.op = 2) ∧ ∃ o g', σ.m id = some o ∧ o.gen = some g') ∨ (clsOp q.op = 3 ∧ id = q.dst.getD 0 ∧ σ.m id = none) ∨ (clsOp q.op = 4 ∧ ((∃ e s n, σ.m id = some (.tok e s n)) ∨ (id = q.dst.getD 0 ∧ σ.m id = none)))) : idp ≠ id := by
  intro e
  subst e
  have hne : (clsOp p.op = 3 ∨ clsOp p.op = 4) → (clsOp q.op = 3 ∨ clsOp q.op = 4) → p.dst.getD 0 ≠ q.dst.getD 0 := by
    intro h1 h2 h3
    have hp' : p.dst.isSome = true := by unfold hasDst at hp; rcases h1 with h1 | h1 <;> rw [h1] at hp <;> exact hp
    have hq' : q.dst.isSome = true := by unfold hasDst at hq; rcases h2 with h2 | h2 <;> rw [h2] at hq <;> exact hq
    obtain ⟨a, ha⟩ := Option.isSome_iff_exists.1 hp'
    obtain ⟨b, hb⟩ := Option.isSome_iff_exists.1 hq'
    rw [ha, hb] at h3
    simp at h3
    subst h3
    exact hap a ha hb
  unfold meets meetsN at hmt
  rcases hap1.upd with ⟨h1, h2, cs, cg, h3, h3g⟩ | ⟨h1, h2, h3⟩ | ⟨h1, h2, _⟩
  · rcases hk with ⟨h4, cs', g', h5, _⟩ | ⟨h4, h5, h6⟩ | ⟨h4, h5⟩
    · rcases h4 with h4 | h4 <;> rw [h1, h4] at hmt <;> cases hmt
    · rw [h3] at h6; cases h6
    · rcases h5 with ⟨_, _, _, h6⟩ | ⟨_, h6⟩
      · rw [h3] at h6; injection h6 with h6; subst h6; cases h3g
      · rw [h3] at h6; cases h6
  · rcases hk with ⟨h4, cs', g', h5, _⟩ | ⟨h4, h5, h6⟩ | ⟨h4, h5⟩
    · rw [h3] at h5; cases h5
    · exact hne (.inl h1) (.inl h4) (h2.symm.trans h5)
    · rcases h5 with ⟨_, _, _, h6⟩ | ⟨h5, _⟩
      · rw [h3] at h6; cases h6
      · exact hne (.inl h1) (.inr h4) (h2.symm.trans h5)
  · rcases hk with ⟨h4, cs', g', h5, h5g⟩ | ⟨h4, h5, h6⟩ | ⟨h4, h5⟩
    · rcases h2 with ⟨_, _, _, h6⟩ | ⟨_, h6⟩
      · rw [h5] at h6; injection h6 with h6; subst h6; cases h5g
      · rw [h5] at h6; cases h6
    · rcases h2 with ⟨_, _, _, h7⟩ | ⟨h7, _⟩
      · rw [h6] at h7; cases h7
      · exact hne (.inr h1) (.inl h4) (h7.symm.trans h5)
    · rw [h1, h4] at hmt; cases hmt
theorem meets_symm (p q : Oper) : meets p q = meets q p := by
  unfold meets meetsN
  generalize clsOp p.op = a
  generalize clsOp q.op = b
  cases (a == 1) <;> cases (a == 2) <;> cases (a == 4) <;> cases (b == 1) <;> cases (b == 2) <;> cases (b == 4) <;> rfl
theorem Exec.kinds {x : X} {o : Oper} {σ σ1 : St} (hw : Wf σ) {out : Option T} {u : Upd} (h : Exec x o σ1 out u) (hev : ∀ y ∈ o.op.operands, σ1.ev y = σ.ev y) (hm : ∀ i, σ1.m i = none → σ.m i = none) {id : Nat} (hid : id ∈ sup σ.ev (o.dst.getD 0) o.op) :
    ((clsOp o.op = 1 ∨ clsOp o.op = 2) ∧ ∃ o g', σ.m id = some o ∧ o.gen = some g') ∨ (clsOp o.op = 3 ∧ id = o.dst.getD 0 ∧ σ.m id = none) ∨ (clsOp o.op = 4 ∧ ((∃ e s n, σ.m id = some (.tok e s n)) ∨ (id = o.dst.getD 0 ∧ σ.m id = none))) := by
  rcases h with ⟨f, args, g, caps, ys, zs, rs, hc, _⟩ | ⟨hc, h1, _⟩
  · exfalso
    generalize o.op = op at hc hid
    cases op <;> simp only [callOf] at hc <;> try (cases hc; done)
    rename_i cl
    obtain ⟨callee, args, tys⟩ := cl
    cases callee <;> simp only [] at hc <;> try (cases hc; done)
    simp [sup] at hid
  · rw [evOp_ρ hev] at h1
    exact kinds2 hw h1 hm hid
theorem Wf.alike {σ σ' : St} (h : Wf σ) (e : Alike σ σ') : Wf σ' := by obtain ⟨c, a, w, hs⟩ := h; exact ⟨c, a, w, hs.alike e⟩
/-- Two that do not meet change places. -/
theorem swap {x : X} {N : Nat} {ops : Array Oper} {p q : Oper} {σ : St} (hw : Wf σ) (hap : p.apart ops q = true) (hmt : meets p q = false) (hp : hasDst p = true) (hq : hasDst q = true) {outp outq : Option T} {up uq : Upd}
    (h1 : Act1 x N ops p σ outp up) (h2 : Act1 x N ops q (app σ p.dst outp up) outq uq) :
    Act1 x N ops q σ outq uq ∧ Act1 x N ops p (app σ q.dst outq uq) outp up ∧ Alike (app (app σ p.dst outp up) q.dst outq uq) (app (app σ q.dst outq uq) p.dst outp up) := by
  obtain ⟨s1, s2, s3⟩ := Oper.apart_spec hap
  have hlook : ∀ t ∈ q.looksAt ops, look (app σ p.dst outp up).env t = look σ.env t := by
    intro t ht
    rw [app_look]
    split
    · rename_i d y hd
      rw [if_neg]
      rintro rfl
      exact s1 d hd ht
    · rfl
  have hevq : ∀ y ∈ q.op.operands, (app σ p.dst outp up).ev y = σ.ev y := ev_congr hlook
  have hmono : ∀ i, (app σ p.dst outp up).m i = none → σ.m i = none := fun i hi => by rw [app_m] at hi; exact upd_mono hi
  have hsupq : sup (app σ p.dst outp up).ev (q.dst.getD 0) q.op = sup σ.ev (q.dst.getD 0) q.op := sup_ρ hevq
  have g1 : Act1 x N ops q σ outq uq := by
    refine h2.congr hlook fun hex id hid => ?_
    rw [hsupq] at hid
    rw [app_m]
    refine upd_look _ _ _ fun i o hu => ?_
    subst hu
    exact apart_names s2 hmt hp hq h1 (hex.kinds hw hevq hmono hid)
  have hlook2 : ∀ t ∈ p.looksAt ops, look σ.env t = look (app σ q.dst outq uq).env t := by
    intro t ht
    rw [app_look]
    split
    · rename_i d y hd
      rw [if_neg]
      rintro rfl
      exact s3 d hd ht
    · rfl
  have g2 : Act1 x N ops p (app σ q.dst outq uq) outp up := by
    refine h1.congr hlook2 fun hex id hid => ?_
    rw [app_m]
    refine (upd_look _ _ _ fun i o hu => ?_).symm
    subst hu
    exact apart_names (fun d hd hd' => s2 d hd' hd) (by rw [meets_symm]; exact hmt) hq hp g1 (hex.kinds hw (fun _ _ => rfl) (fun _ h => h) hid)
  refine ⟨g1, g2, ⟨fun t => ?_, fun i => ?_⟩⟩
  · rw [app_look, app_look, app_look, app_look]
    cases hpd : p.dst with
    | none => cases q.dst <;> cases outq <;> cases outp <;> rfl
    | some d =>
      cases hqd : q.dst with
      | none => cases outq <;> cases outp <;> rfl
      | some e =>
        have hne : d ≠ e := fun h => s2 d hpd (by rw [hqd, h])
        cases outq <;> cases outp <;> simp only []
        by_cases h3 : e = t
        · subst h3; simp [hne]
        · by_cases h4 : d = t
          · subst h4; simp [h3]
          · simp [h3, h4]
  · show (app (app σ p.dst outp up) q.dst outq uq).m i = (app (app σ q.dst outq uq) p.dst outp up).m i
    rw [app_m, app_m, app_m, app_m]
    cases up with
    | none => rfl
    | some a =>
      cases uq with
      | none => rfl
      | some b =>
        have hne : a.1 ≠ b.1 := by
          have hb := g1.upd
          refine apart_names (id := b.1) s2 hmt hp hq h1 ?_
          rcases hb with ⟨h3, _, h4⟩ | ⟨h3, h4, h5⟩ | ⟨h3, h4, _⟩
          · exact .inl ⟨.inr h3, h4⟩
          · exact .inr (.inl ⟨h3, h4, h5⟩)
          · exact .inr (.inr ⟨h3, h4⟩)
        simp only [Mem.upd, setM]
        by_cases h3 : b.1 = i
        · subst h3; simp [hne]
        · simp [h3]
end Go.Pm
namespace Go.Pm
open Go.RowKit

def WfN (N : Nat) (σ : St) : Prop := ∃ c a w, Sim c σ a w ∧ c.n = N
theorem WfN.wf {N : Nat} {σ : St} (h : WfN N σ) : Wf σ := by obtain ⟨c, a, w, hs, _⟩ := h; exact ⟨c, a, w, hs⟩
theorem Act1.sound {x : X} {c : Ctx} {ops : Array Oper} {Q : Exit → Act → World → Prop} {i : Nat} {o : Oper} {σ : St} {out : Option T} {u : Upd} {a : Act} {w : World} {next : Act → World → Prop} (ho : ops[i]? = some o) (hs : Sim c σ a w) (h : Act1 x c.n ops o σ out u)
    (hn : ∀ a' w', Sim c (app σ o.dst out u) a' w' → next a' w') : wpOp x.P ops Q i next a w := by
  unfold wpOp
  rw [ho]
  simp only []
  obtain ⟨h0, h1⟩ := h
  rcases h1 with ⟨hg, h3⟩ | ⟨⟨j, want, b, hg, hb, hne⟩, rfl, rfl⟩
  · have hw : Region.wanted o (yielded ops a.tmps) = true := by
      rcases hg with hg | ⟨j, want, hg, hb⟩
      · simp [Region.wanted, hg]
      · simp [Region.wanted, hg, yielded_of hs trivial hb]
    rw [if_pos hw]
    exact .inl (WOp_ok (ref := false) (exec_WOp h0 h3 (K := fun σ' => σ' = app σ o.dst out u) rfl) hs fun σ' a' w' e hs' => hn _ _ (e ▸ hs'))
  · rw [if_neg (by simp [Region.wanted, hg, yielded_of hs trivial hb, hne])]
    refine hn _ _ ?_
    obtain ⟨μ, L, ow, hi, he⟩ := hs
    refine ⟨μ, L, ow, ?_, ?_⟩
    · rw [app_m]; exact hi
    · rw [app_m]
      exact he.putO (mm := σ.mem) h0 .un
theorem WfN.step {x : X} {N : Nat} {ops : Array Oper} {o : Oper} {σ : St} {out : Option T} {u : Upd} (hw : WfN N σ) (h : Act1 x N ops o σ out u) : WfN N (app σ o.dst out u) := by
  obtain ⟨c, a, w, hs, rfl⟩ := hw
  obtain ⟨h0, h1⟩ := h
  rcases h1 with ⟨_, h3⟩ | ⟨_, rfl, rfl⟩
  · have hw := WOp_ok (ref := false) (Q := fun _ _ _ => False) (exec_WOp h0 h3 (K := fun σ' => σ' = app σ o.dst out u) rfl) hs (next := fun a' w' => Sim c (app σ o.dst out u) a' w') (fun σ' a' w' e hs' => e ▸ hs')
    unfold Oper.wp at hw
    generalize (execOp a.eval o).run x.P w = r at hw
    cases r with
    | ok nx w' =>
      cases nx <;> simp only [Oper.upon] at hw <;> try exact ⟨c, _, _, hw, rfl⟩
      · obtain ⟨e, w2, fr, hR, _⟩ := hw []
        cases e with
        | returned v => exact ⟨c, _, _, hR, rfl⟩
        | panicked ch => exact hR.elim
        | outgrown => obtain ⟨_, _, hR⟩ := hR; exact hR.elim
      · obtain ⟨v, w2, hR, _⟩ := hw default []
        exact ⟨c, _, _, hR, rfl⟩
      all_goals exact hw.elim
    | halt e w' => cases e <;> simp only [Oper.upon] at hw
  · obtain ⟨μ, L, ow, hi, he⟩ := hs
    refine ⟨c, a.put o.dst undef, w, ⟨μ, L, ow, ?_, ?_⟩, rfl⟩
    · rw [app_m]; exact hi
    · rw [app_m]
      exact he.putO (mm := σ.mem) h0 .un
def free (ops : Array Oper) (i j : Nat) : Prop := ∀ p q, ops[i]? = some p → ops[j]? = some q → p.apart ops q = true ∧ meets p q = false ∧ hasDst p = true ∧ hasDst q = true
theorem bubble {x : X} {N : Nat} {ops : Array Oper} {K : St → Prop} (hK : ∀ σ σ', Alike σ σ' → K σ → K σ') {i : Nat} {B : List Nat} : ∀ (A : List Nat) (σ : St), WfN N σ → (∀ a ∈ A, free ops a i) → Tr x N ops (A ++ i :: B) σ K →
    ∃ o out u, ops[i]? = some o ∧ Act1 x N ops o σ out u ∧ Tr x N ops (A ++ B) (app σ o.dst out u) K
  | [], σ, _, _, h => h
  | a :: A, σ, hw, hf, ⟨p, op, up, hp, h1, h2⟩ => by
    obtain ⟨q, oq, uq, hq, h3, h4⟩ := bubble hK A _ (hw.step h1) (fun b hb => hf b (List.mem_cons_of_mem _ hb)) h2
    obtain ⟨f1, f2, f3, f4⟩ := hf a List.mem_cons_self p q hp hq
    obtain ⟨g1, g2, g3⟩ := swap hw.wf f1 f2 f3 f4 h1 h3
    exact ⟨q, oq, uq, hq, g1, p, op, up, hp, g2, h4.alike hK g3⟩

/-! ### What must come first -/
inductive Dep (ops : Array Oper) : Nat → Nat → Prop
  | one {j : Nat} {o : Oper} {e : Edge} (ho : ops[j]? = some o) (he : e ∈ o.after.toList) (hb : Region.binds .any e = true) : Dep ops j e.on
  | more {j i : Nat} {o : Oper} {e : Edge} (ho : ops[j]? = some o) (he : e ∈ o.after.toList) (hb : Region.binds .any e = true) (h : Dep ops e.on i) : Dep ops j i
def bitsStep (bits : List Nat) (es : List Edge) : Nat := es.foldl (fun s e => if Region.binds .any e then s ||| (2 ^ e.on ||| bits.getD e.on 0) else s) 0
def bitsAux : List Oper → List Nat → List Nat
  | [], acc => acc
  | o :: r, acc => bitsAux r (acc ++ [bitsStep acc o.after.toList])
theorem bitsFold (bits : List Nat) (i : Nat) : ∀ (es : List Edge) (s : Nat), (es.foldl (fun s e => if Region.binds .any e then s ||| (2 ^ e.on ||| bits.getD e.on 0) else s) s).testBit i = true →
    s.testBit i = true ∨ ∃ e ∈ es, Region.binds .any e = true ∧ (e.on = i ∨ (bits.getD e.on 0).testBit i = true)
  | [], s, h => .inl h
  | e :: es, s, h => by
    rw [List.foldl_cons] at h
    rcases bitsFold bits i es _ h with h1 | ⟨e', h1, h2⟩
    · split at h1
      · rename_i hb
        rw [Nat.testBit_or, Nat.testBit_or, Bool.or_eq_true, Bool.or_eq_true] at h1
        rcases h1 with h1 | h1 | h1
        · exact .inl h1
        · refine .inr ⟨e, List.mem_cons_self, hb, .inl ?_⟩
          rw [Nat.testBit_two_pow] at h1
          simpa using h1
        · exact .inr ⟨e, List.mem_cons_self, hb, .inr h1⟩
      · exact .inl h1
    · exact .inr ⟨e', List.mem_cons_of_mem _ h1, h2⟩
theorem bitsAux_ok {ops : Array Oper} : ∀ (l : List Oper) (acc : List Nat), (∀ j, l[j]? = ops[acc.length + j]?) → (∀ j i, (acc.getD j 0).testBit i = true → Dep ops j i) → ∀ j i, ((bitsAux l acc).getD j 0).testBit i = true → Dep ops j i
  | [], acc, _, ha, j, i, h => ha j i h
  | o :: r, acc, hl, ha, j, i, h => by
    refine bitsAux_ok r (acc ++ [bitsStep acc o.after.toList]) (fun k => ?_) (fun k q hk => ?_) j i h
    · have := hl (k + 1)
      simp only [List.length_append, List.length_singleton]
      rw [Nat.add_assoc, Nat.add_comm 1 k]
      simpa using this
    · rw [List.getD_eq_getElem?_getD, List.getElem?_append] at hk
      split at hk
      · exact ha k q (by rw [List.getD_eq_getElem?_getD]; exact hk)
      · rename_i hlt
        by_cases he : k = acc.length
        · subst he
          simp at hk
          have ho : ops[acc.length]? = some o := by simpa using (hl 0).symm
          rcases bitsFold acc q _ 0 hk with h1 | ⟨e, h1, h2, h3⟩
          · simp at h1
          · rcases h3 with h3 | h3
            · subst h3; exact .one ho h1 h2
            · exact .more ho h1 h2 (ha _ _ h3)
        · have : ([bitsStep acc o.after.toList] : List Nat)[k - acc.length]? = none := List.getElem?_eq_none (by simp; omega)
          rw [this] at hk
          simp at hk
def drawOK (ops : Array Oper) : Bool :=
  let l := ops.toList.zipIdx
  let bits := bitsAux ops.toList []
  (l.all fun p => hasDst p.1 && p.1.after.toList.all fun e => !Region.binds .any e || decide (e.on < p.2)) &&
  l.all fun q => l.all fun p => !decide (p.2 < q.2) || (bits.getD q.2 0).testBit p.2 || (p.1.apart ops q.1 && !meets p.1 q.1)
theorem mem_zip {ops : Array Oper} {i : Nat} {o : Oper} (h : ops[i]? = some o) : (o, i) ∈ ops.toList.zipIdx := by
  rw [List.mem_zipIdx_iff_getElem?]
  simpa using h
theorem drawOK_ok {ops : Array Oper} (h : drawOK ops = true) : (∀ j o, ops[j]? = some o → hasDst o = true ∧ ∀ e ∈ o.after.toList, Region.binds .any e = true → e.on < j) ∧
    ∀ i j, i < j → Dep ops j i ∨ free ops i j := by
  unfold drawOK at h
  rw [Bool.and_eq_true] at h
  obtain ⟨h1, h2⟩ := h
  have g1 : ∀ j o, ops[j]? = some o → hasDst o = true ∧ ∀ e ∈ o.after.toList, Region.binds .any e = true → e.on < j := by
    intro j o ho
    have := List.all_eq_true.1 h1 _ (mem_zip ho)
    rw [Bool.and_eq_true] at this
    refine ⟨this.1, fun e he hb => ?_⟩
    have h3 := List.all_eq_true.1 this.2 e he
    rw [hb] at h3
    simpa using h3
  refine ⟨g1, fun i j hij => ?_⟩
  by_cases hd : Dep ops j i
  · exact .inl hd
  · refine .inr fun p q hp hq => ?_
    have h3 := List.all_eq_true.1 (List.all_eq_true.1 h2 _ (mem_zip hq)) _ (mem_zip hp)
    simp only [Bool.or_eq_true, Bool.and_eq_true, Bool.not_eq_true', decide_eq_false_iff_not] at h3
    rcases h3 with (h3 | h3) | h3
    · exact absurd hij h3
    · exact absurd (bitsAux_ok (ops := ops) ops.toList [] (fun k => by simp) (fun k q hk => by simp at hk) j i h3) hd
    · exact ⟨h3.1, h3.2, (g1 i p hp).1, (g1 j q hq).1⟩

def unl (n : Nat) (listed : Array Bool) : List Nat := (List.range n).filter fun i => !listed.getD i true
def Closed (ops : Array Oper) (listed : Array Bool) : Prop := ∀ j o, ops[j]? = some o → listed.getD j false = true → ∀ e ∈ o.after.toList, Region.binds .any e = true → listed.getD e.on false = true
theorem Closed.dep {ops : Array Oper} {listed : Array Bool} (h : Closed ops listed) {j i : Nat} (hd : Dep ops j i) : listed.getD j false = true → listed.getD i false = true := by
  induction hd with
  | one ho he hb => exact fun hl => h _ _ ho hl _ he hb
  | more ho he hb _ ih => exact fun hl => ih (h _ _ ho hl _ he hb)
theorem mem_ready {ops : Array Oper} {listed : Array Bool} {i : Nat} : i ∈ Region.ready .any ops listed ↔ i < ops.size ∧ listed.getD i true = false ∧ ∃ o, ops[i]? = some o ∧ ∀ e ∈ o.after.toList, Region.binds .any e = true → listed.getD e.on false = true := by
  unfold Region.ready
  rw [List.mem_filter, List.mem_range, Bool.and_eq_true]
  constructor
  · rintro ⟨h1, h2, h3⟩
    refine ⟨h1, by simpa using h2, ops[i], Array.getElem?_eq_getElem h1, fun e he hb => ?_⟩
    rw [Array.getElem?_eq_getElem h1] at h3
    simp only [Option.map_some, Option.getD_some] at h3
    rw [Array.all_eq_true'] at h3
    have := h3 e (by simpa using he)
    rw [hb] at this
    simpa using this
  · rintro ⟨h1, h2, o, h3, h4⟩
    refine ⟨h1, by simpa using h2, ?_⟩
    rw [h3]
    simp only [Option.map_some, Option.getD_some]
    rw [Array.all_eq_true']
    intro e he
    cases hb : Region.binds .any e with
    | false => simp
    | true => simpa using h4 e (by simpa using he) hb
end Go.Pm
namespace Go.Pm
open Go.RowKit

theorem unl_pairwise (n : Nat) (listed : Array Bool) : (unl n listed).Pairwise (· < ·) := List.Pairwise.filter _ List.pairwise_lt_range
theorem mem_unl {n : Nat} {listed : Array Bool} {i : Nat} : i ∈ unl n listed ↔ i < n ∧ listed.getD i true = false := by simp [unl]
theorem getD_set {listed : Array Bool} {i j : Nat} {d : Bool} (hi : i < listed.size) : (listed.setIfInBounds i true).getD j d = if i = j then true else listed.getD j d := by
  rw [Array.getD_eq_getD_getElem?, Array.getElem?_setIfInBounds]
  split
  · simp [hi]
  · rw [Array.getD_eq_getD_getElem?]
theorem unl_set {n : Nat} {listed : Array Bool} {i : Nat} {A B : List Nat} (hi : i < listed.size) (h : unl n listed = A ++ i :: B) : unl n (listed.setIfInBounds i true) = A ++ B := by
  have hp := unl_pairwise n listed
  have hf : unl n (listed.setIfInBounds i true) = (unl n listed).filter fun j => j != i := by
    unfold unl
    rw [List.filter_filter]
    refine List.filter_congr fun j hj => ?_
    rw [getD_set hi]
    by_cases h : i = j
    · subst h; simp
    · have : ¬ j = i := fun e => h e.symm
      simp [h, this]
  rw [hf, h]
  rw [h] at hp
  rw [List.pairwise_append] at hp
  obtain ⟨h1, h2, h3⟩ := hp
  rw [List.pairwise_cons] at h2
  rw [List.filter_append, List.filter_cons, List.filter_eq_self.2 (fun a ha => by have := h3 a ha i List.mem_cons_self; simp; omega), List.filter_eq_self.2 (fun a ha => by have := h2.1 a ha; simp; omega)]
  simp
theorem getD_ff {listed : Array Bool} {i : Nat} (hi : i < listed.size) (d d' : Bool) : listed.getD i d = listed.getD i d' := by simp [Array.getD, hi]
theorem wpAny_of {x : X} {c : Ctx} {ops : Array Oper} {Q : Exit → Act → World → Prop} {K : St → Prop} (hOK : drawOK ops = true) (hK : ∀ σ σ', Alike σ σ' → K σ → K σ') (hQ : ∀ σ a w, K σ → Sim c σ a w → Q .normal a w) :
    ∀ (fuel : Nat) (listed : Array Bool) (σ : St) (a : Act) (w : World), listed.size = ops.size → Closed ops listed → Tr x c.n ops (unl ops.size listed) σ K → Sim c σ a w → (unl ops.size listed).length ≤ fuel → wpAny x.P .any ops Q fuel listed a w := by
  obtain ⟨g1, g2⟩ := drawOK_ok hOK
  have hend : ∀ (listed : Array Bool) (σ : St) (a : Act) (w : World), listed.size = ops.size → Closed ops listed → Tr x c.n ops (unl ops.size listed) σ K → Sim c σ a w → Region.ready .any ops listed = [] → Q .normal a w := by
    intro listed σ a w hsz hcl htr hs hr
    cases hu : unl ops.size listed with
    | nil => rw [hu] at htr; exact hQ σ a w htr hs
    | cons i r =>
      exfalso
      have hp := unl_pairwise ops.size listed
      have hi : i ∈ unl ops.size listed := by rw [hu]; exact List.mem_cons_self
      obtain ⟨h1, h2⟩ := mem_unl.1 hi
      have hmin : ∀ j, j < i → listed.getD j false = true := by
        intro j hj
        by_cases hl : listed.getD j true = false
        · have : j ∈ unl ops.size listed := mem_unl.2 ⟨by omega, hl⟩
          rw [hu] at this hp
          rcases List.mem_cons.1 this with h3 | h3
          · omega
          · have := (List.pairwise_cons.1 hp).1 j h3; omega
        · rw [getD_ff (by omega) false true]; simpa using hl
      have : i ∈ Region.ready .any ops listed := mem_ready.2 ⟨h1, h2, ops[i], Array.getElem?_eq_getElem h1, fun e he hb => hmin _ ((g1 i _ (Array.getElem?_eq_getElem h1)).2 e he hb)⟩
      rw [hr] at this
      cases this
  intro fuel
  induction fuel with
  | zero =>
    intro listed σ a w hsz hcl htr hs hl
    have hu : unl ops.size listed = [] := List.eq_nil_of_length_eq_zero (by omega)
    have hr : Region.ready .any ops listed = [] := by
      cases hr : Region.ready .any ops listed with
      | nil => rfl
      | cons i r =>
        have hi := mem_ready.1 (show i ∈ Region.ready .any ops listed by rw [hr]; exact List.mem_cons_self)
        have : i ∈ unl ops.size listed := mem_unl.2 ⟨hi.1, hi.2.1⟩
        rw [hu] at this
        cases this
    exact ⟨hr, hend listed σ a w hsz hcl htr hs hr⟩
  | succ fuel ih =>
    intro listed σ a w hsz hcl htr hs hl
    refine ⟨hend listed σ a w hsz hcl htr hs, fun i hi => ?_⟩
    obtain ⟨h1, h2, o, ho, hdeps⟩ := mem_ready.1 hi
    obtain ⟨A, B, hu⟩ := List.append_of_mem (mem_unl.2 ⟨h1, h2⟩ : i ∈ unl ops.size listed)
    have hp := unl_pairwise ops.size listed
    rw [hu] at hp htr hl
    have hA : ∀ b ∈ A, b < i := fun b hb => (List.pairwise_append.1 hp).2.2 b hb i List.mem_cons_self
    have hfree : ∀ b ∈ A, free ops b i := by
      intro b hb
      rcases g2 b i (hA b hb) with h3 | h3
      · exfalso
        have hb' : b ∈ unl ops.size listed := by rw [hu]; exact List.mem_append_left _ hb
        have hb2 := (mem_unl.1 hb').2
        rw [getD_ff (by have := (mem_unl.1 hb').1; omega) true false] at hb2
        have : listed.getD b false = true := by
          cases h3 with
          | one ho' he hbd =>
            rw [ho] at ho'
            injection ho' with ho'
            subst ho'
            exact hdeps _ he hbd
          | more ho' he hbd hd =>
            rw [ho] at ho'
            injection ho' with ho'
            subst ho'
            exact hcl.dep hd (hdeps _ he hbd)
        rw [this] at hb2
        cases hb2
      · exact h3
    obtain ⟨o', out, u, ho', hact, htr'⟩ := bubble hK A σ ⟨c, a, w, hs, rfl⟩ hfree htr
    refine Act1.sound ho' hs hact fun a' w' hs' => ?_
    have hsz' : i < listed.size := by omega
    refine ih (listed.setIfInBounds i true) _ a' w' (by simpa using hsz) ?_ (by rw [unl_set hsz' hu]; exact htr') hs' ?_
    · intro j q hq hj e he hb
      rw [getD_set hsz'] at hj ⊢
      split
      · rfl
      · split at hj
        · rename_i e1
          subst e1
          rw [ho] at hq
          injection hq with hq
          subst hq
          exact hdeps e he hb
        · exact hcl j q hq hj e he hb
    · rw [unl_set hsz' hu]
      simp only [List.length_append, List.length_cons] at hl ⊢
      omega
/-- A drawn region. -/
theorem wp_draw {x : X} {c : Ctx} {ops : Array Oper} {id : Nat} {Q : Exit → Act → World → Prop} {K : St → Prop} {σ : St} {a : Act} {w : World} (hm : x.P.follows .mixedOrders = true) (hOK : drawOK ops = true) (hK : ∀ σ σ', Alike σ σ' → K σ → K σ') (hQ : ∀ σ a w, K σ → Sim c σ a w → Q .normal a w)
    (h : WOps x c.n false ops ops.toList σ K) (hs : Sim c σ a w) : (Code.region id ops true).wp x.P Q a w := by
  refine wp_region_any hm (wpAny_of hOK hK hQ ops.size _ σ a _ (by simp) ?_ ?_ ?_ ?_)
  · intro j o ho hj
    have : (Array.replicate ops.size false).getD j false = false := by
      simp [Array.getD]
    rw [this] at hj
    cases hj
  · have hu : unl ops.size (Array.replicate ops.size false) = List.range ops.size := by
      unfold unl
      refine List.filter_eq_self.2 fun j hj => ?_
      have := List.mem_range.1 hj
      simp [Array.getD, this]
    rw [hu, List.range_eq_range', ← Array.length_toList]
    exact Tr_of ops.toList 0 σ K (by simp) h
  · obtain ⟨μ, L, ow, hi, he⟩ := hs
    exact ⟨μ, L, ow, hi.drew, he⟩
  · refine Nat.le_trans (List.length_filter_le _ _) ?_
    simp
end Go.Pm
namespace Go.Pm
open Go.RowKit

theorem WOp_mono {x : X} {N : Nat} {o : Oper} {σ : St} {K K' : St → Prop} (hk : ∀ σ, K σ → K' σ) (h : WOp x N false o σ K) : WOp x N false o σ K' := by
  obtain ⟨out, u, h1, h2, h3⟩ := WOp_exec h
  exact exec_WOp h1 h2 (hk _ h3)
theorem WOps_mono {x : X} {N : Nat} {ops : Array Oper} {K K' : St → Prop} (hk : ∀ σ, K σ → K' σ) : ∀ {l : List Oper} {σ : St}, WOps x N false ops l σ K → WOps x N false ops l σ K'
  | [], σ, h => hk _ h
  | o :: r, σ, h => by
    unfold WOps at h ⊢
    split
    · rename_i hg
      rw [hg] at h
      exact WOp_mono (fun σ' h' => WOps_mono hk h') h
    · rename_i j want hg
      rw [hg] at h
      simp only [] at h
      split
      · rename_i b hb
        rw [hb] at h
        simp only [] at h
        split
        · rename_i e; rw [if_pos e] at h; exact WOp_mono (fun σ' h' => WOps_mono hk h') h
        · rename_i e; rw [if_neg e] at h; exact ⟨h.1, WOps_mono hk h.2⟩
      · rename_i hne
        rw [hne] at h
        exact h

/-! ### Operations with ghost steps in between -/
def WOpsG (x : X) (N : Nat) (ops : Array Oper) : List Oper → St → (St → Prop) → Prop
  | [], σ, K => K σ
  | o :: r, σ, K => ∃ σ1, Gh x.refs σ σ1 ∧ WOps x N true ops [o] σ1 fun σ' => WOpsG x N ops r σ' K
theorem WOpsG_ok {x : X} {c : Ctx} {ops : Array Oper} {Q : Exit → Act → World → Prop} (hS : x.refs = false → ∀ b, ¬ c.S b) : ∀ (l : List Oper) (σ : St) (K : St → Prop) (a : Act) (w : World), WOpsG x c.n ops l σ K → Sim c σ a w → (∀ σ' a' w', K σ' → Sim c σ' a' w' → Q .normal a' w') → wpList x.P ops Q l a w
  | [], σ, K, a, w, h, hs, hK => hK _ _ _ h hs
  | o :: r, σ, K, a, w, h, hs, hK => by
    obtain ⟨σ1, hg, h⟩ := h
    have hs := hs.gh hS hg
    unfold WOps at h
    refine wpList_step fun K' hK' => ?_
    split at h
    · rename_i hg
      rw [if_pos (by simp [Region.wanted, hg])]
      exact WOp_ok h hs fun σ' a' w' h' hs' => hK' _ _ (WOpsG_ok hS r σ' K a' w' (by unfold WOps at h'; exact h') hs' hK)
    · rename_i j want hg
      split at h
      · rename_i b hb
        have hy := yielded_of hs trivial hb
        split at h
        · rename_i e
          subst e
          rw [if_pos (by simp [Region.wanted, hg, hy])]
          exact WOp_ok h hs fun σ' a' w' h' hs' => hK' _ _ (WOpsG_ok hS r σ' K a' w' (by unfold WOps at h'; exact h') hs' hK)
        · rename_i e
          rw [if_neg (by simp [Region.wanted, hg, hy, e])]
          refine hK' _ _ (WOpsG_ok hS r _ K _ _ (by have := h.2; unfold WOps at this; exact this) ?_ hK)
          obtain ⟨μ, L, ow, hi, he⟩ := hs
          have hm : (σ1.putO o.dst .un).m = σ1.m := by cases o.dst <;> rfl
          refine ⟨μ, L, ow, by rw [hm]; exact hi, ?_⟩
          rw [hm]
          exact he.putO (mm := σ1.mem) h.1 .un
      · exact h.elim
/-! ### Code -/
/-- The weakest condition of a piece of code on abstract states; a loop wants a relation that bears a number. -/
def WC (x : X) (N : Nat) : Code → St → (Exit → St → Prop) → Prop
  | .skip, σ, K => K .normal σ
  | .region _ ops draw, σ, K => ((draw = true → drawOK ops = true) ∧ ∃ σ1, Gh x.refs σ σ1 ∧ WOps x N (!draw) ops ops.toList σ1 (K .normal)) ∨ (draw = false ∧ WOpsG x N ops ops.toList σ (K .normal))
  | .seq a b, σ, K => WC x N a σ fun e σ' => match e with
    | .normal => WC x N b σ' K
    | e => K e σ'
  | .cond q a b, σ, K => (∃ t, σ.ev q = some (.d (.bool t)) ∧ (t = true → WC x N a σ K) ∧ (t = false → WC x N b σ K)) ∨ (σ.ev q = some .anyb ∧ WC x N a σ K ∧ WC x N b σ K)
  | .block id b, σ, K => WC x N b σ fun e σ' => match e with
    | .exit id' => if id' = id then K .normal σ' else K (.exit id') σ'
    | e => K e σ'
  | .loop b, σ, K => ∃ (I : Nat → St → Prop), (∃ n σ0, Gh x.refs σ σ0 ∧ I n σ0) ∧ ∀ n σ, I n σ → WC x N b σ fun e σ' => match e with
    | .normal => ∃ n' σ'', n' < n ∧ Gh x.refs σ' σ'' ∧ I n' σ''
    | e => K e σ'
  | .exit id, σ, K => K (.exit id) σ
  | .ret, σ, K => K .ret σ
  | _, _, _ => False
theorem WC_ok {x : X} {c : Ctx} (hS : x.refs = false → ∀ b, ¬ c.S b) : ∀ (cd : Code) (σ : St) (K : Exit → St → Prop) (Q : Exit → Act → World → Prop) (a : Act) (w : World), WC x c.n cd σ K → Sim c σ a w → (∀ e σ' a' w', K e σ' → Sim c σ' a' w' → Q e a' w') → cd.wp x.P Q a w := by
  intro cd
  induction cd with
  | skip => intro σ K Q a w h hs hK; exact wp_skip (hK _ _ _ _ h hs)
  | region id ops draw =>
    intro σ K Q a w h hs hK
    rcases h with ⟨hd, σ1, hgh, h⟩ | ⟨rfl, h⟩
    case inr => exact wp_region_list (WOpsG_ok hS _ _ _ _ _ h hs fun σ' a' w' h' hs' => hK _ _ _ _ h' hs')
    have hs := hs.gh hS hgh
    cases draw with
    | false => exact wp_region_list (WOps_ok _ _ _ _ _ h hs fun σ' a' w' h' hs' => hK _ _ _ _ h' hs')
    | true =>
      refine wp_draw (K := fun σ' => ∃ σ'', Alike σ'' σ' ∧ K .normal σ'') x.mixed (hd rfl) ?_ ?_ (WOps_mono (fun σ' h' => ⟨σ', Alike.refl _, h'⟩) h) hs
      · rintro σ1 σ2 e ⟨σ3, e2, h3⟩
        exact ⟨σ3, e2.trans e, h3⟩
      · rintro σ1 a' w' ⟨σ3, e2, h3⟩ hs'
        exact hK _ _ _ _ h3 (hs'.alike e2.symm)
  | seq p q ihp ihq =>
    intro σ K Q a w h hs hK
    refine wp_seq (ihp σ _ _ a w h hs fun e σ' a' w' h' hs' => ?_)
    cases e with
    | normal => exact ihq σ' K Q a' w' h' hs' hK
    | _ => exact hK _ _ _ _ h' hs'
  | cond q p r ihp ihr =>
    intro σ K Q a w h hs hK
    rcases h with ⟨t, ht, h1, h2⟩ | ⟨ht, h1, h2⟩
    · have hv : a.eval q = .bool t := by
        obtain ⟨μ, L, ow, hi, he⟩ := hs
        have := ev_rep he ht
        cases this with
        | d hd => generalize a.eval q = v at hd; cases hd; rfl
      cases t with
      | true => exact wp_cond_true hv (ihp σ K Q a w (h1 rfl) hs hK)
      | false => exact wp_cond_false hv (ihr σ K Q a w (h2 rfl) hs hK)
    · have hv : ∃ t, a.eval q = .bool t := by
        obtain ⟨μ, L, ow, hi, he⟩ := hs
        have := ev_rep he ht
        generalize a.eval q = v at this
        cases this with
        | anyb t => exact ⟨t, rfl⟩
      obtain ⟨t, hv⟩ := hv
      cases t with
      | true => exact wp_cond_true hv (ihp σ K Q a w h1 hs hK)
      | false => exact wp_cond_false hv (ihr σ K Q a w h2 hs hK)
  | block id b ih =>
    intro σ K Q a w h hs hK
    refine wp_block (ih σ _ _ a w h hs fun e σ' a' w' h' hs' => ?_)
    cases e with
    | exit id' =>
      simp only [Exit.inBlock] at h' ⊢
      split at h'
      · rename_i e; rw [if_pos e]; exact hK _ _ _ _ h' hs'
      · rename_i e; rw [if_neg e]; exact hK _ _ _ _ h' hs'
    | _ => exact hK _ _ _ _ h' hs'
  | loop b ih =>
    intro σ K Q a w h hs hK
    obtain ⟨I, ⟨n, σ0, hg0, hn⟩, hI⟩ := h
    have hs := hs.gh hS hg0
    refine wp_loop_ghost (fun n a w => ∃ σ, I n σ ∧ Sim c σ a w) n ⟨σ0, hn, hs⟩ ?_
    rintro n a w ⟨σ1, h1, hs1⟩
    refine ih σ1 _ _ a w (hI n σ1 h1) hs1 fun e σ' a' w' h' hs' => ?_
    cases e with
    | normal =>
      obtain ⟨n', σ'', hlt, hle, h''⟩ := h'
      exact ⟨n', hlt, σ'', h'', hs'.gh hS hle⟩
    | _ => exact hK _ _ _ _ h' hs'
  | exit id => intro σ K Q a w h hs hK; exact wp_exit (hK _ _ _ _ h hs)
  | ret => intro σ K Q a w h hs hK; exact wp_ret (hK _ _ _ _ h hs)
  | rangeFunc => intro σ K Q a w h hs hK; exact h.elim
  | scope => intro σ K Q a w h hs hK; exact h.elim
  | label => intro σ K Q a w h hs hK; exact h.elim
  | goto => intro σ K Q a w h hs hK; exact h.elim
  | refuse => intro σ K Q a w h hs hK; exact h.elim

/-! ### Functions -/
def envOf : Nat → List D → List (Nat × T)
  | _, [] => []
  | k, y :: ys => (k, .d y) :: envOf (k + 1) ys
/-- What the result variables hold. -/
def resOf (x : X) (σ : St) : List ResultVar → Option (List D)
  | [] => some []
  | .tmp t :: r => match (look σ.env t).bind T.toD, resOf x σ r with
    | some y, some ys => some (y :: ys)
    | _, _ => none
  | .cell t ty :: r => match x.tab ty, look σ.env t, resOf x σ r with
    | some i, some (.obj id g off), some ys => match σ.m id with
      | some (.box g' cs) => if g' = g then match (ldT (cs.drop off) i).bind T.toD with
        | some y => some (y :: ys)
        | none => none else none
      | _ => none
    | _, _, _ => none
def Done (x : X) (fn : Func) (rs : List D) (e : Exit) (σ : St) : Prop := (e = .normal ∨ e = .ret) ∧ ∃ ys, resOf x σ fn.results.toList = some ys ∧ LeL ys rs
theorem look_envOf : ∀ (l : List D) (k t : Nat) (y : T), look (envOf k l) t = some y → ∃ j d, t = k + j ∧ l[j]? = some d ∧ y = .d d
  | [], k, t, y, h => by simp [envOf, look] at h
  | a :: l, k, t, y, h => by
    rw [envOf, look_cons] at h
    split at h
    · rename_i e
      injection h with h
      exact ⟨0, a, by omega, rfl, h.symm⟩
    · obtain ⟨j, d, h1, h2, h3⟩ := look_envOf l (k + 1) t y h
      exact ⟨j + 1, d, by omega, by simpa using h2, h3⟩
def resM (a : Act) : ResultVar → Sem Value
  | .tmp t => pure (a.tmps.getD t undef)
  | .cell t ty => do loadVar ty (← asAddr (a.tmps.getD t undef))
theorem resOf_ok {x : X} {c : Ctx} {σ : St} {a : Act} {w : World} {μ : Mu} {L : Loc} {ow : Nat → Option Nat} (hi : Inv c σ.m μ L ow w) (he : EnvOK c μ L σ.m σ.env a) : ∀ (l : List ResultVar) (rs : List D), resOf x σ l = some rs →
    ∃ vs, (l.mapM (resM a)).run x.P w = .ok vs w ∧ RepV μ rs vs
  | [], rs, h => by simp [resOf] at h; subst h; exact ⟨[], by simp, .nil⟩
  | .tmp t :: r, rs, h => by
    unfold resOf at h
    split at h
    · rename_i y ys hy hys
      injection h with h
      subst h
      obtain ⟨vs, h1, h2⟩ := resOf_ok hi he r ys hys
      obtain ⟨q, h3, h4⟩ := bind_eq hy
      exact ⟨a.tmps.getD t undef :: vs, by simp [List.mapM_cons, resM, h1], .cons (toD_rep (he.2.2 t q h3) h4) h2⟩
    · cases h
  | .cell t ty :: r, rs, h => by
    unfold resOf at h
    split at h
    · rename_i i id g off ys ht hl hys
      split at h
      · rename_i g' cs hm
        split at h
        case isFalse => cases h
        rename_i hgg
        subst hgg
        split at h
        · rename_i y hy
          injection h with h
          subst h
          obtain ⟨vs, h1, h2⟩ := resOf_ok hi he r ys hys
          obtain ⟨q, h3, h4⟩ := bind_eq hy
          have hr := he.2.2 t _ hl
          obtain ⟨v, hrun, hq⟩ := run_loadO (P := x.P) hi (x.ok _ _ ht) hr hm h3
          refine ⟨v :: vs, ?_, .cons (toD_rep hq h4) h2⟩
          generalize hv : a.tmps.getD t undef = tv at hr hrun
          have hp : ∃ A, tv = .pointer (some A) := by cases hr; exact ⟨_, rfl⟩
          obtain ⟨A, rfl⟩ := hp
          simp only [Instr.loadAt, Instr.sureAddr] at hrun
          have hrun' : (loadVar ty A).run x.P w = .ok v w := by simpa using hrun
          have hm1 : (resM a (.cell t ty)).run x.P w = .ok v w := by
            show ((do loadVar ty (← asAddr (a.tmps.getD t undef)) : Sem Value)).run x.P w = _
            rw [hv]
            simp [asAddr, hrun']
          simp [List.mapM_cons, hm1, h1]
        · cases h
      · cases h
    · cases h
theorem results_ok {x : X} {c : Ctx} {σ : St} {a : Act} {w : World} {μ : Mu} {L : Loc} {ow : Nat → Option Nat} (hi : Inv c σ.m μ L ow w) (he : EnvOK c μ L σ.m σ.env a) (fn : Func) {rs : List D} (h : resOf x σ fn.results.toList = some rs) :
    ∃ v, (results fn a.tmps).run x.P w = .ok v w ∧ RepR μ rs v := by
  obtain ⟨vs, h1, h2⟩ := resOf_ok hi he _ _ h
  have hr : (results fn a.tmps).run x.P w = .ok (if h : vs.length = 1 then vs[0] else .tuple vs.toArray) w := by
    have hres : results fn a.tmps = (do let vs ← fn.results.mapM (resM a); pure (if h : vs.size = 1 then vs[0] else .tuple vs) : Sem Value) := by
      unfold results
      congr 1
      all_goals (try (congr 1; funext r; cases r <;> rfl))
    rw [hres]
    have hm : fn.results.mapM (resM a) = (do let l ← fn.results.toList.mapM (resM a); pure l.toArray : Sem (Array Value)) := by
      rw [Array.mapM_eq_mapM_toList]
      rfl
    have hrun : (fn.results.mapM (resM a)).run x.P w = .ok vs.toArray w := by rw [hm]; simp [h1]
    simp [hrun]
  refine ⟨_, hr, ?_⟩
  split
  · rename_i hl
    cases h2 with
    | nil => simp at hl
    | cons h3 t =>
      cases t with
      | nil => exact .one h3
      | cons => simp at hl
  · rename_i hl
    exact .many (by rw [← h2.length]; exact hl) h2

theorem LeL.length {xs ys : List D} (h : LeL xs ys) : xs.length = ys.length := by
  induction h with
  | nil => rfl
  | cons _ _ ih => simp [ih]
theorem RepR.le {μ : Mu} {xs ys : List D} {v : Value} (h : RepR μ xs v) (hl : LeL xs ys) : RepR μ ys v := by
  cases h with
  | one h =>
    cases hl with
    | cons h1 t => cases t; exact .one (h1 _ _ h)
  | many hn h => exact .many (by rw [← hl.length]; exact hn) (h.le hl)
/-! ### nil forgotten -/
mutual
def D.norm : D → D
  | .nil => .slice []
  | .slice xs => .slice (normL xs)
  | .agg cs => .agg (normL cs)
  | x => x
def normL : List D → List D
  | [] => []
  | x :: xs => x.norm :: normL xs
end
theorem normL_length : ∀ xs : List D, (normL xs).length = xs.length
  | [] => rfl
  | x :: xs => by simp [normL, normL_length xs]
theorem D.norm_sz (x : D) : x.norm.sz = x.sz := by
  cases x <;> simp [D.norm, D.sz, normL_length]
theorem normL_sz {s : Nat} : ∀ {xs : List D}, (∀ y ∈ xs, y.sz = s) → ∀ y ∈ normL xs, y.sz = s
  | [], _, y, hy => by simp [normL] at hy
  | x :: xs, h, y, hy => by
    simp only [normL, List.mem_cons] at hy
    rcases hy with rfl | hy
    · rw [D.norm_sz]; exact h x List.mem_cons_self
    · exact normL_sz (fun z hz => h z (List.mem_cons_of_mem _ hz)) y hy
section
variable {μ : Mu}
mutual
theorem RepD.norm : ∀ {x : D} {v : Value}, RepD μ x v → RepD μ x.norm v
  | _, _, .int k n => .int k n
  | _, _, .bool b => .bool b
  | _, _, .str s => .str s
  | _, _, .nil => .slice0 _ _ (Nat.zero_le _)
  | _, _, .slice0 A cap hc => .slice0 A cap hc
  | _, _, .slice (xs := xs) h hs hl hc => by
    have h' := RepRow.norm h
    have := RepD.slice_mk h' (normL_sz hs) (by rw [normL_length]; exact hl) hc
    rw [normL_length] at this
    exact this
  | _, _, .agg h => .agg (RepL.norm h)
  | _, _, .ptr h => .ptr h
  | _, _, .fn h => .fn h
theorem RepL.norm : ∀ {xs : List D} {l : List Value}, RepL μ xs l → RepL μ (normL xs) l
  | _, _, .nil => .nil
  | _, _, .cons h h1 t => .cons h.norm h1 t.norm
theorem RepRow.norm : ∀ {xs : List D} {b o : Nat}, RepRow μ xs b o → RepRow μ (normL xs) b o
  | _, _, _, .nil b o => .nil b o
  | _, _, _, .cons (x := x) h t => .cons (RepE.norm h) (by rw [D.norm_sz]; exact RepRow.norm t)
theorem RepE.norm : ∀ {x : D} {b o : Nat}, RepE μ x b o → RepE μ x.norm b o
  | _, _, _, .agg h => .agg (RepC.norm h)
  | _, _, _, .one h h1 e => .one h.norm h1 e
theorem RepC.norm : ∀ {xs : List D} {b o : Nat}, RepC μ xs b o → RepC μ (normL xs) b o
  | _, _, _, .nil b o => .nil b o
  | _, _, _, .cons h h1 e t => .cons h.norm h1 e t.norm
end
end
theorem D.le_norm (x : D) : D.le x x.norm := fun _ _ h => h.norm
theorem LeL.norm : ∀ xs : List D, LeL xs (normL xs)
  | [] => .nil
  | x :: xs => .cons (D.le_norm x) (LeL.norm xs)
/-- A function's contract, by its body. -/
theorem Spec.of {x : X} {g : FuncId} {fn : Func} {cd : Code} (hf : x.P.funcs[g]? = some fn) (hname : (fn.name == "runtime.NumGoroutine") = false) (hb : fn.body = some cd) {args rs : List D} (hn : args.length ≤ fn.ntmps)
    (h : WC x fn.ntmps cd ⟨envOf 0 args, []⟩ (Done x fn rs)) : Spec x.P g args rs := by
  intro w0 μ0 vs hmu hv
  have hlen := hv.length
  refine .inl ⟨?_, ?_⟩
  · have h1 : fn.name ≠ "runtime.NumGoroutine" := by simpa using hname
    simp [callFunc, hf, h1, hb, mark]
  refine calls_of_wp hf hb ?_
  have hsim : Sim ⟨w0, μ0, fun _ => False, fn.ntmps, fun _ => none⟩ ⟨envOf 0 args, []⟩ { tmps := vs.toArray ++ Array.replicate (fn.ntmps - vs.toArray.size) undef, defers := [] } w0 := by
    refine ⟨μ0, ⟨fun _ => 0, fun _ => 0, fun _ => undef⟩, fun _ => none, ⟨Fr.refl _ _, hmu, Mu.le_refl _, (fun _ _ h => .inl h), (fun _ _ _ _ h => by cases h), (fun _ _ h => by cases h), (fun _ _ _ h => by cases h), (fun _ _ _ _ h => by cases h), (fun _ _ _ h => by cases h)⟩, ⟨rfl, fun _ _ _ h => by cases h⟩, ?_, ?_⟩
    · simp; omega
    · intro t y hy
      obtain ⟨j, d, h1, h2, rfl⟩ := look_envOf args 0 t y hy
      obtain ⟨v, h3, h4⟩ := hv.get j d h2
      have hj := (List.getElem?_eq_some_iff.1 h3).1
      have : t = j := by omega
      subst this
      refine .d ?_
      have e : (vs.toArray ++ Array.replicate (fn.ntmps - vs.toArray.size) undef).getD t undef = v := by
        rw [Array.getD_eq_getD_getElem?, Array.getElem?_append, if_pos (by simpa using hj)]
        simp [h3]
      rw [e]
      exact h4
  refine WC_ok (fun _ _ h => h) cd _ _ _ _ _ h hsim fun e σ' a' w' hd hs => ?_
  obtain ⟨he, ys, hr, hle⟩ := hd
  obtain ⟨μ, L, ow, hi, henv⟩ := hs
  obtain ⟨v, h1, h2'⟩ := results_ok hi henv fn hr
  have h2 : RepR μ rs v := h2'.le hle
  have hpost : a'.defers = [] ∧ ∃ v, (results fn a'.tmps).run x.P w' = .ok v w' ∧ Left w0 μ0 rs (.returned v) w' :=
    ⟨henv.1.1, v, h1, v, μ, rfl, h2, hi.mu0, hi.mu, hi.muNew, hi.fr⟩
  rcases he with rfl | rfl
  · exact hpost
  · exact hpost
end Go.Pm
namespace Go.Pm
open Go.RowKit

def A.t : A → T
  | .d x => .d x
  | .obj k off => .obj (oid k) 0 off
  | .view k sz off n => .view (oid k) 0 sz off n
def envA : Nat → List A → List (Nat × T)
  | _, [] => []
  | k, y :: ys => (k, y.t) :: envA (k + 1) ys
def memOf : Nat → List (List D) → List (Nat × Own)
  | _, [] => []
  | k, cs :: css => (oid k, .box 0 (cs.map .d)) :: memOf (k + 1) css
theorem look_memOf : ∀ (css : List (List D)) (k id : Nat) (o : Own), look (memOf k css) id = some o → ∃ j cs, id = oid (k + j) ∧ css[j]? = some cs ∧ o = .box 0 (cs.map .d)
  | [], k, id, o, h => by simp [memOf, look] at h
  | cs :: css, k, id, o, h => by
    rw [memOf, look_cons] at h
    split at h
    · rename_i e
      injection h with h
      exact ⟨0, cs, e.symm, rfl, h.symm⟩
    · obtain ⟨j, cs', h1, h2, h3⟩ := look_memOf css (k + 1) id o h
      exact ⟨j + 1, cs', by rw [h1]; congr 1; omega, by simpa using h2, h3⟩
theorem memOf_at : ∀ (css : List (List D)) (k j : Nat) (cs : List D), css[j]? = some cs → look (memOf k css) (oid (k + j)) = some (.box 0 (cs.map .d))
  | [], k, j, cs, h => by simp at h
  | c :: css, k, 0, cs, h => by
    simp at h; subst h
    rw [memOf, look_cons, Nat.add_zero, if_pos rfl]
  | c :: css, k, j + 1, cs, h => by
    rw [memOf, look_cons, if_neg (by simp [oid]), show k + (j + 1) = (k + 1) + j by omega]
    exact memOf_at css (k + 1) j cs (by simpa using h)
theorem look_envA : ∀ (l : List A) (k t : Nat) (y : T), look (envA k l) t = some y → ∃ j d, t = k + j ∧ l[j]? = some d ∧ y = d.t
  | [], k, t, y, h => by simp [envA, look] at h
  | a :: l, k, t, y, h => by
    rw [envA, look_cons] at h
    split at h
    · rename_i e
      injection h with h
      exact ⟨0, a, by omega, rfl, h.symm⟩
    · obtain ⟨j, d, h1, h2, h3⟩ := look_envA l (k + 1) t y h
      exact ⟨j + 1, d, by omega, by simpa using h2, h3⟩
/-- What is answered. -/
def resR (m : Mem) : T → Option R
  | .d x => some (.d x)
  | .own _ xs => some (.d (.slice xs))
  | .view id g sz 0 n => match m id with
    | some (.box g' cs) => if g' = g ∧ id < 900000 then (allD cs).map (R.fresh sz n) else none
    | _ => none
  | _ => none
def resOfR (x : X) (σ : St) : List ResultVar → Option (List R)
  | [] => some []
  | .tmp t :: r => match (look σ.env t).bind (resR σ.m), resOfR x σ r with
    | some y, some ys => some (y :: ys)
    | _, _ => none
  | .cell t ty :: r => match x.tab ty, look σ.env t, resOfR x σ r with
    | some i, some (.obj id g off), some ys => match σ.m id with
      | some (.box g' cs) => if g' = g then match (ldT (cs.drop off) i).bind (resR σ.m) with
        | some y => some (y :: ys)
        | none => none else none
      | _ => none
    | _, _, _ => none
def objsAt (m : Mem) : Nat → Nat → Option (List (List D))
  | _, 0 => some []
  | k, n + 1 => match m (oid k) with
    | some (.box 0 ts) => match allD ts, objsAt m (k + 1) n with
      | some cs, some css => some (cs :: css)
      | _, _ => none
    | _ => none
theorem objsAt_get (m : Mem) : ∀ (n k : Nat) (css : List (List D)), objsAt m k n = some css → css.length = n ∧ ∀ (j : Nat) (cs : List D), css[j]? = some cs → ∃ ts, m (oid (k + j)) = some (.box 0 ts) ∧ allD ts = some cs
  | 0, k, css, h => by simp only [objsAt, Option.some.injEq] at h; subst h; simp
  | n + 1, k, css, h => by
    unfold objsAt at h
    split at h
    · rename_i ts hm
      split at h
      · rename_i cs css' h1 h2
        injection h with h
        subst h
        obtain ⟨g1, g2⟩ := objsAt_get m n (k + 1) css' h2
        refine ⟨by simp [g1], fun j c hj => ?_⟩
        cases j with
        | zero => simp at hj; subst hj; exact ⟨ts, hm, h1⟩
        | succ j =>
          have := g2 j c (by simpa using hj)
          rwa [show k + 1 + j = k + (j + 1) by omega] at this
      · cases h
    · cases h
inductive LeR : List R → List R → Prop
  | nil : LeR [] []
  | d {x y : D} {xs ys : List R} (h : D.le x y) (t : LeR xs ys) : LeR (.d x :: xs) (.d y :: ys)
  | same (x : R) {xs ys : List R} (t : LeR xs ys) : LeR (x :: xs) (x :: ys)
theorem LeR.refl : ∀ xs : List R, LeR xs xs
  | [] => .nil
  | x :: xs => .same x (LeR.refl xs)
theorem RepRs.le {w0 w : World} {μ : Mu} {xs ys : List R} {vs : List Value} (h : RepRs w0 w μ xs vs) (hl : LeR xs ys) : RepRs w0 w μ ys vs := by
  induction hl generalizing vs with
  | nil => exact h
  | d h1 t ih =>
    cases h with
    | cons h2 t2 =>
      cases h2 with
      | d h2 => exact .cons (.d (h1 _ _ h2)) (ih t2)
  | same x t ih =>
    cases h with
    | cons h2 t2 => exact .cons h2 (ih t2)
def DoneR (x : X) (fn : Func) (n : Nat) (rs : List R) (css' : List (List D)) (e : Exit) (σ : St) : Prop :=
  (e = .normal ∨ e = .ret) ∧ (∃ ys, resOfR x σ fn.results.toList = some ys ∧ LeR ys rs) ∧ objsAt σ.m 0 n = some css'

section
variable {x : X} {c : Ctx} {σ : St} {a : Act} {w : World} {μ : Mu} {L : Loc} {ow : Nat → Option Nat}
/-- Blocks that were made. -/
def Made (c : Ctx) (σ : St) (L : Loc) : Prop := ∀ id g cs, id < 900000 → σ.m id = some (.box g cs) → c.w0.heap.size ≤ L.blk id
theorem resR_ok (hi : Inv c σ.m μ L ow w) (hmade : Made c σ L) {t : T} {v : Value} (ht : RepT μ L σ.m t v) {y : R} (hy : resR σ.m t = some y) : RepR1 c.w0 w μ y v := by
  unfold resR at hy
  split at hy
  · injection hy with hy; subst hy; cases ht; exact .d ‹_›
  · injection hy with hy; subst hy; exact .d (own_slice ht)
  · rename_i id g sz n
    split at hy
    · rename_i g' cs hm
      split at hy
      · rename_i hc
        obtain ⟨rfl, hid⟩ := hc
        obtain ⟨ds, h1, h2⟩ := map_eq hy
        subst h2
        cases ht with
        | view h0 hg hle hA =>
          rw [hm] at h0
          injection h0 with h0
          subst h0
          cases hg
          obtain ⟨hAA, q2, q3, q4⟩ := hA rfl
          obtain ⟨ho, vs, e, hh, hs, hroom, hv⟩ := hi.box id g' cs hm
          rename_i cap A
          have hcells : ∀ (i : Nat) (x : D), ds[i]? = some x → ∃ v, vs[i]? = some v ∧ v.oneCell' = true ∧ RepD μ x v := fun i x hx => by
            obtain ⟨r, hr, hg⟩ := allD_rep (vs := vs) (o := 0) h1 fun i z hz => by rw [Nat.zero_add]; exact hv i z hz
            obtain ⟨u, k1, k2, k3⟩ := hr.get i x hx
            exact ⟨u, by have := hg i u k1; rwa [Nat.zero_add] at this, k3, k2⟩
          have hoff : ∀ a v, μ a = some v → a.block ≠ L.blk id := fun a v ha e => by
            obtain ⟨e', sz, n, hm', _⟩ := hi.muOwn a v ha id (by rw [e]; exact ho)
            rw [hm] at hm'; cases hm'
          exact .fresh hAA (hmade id g' cs hid hm) hoff hh (by rw [allD_length h1]; exact hs) (by rw [hroom]; simpa using q2) q3 q4 hcells
      · cases hy
    · cases hy
  · cases hy
theorem resOfR_ok (hi : Inv c σ.m μ L ow w) (he : EnvOK c μ L σ.m σ.env a) (hmade : Made c σ L) : ∀ (l : List ResultVar) (rs : List R), resOfR x σ l = some rs →
    ∃ vs, (l.mapM (resM a)).run x.P w = .ok vs w ∧ RepRs c.w0 w μ rs vs
  | [], rs, h => by simp [resOfR] at h; subst h; exact ⟨[], by simp, .nil⟩
  | .tmp t :: r, rs, h => by
    unfold resOfR at h
    split at h
    · rename_i y ys hy hys
      injection h with h
      subst h
      obtain ⟨vs, h1, h2⟩ := resOfR_ok hi he hmade r ys hys
      obtain ⟨q, h3, h4⟩ := bind_eq hy
      exact ⟨a.tmps.getD t undef :: vs, by simp [List.mapM_cons, resM, h1], .cons (resR_ok hi hmade (he.2.2 t q h3) h4) h2⟩
    · cases h
  | .cell t ty :: r, rs, h => by
    unfold resOfR at h
    split at h
    · rename_i i id g off ys ht hl hys
      split at h
      · rename_i g' cs hm
        split at h
        case isFalse => cases h
        rename_i hgg
        subst hgg
        split at h
        · rename_i y hy
          injection h with h
          subst h
          obtain ⟨vs, h1, h2⟩ := resOfR_ok hi he hmade r ys hys
          obtain ⟨q, h3, h4⟩ := bind_eq hy
          have hr := he.2.2 t _ hl
          obtain ⟨v, hrun, hq⟩ := run_loadO (P := x.P) hi (x.ok _ _ ht) hr hm h3
          refine ⟨v :: vs, ?_, .cons (resR_ok hi hmade hq h4) h2⟩
          generalize hv : a.tmps.getD t undef = tv at hr hrun
          have hp : ∃ A, tv = .pointer (some A) := by cases hr; exact ⟨_, rfl⟩
          obtain ⟨A, rfl⟩ := hp
          simp only [Instr.loadAt, Instr.sureAddr] at hrun
          have hrun' : (loadVar ty A).run x.P w = .ok v w := by simpa using hrun
          have hm1 : (resM a (.cell t ty)).run x.P w = .ok v w := by
            show ((do loadVar ty (← asAddr (a.tmps.getD t undef)) : Sem Value)).run x.P w = _
            rw [hv]
            simp [asAddr, hrun']
          simp [List.mapM_cons, hm1, h1]
        · cases h
      · cases h
    · cases h
theorem resultsR_ok (hi : Inv c σ.m μ L ow w) (he : EnvOK c μ L σ.m σ.env a) (hmade : Made c σ L) (fn : Func) {rs rs' : List R} (h : resOfR x σ fn.results.toList = some rs) (hle : LeR rs rs') :
    ∃ v, (results fn a.tmps).run x.P w = .ok v w ∧ RepRR c.w0 w μ rs' v := by
  obtain ⟨vs, h1, h2⟩ := resOfR_ok hi he hmade _ _ h
  have h2 := h2.le hle
  have hr : (results fn a.tmps).run x.P w = .ok (if h : vs.length = 1 then vs[0] else .tuple vs.toArray) w := by
    have hres : results fn a.tmps = (do let vs ← fn.results.mapM (resM a); pure (if h : vs.size = 1 then vs[0] else .tuple vs) : Sem Value) := by
      unfold results
      congr 1
      all_goals (try (congr 1; funext r; cases r <;> rfl))
    rw [hres]
    have hm : fn.results.mapM (resM a) = (do let l ← fn.results.toList.mapM (resM a); pure l.toArray : Sem (Array Value)) := by
      rw [Array.mapM_eq_mapM_toList]
      rfl
    have hrun : (fn.results.mapM (resM a)).run x.P w = .ok vs.toArray w := by rw [hm]; simp [h1]
    simp [hrun]
  refine ⟨_, hr, ?_⟩
  split
  · rename_i hl
    cases h2 with
    | nil => simp at hl
    | cons h3 t =>
      cases t with
      | nil => exact .one h3
      | cons => simp at hl
  · rename_i hl
    exact .many (by rw [← h2.length]; exact hl) h2
end
/-- A function's contract, by its body. -/
theorem SpecR.of {x : X} {g : FuncId} {fn : Func} {cd : Code} (hf : x.P.funcs[g]? = some fn) (hname : (fn.name == "runtime.NumGoroutine") = false) (hb : fn.body = some cd) {as : List A} {rs : List R} {css css' : List (List D)} (hn : as.length ≤ fn.ntmps) (hrf : x.refs = true ∨ css = [])
    (h : WC x fn.ntmps cd ⟨envA 0 as, memOf 0 css⟩ (DoneR x fn css.length rs css')) : SpecR x.P g as css rs css' := by
  intro w0 μ0 bs rm vs hmu hlt hob hv
  have hlen := hv.length
  refine ⟨?_, ?_⟩
  · have h1 : fn.name ≠ "runtime.NumGoroutine" := by simpa using hname
    simp [callFunc, hf, h1, hb, mark]
  refine calls_of_wp hf hb ?_
  have hbl : ∀ (j : Nat) (cs : List D), css[j]? = some cs → ∃ b r, bs[j]? = some b ∧ rm[j]? = some r := fun j cs hj => by
    have hj' := (List.getElem?_eq_some_iff.1 hj).1
    exact ⟨bs[j]'(by rw [hob.len]; exact hj'), rm[j]'(by rw [hob.rlen]; exact hj'), List.getElem?_eq_getElem _, List.getElem?_eq_getElem _⟩
  have hidx : ∀ (l : List Nat) (j b : Nat), l.Nodup → l[j]? = some b → idx l b = some j := by
    intro l
    induction l with
    | nil => intro j b _ h; simp at h
    | cons i r ih =>
      intro j b hnd h
      rw [List.nodup_cons] at hnd
      cases j with
      | zero => simp at h; subst h; simp [idx]
      | succ j =>
        simp at h
        have : i ≠ b := fun e => by subst e; exact hnd.1 (List.mem_of_getElem? h)
        simp [idx, this, ih j b hnd.2 h]
  let L0 : Loc := ⟨fun id => bs.getD (id - 900000) 0, fun id => rm.getD (id - 900000) 0, fun _ => undef⟩
  let c : Ctx := ⟨w0, μ0, (· ∈ bs), fn.ntmps, fun id => if 900000 ≤ id then (bs[id - 900000]?).bind fun b => (rm[id - 900000]?).map fun r => (b, r) else none⟩
  have hL : ∀ (j b : Nat), bs[j]? = some b → L0.blk (oid j) = b := fun j b hj => by
    show bs.getD (900000 + j - 900000) 0 = b
    rw [Nat.add_sub_cancel_left, List.getD_eq_getElem?_getD, hj]; rfl
  have hR : ∀ (j r : Nat), rm[j]? = some r → L0.room (oid j) = r := fun j b hj => by
    show rm.getD (900000 + j - 900000) 0 = b
    rw [Nat.add_sub_cancel_left, List.getD_eq_getElem?_getD, hj]; rfl
  have hmem : ∀ (j : Nat) (cs : List D), css[j]? = some cs → look (memOf 0 css) (oid j) = some (.box 0 (cs.map .d)) := fun j cs hj => by
    have := memOf_at css 0 j cs hj
    rwa [Nat.zero_add] at this
  have hinv : Inv c (look (memOf 0 css)) μ0 L0 (fun b => (idx bs b).map oid) w0 := by
    refine ⟨Fr.refl _ _, hmu, Mu.le_refl _, fun _ _ h => .inl h, fun a v ha id ho => ?_, fun b id ho => ?_, fun id g' cs hm => ?_, fun id e sz n hm => ?_, fun id g' cs hm => ?_⟩
    · obtain ⟨k, h1, _⟩ := Option.map_eq_some_iff.1 ho
      exact absurd (List.mem_of_getElem? (idx_get h1)) (hob.off a v ha)
    · obtain ⟨k, h1, _⟩ := Option.map_eq_some_iff.1 ho
      have := List.mem_of_getElem? (idx_get h1)
      exact ⟨hlt b this, .inr this⟩
    · obtain ⟨j, cs0, rfl, h2, h3⟩ := look_memOf css 0 id _ hm
      injection h3 with h3 h4
      subst h3 h4
      rw [Nat.zero_add]
      obtain ⟨b, r, hb1, hr1⟩ := hbl j cs0 h2
      obtain ⟨vs', e, k1, k2, k3, k4⟩ := hob.cells j b r cs0 hb1 hr1 h2
      rw [hL j b hb1, hR j r hr1]
      refine ⟨by rw [hidx bs j b hob.nodup hb1]; rfl, vs', e, k1, by simpa using k2, k3, fun i y hy => ?_⟩
      rw [List.getElem?_map] at hy
      cases hq : cs0[i]? with
      | none => rw [hq] at hy; cases hy
      | some z =>
        rw [hq] at hy
        simp at hy
        subst hy
        obtain ⟨v, q1, q2, q3⟩ := k4 i z hq
        exact ⟨v, q1, q2, .d q3⟩
    · obtain ⟨j, cs0, _, _, h3⟩ := look_memOf css 0 id _ hm
      cases h3
    · obtain ⟨j, cs0, _, _, h3⟩ := look_memOf css 0 id _ hm
      cases h3
  have hobk : ObOK c (look (memOf 0 css)) L0 := by
    intro id b r hb'
    simp only [c] at hb'
    split at hb'
    · rename_i hid
      obtain ⟨b', h1, h2⟩ := bind_eq hb'
      obtain ⟨r', h3, h4⟩ := map_eq h2
      cases h4
      refine ⟨hid, ?_⟩
      have hj : id - 900000 < css.length := by rw [← hob.len]; exact (List.getElem?_eq_some_iff.1 h1).1
      have he : id = oid (id - 900000) := by unfold oid; omega
      refine ⟨_, by rw [he]; exact hmem _ _ (List.getElem?_eq_getElem hj), fun _ => ?_⟩
      rw [he]
      exact ⟨hL _ _ h1, hR _ _ h3⟩
    · cases hb'
  have hsim : Sim c ⟨envA 0 as, memOf 0 css⟩ { tmps := vs.toArray ++ Array.replicate (fn.ntmps - vs.toArray.size) undef, defers := [] } w0 := by
    refine ⟨μ0, L0, _, hinv, ⟨rfl, hobk⟩, ?_, ?_⟩
    · simp [c]; omega
    · intro t y hy
      obtain ⟨j, d, h1, h2, rfl⟩ := look_envA as 0 t y hy
      obtain ⟨v, h3, h4⟩ := hv.get j d h2
      have hj := (List.getElem?_eq_some_iff.1 h3).1
      have : t = j := by omega
      subst this
      have e : (vs.toArray ++ Array.replicate (fn.ntmps - vs.toArray.size) undef).getD t undef = v := by
        rw [Array.getD_eq_getD_getElem?, Array.getElem?_append, if_pos (by simpa using hj)]
        simp [h3]
      rw [e]
      cases h4 with
      | d h => exact .d h
      | @obj k off b hb1 =>
        have hk : k < css.length := by rw [← hob.len]; exact (List.getElem?_eq_some_iff.1 hb1).1
        exact .obj (hmem k _ (List.getElem?_eq_getElem hk)) rfl (Nat.le_refl _) fun _ => by rw [hL k b hb1]
      | @view k sz off n b r cap A hb1 hr1 hA p1 p2 p3 =>
        have hk : k < css.length := by rw [← hob.len]; exact (List.getElem?_eq_some_iff.1 hb1).1
        exact .view (hmem k _ (List.getElem?_eq_getElem hk)) rfl (Nat.le_refl _) fun _ => ⟨fun q => by rw [hL k b hb1]; exact hA q, by rw [hR k r hr1]; exact p1, p2, p3⟩
  refine WC_ok (fun hr b hb' => ?_) cd _ _ _ _ _ h hsim fun e σ' a' w' hd hs => ?_
  · rcases hrf with h1 | h1
    · rw [hr] at h1; cases h1
    · have : bs = [] := List.eq_nil_of_length_eq_zero (by rw [hob.len, h1]; rfl)
      simp only [c, this] at hb'
      cases hb'
  obtain ⟨he, ⟨ys, hr, hle⟩, hobj⟩ := hd
  obtain ⟨μ, L, ow, hi, henv⟩ := hs
  obtain ⟨hol, hoat⟩ := objsAt_get _ _ _ _ hobj
  have hfin : ∀ (j b r : Nat), bs[j]? = some b → rm[j]? = some r → ∃ ts cs, css'[j]? = some cs ∧ σ'.m (oid j) = some (.box 0 ts) ∧ allD ts = some cs ∧ L.blk (oid j) = b ∧ L.room (oid j) = r ∧ ow b = some (oid j) := by
    intro j b r hj hjr
    have hlt' : j < css'.length := by rw [hol, ← hob.len]; exact (List.getElem?_eq_some_iff.1 hj).1
    obtain ⟨ts, h1, h2⟩ := hoat j _ (List.getElem?_eq_getElem hlt')
    rw [Nat.zero_add] at h1
    obtain ⟨_, o, h3, h4⟩ := henv.1.2 (oid j) b r (by simp [c, oid, hj, hjr])
    rw [h1] at h3
    injection h3 with h3
    subst h3
    obtain ⟨h5, h6⟩ := h4 rfl
    have := (hi.box _ _ _ h1).1
    rw [h5] at this
    exact ⟨ts, _, List.getElem?_eq_getElem hlt', h1, h2, h5, h6, this⟩
  have hrm : ∀ (j b : Nat), bs[j]? = some b → ∃ r, rm[j]? = some r := fun j b hj => by
    have : j < rm.length := by rw [hob.rlen, ← hob.len]; exact (List.getElem?_eq_some_iff.1 hj).1
    exact ⟨_, List.getElem?_eq_getElem this⟩
  have hown : ∀ b ∈ bs, ∃ j, ow b = some (oid j) ∧ ∃ ts, σ'.m (oid j) = some (.box 0 ts) := fun b hb' => by
    obtain ⟨j, hj⟩ := List.mem_iff_getElem?.1 hb'
    obtain ⟨r, hjr⟩ := hrm j b hj
    obtain ⟨ts, cs, _, h2, _, _, _, h3⟩ := hfin j b r hj hjr
    exact ⟨j, h3, ts, h2⟩
  have hmade : Made c σ' L := by
    intro id g' cs hid hm
    have ho := (hi.box id g' cs hm).1
    rcases (hi.own _ _ ho).2 with h1 | h1
    · exact h1
    · obtain ⟨j, h2, _⟩ := hown _ h1
      rw [ho] at h2
      injection h2 with h2
      simp only [oid] at h2
      omega
  obtain ⟨v, h1, h2⟩ := resultsR_ok (x := x) hi henv hmade fn hr hle
  have hobs : Objs w' μ bs rm css' := by
    refine ⟨by rw [hol, hob.len], by rw [hol, hob.rlen], hob.nodup, fun a v ha hq => ?_, fun k b r cs hk hkr hkc => ?_⟩
    · obtain ⟨j, h3, ts, h4⟩ := hown _ hq
      obtain ⟨e', sz, n, hm', _⟩ := hi.muOwn a v ha _ h3
      rw [h4] at hm'; cases hm'
    · obtain ⟨ts, cs2, k1, k2, k3, k4, k5, k6⟩ := hfin k b r hk hkr
      rw [hkc] at k1
      injection k1 with k1
      subst k1
      obtain ⟨_, vs', e', q1, q2, q3, q4⟩ := hi.box _ _ _ k2
      rw [k4] at q1
      rw [k5] at q3
      refine ⟨vs', e', q1, by rw [allD_length k3]; exact q2, q3, fun i y hy => ?_⟩
      obtain ⟨r', hr', hg⟩ := allD_rep (vs := vs') (o := 0) k3 fun i z hz => by rw [Nat.zero_add]; exact q4 i z hz
      obtain ⟨u, p1, p2, p3⟩ := hr'.get i y hy
      exact ⟨u, by have := hg i u p1; rwa [Nat.zero_add] at this, p3, p2⟩
  have hpost : a'.defers = [] ∧ ∃ v, (results fn a'.tmps).run x.P w' = .ok v w' ∧ LeftR w0 μ0 bs rm rs css' (.returned v) w' :=
    ⟨henv.1.1, v, h1, v, μ, rfl, h2, hi.mu0, hi.mu, hi.muNew, hi.fr, hobs⟩
  rcases he with rfl | rfl
  · exact hpost
  · exact hpost
end Go.Pm
namespace Go.Pm
open Go.RowKit
section
variable {x : X} {N : Nat}
theorem WOp_mono' {ref : Bool} {o : Oper} {σ : St} {K K' : St → Prop} (hk : ∀ σ, K σ → K' σ) (h : WOp x N ref o σ K) : WOp x N ref o σ K' := by
  unfold WOp at h ⊢
  split
  · rename_i f args hc
    rw [hc] at h
    simp only [] at h
    rcases h with ⟨g, caps, ys, zs, rs, h1, h2, h3, h4, h5, h6⟩ | ⟨h0, g, caps, as, zs, ids, css, rs, css', h1, h2, h3, h4, h5, h6, h7, h8, h9⟩
    · exact .inl ⟨g, caps, ys, zs, rs, h1, h2, h3, h4, h5, hk _ h6⟩
    · exact .inr ⟨h0, g, caps, as, zs, ids, css, rs, css', h1, h2, h3, h4, h5, h6, h7, h8, hk _ h9⟩
  · rename_i hc
    rw [hc] at h
    simp only [] at h
    split
    · rename_i y u he
      rw [he] at h
      exact ⟨h.1, hk _ h.2⟩
    · rename_i u he
      rw [he] at h
      exact ⟨h.1, hk _ h.2⟩
    · rename_i he
      rw [he] at h
      obtain ⟨h0, h⟩ := h
      refine ⟨h0, ?_⟩
      split
      · rename_i y u hx
        rw [hx] at h
        exact ⟨h.1, hk _ h.2⟩
      · rename_i hx
        rw [hx] at h
        exact h
theorem WOps_mono' {ref : Bool} {ops : Array Oper} {K K' : St → Prop} (hk : ∀ σ, K σ → K' σ) : ∀ {l : List Oper} {σ : St}, WOps x N ref ops l σ K → WOps x N ref ops l σ K'
  | [], σ, h => hk _ h
  | o :: r, σ, h => by
    unfold WOps at h ⊢
    split
    · rename_i hg
      rw [hg] at h
      exact WOp_mono' (fun σ' h' => WOps_mono' hk h') h
    · rename_i j want hg
      rw [hg] at h
      simp only [] at h
      split
      · rename_i b hb
        rw [hb] at h
        simp only [] at h
        split
        · rename_i e; rw [if_pos e] at h; exact WOp_mono' (fun σ' h' => WOps_mono' hk h') h
        · rename_i e; rw [if_neg e] at h; exact ⟨h.1, WOps_mono' hk h.2⟩
      · rename_i hne
        rw [hne] at h
        exact h
theorem WOpsG_mono {ops : Array Oper} {K K' : St → Prop} (hk : ∀ σ, K σ → K' σ) : ∀ {l : List Oper} {σ : St}, WOpsG x N ops l σ K → WOpsG x N ops l σ K'
  | [], σ, h => hk _ h
  | o :: r, σ, ⟨σ1, hg, h⟩ => ⟨σ1, hg, WOps_mono' (fun σ' h' => WOpsG_mono hk h') h⟩
/-- Operations up to a place where ways meet. -/
theorem WOpsG_app {ops : Array Oper} {K : St → Prop} : ∀ {l1 l2 : List Oper} {σ : St}, WOps x N true ops l1 σ (fun σ' => ∃ σ1, Gh x.refs σ' σ1 ∧ WOpsG x N ops l2 σ1 K) → l2 ≠ [] → WOpsG x N ops (l1 ++ l2) σ K
  | [], [], σ, _, h => absurd rfl h
  | [], o :: r, σ, h, _ => by
    obtain ⟨σ1, hg, σ2, hg2, h⟩ := h
    exact ⟨σ2, .trans hg hg2, h⟩
  | o :: l1, l2, σ, h, h2 => by
    refine ⟨σ, .refl _, ?_⟩
    unfold WOps at h ⊢
    have key : ∀ σ', WOps x N true ops l1 σ' (fun σ' => ∃ σ1, Gh x.refs σ' σ1 ∧ WOpsG x N ops l2 σ1 K) → WOps x N true ops [] σ' (fun σ' => WOpsG x N ops (l1 ++ l2) σ' K) := fun σ' h' => WOpsG_app h' h2
    split
    · rename_i hg
      rw [hg] at h
      exact WOp_mono' key h
    · rename_i j want hg
      rw [hg] at h
      simp only [] at h
      split
      · rename_i b hb
        rw [hb] at h
        simp only [] at h
        split
        · rename_i e; rw [if_pos e] at h; exact WOp_mono' key h
        · rename_i e; rw [if_neg e] at h; exact ⟨h.1, key _ h.2⟩
      · rename_i hne
        rw [hne] at h
        exact h
theorem WOpsG_of {ops : Array Oper} {K : St → Prop} {l : List Oper} {σ : St} (h : WOps x N true ops l σ K) : WOpsG x N ops l σ K := by
  induction l generalizing σ with
  | nil => exact h
  | cons o r ih =>
    refine ⟨σ, .refl _, ?_⟩
    unfold WOps at h ⊢
    have key : ∀ σ', WOps x N true ops r σ' K → WOps x N true ops [] σ' (fun σ' => WOpsG x N ops r σ' K) := fun σ' h' => ih h'
    split
    · rename_i hg
      rw [hg] at h
      exact WOp_mono' key h
    · rename_i j want hg
      rw [hg] at h
      simp only [] at h
      split
      · rename_i b hb
        rw [hb] at h
        simp only [] at h
        split
        · rename_i e; rw [if_pos e] at h; exact WOp_mono' key h
        · rename_i e; rw [if_neg e] at h; exact ⟨h.1, key _ h.2⟩
      · rename_i hne
        rw [hne] at h
        exact h
theorem WC_mono : ∀ {cd : Code} {σ : St} {K K' : Exit → St → Prop}, (∀ e σ, K e σ → K' e σ) → WC x N cd σ K → WC x N cd σ K' := by
  intro cd
  induction cd with
  | skip => intro σ K K' hk h; exact hk _ _ h
  | region id ops draw =>
    intro σ K K' hk h
    rcases h with ⟨hd, σ1, hg, h⟩ | ⟨rfl, h⟩
    · exact .inl ⟨hd, σ1, hg, WOps_mono' (fun σ => hk _ σ) h⟩
    · exact .inr ⟨rfl, WOpsG_mono (fun σ => hk _ σ) h⟩
  | seq a b iha ihb =>
    intro σ K K' hk h
    refine iha (fun e σ' h' => ?_) h
    cases e with
    | normal => exact ihb hk h'
    | _ => exact hk _ _ h'
  | cond q a b iha ihb =>
    intro σ K K' hk h
    rcases h with ⟨t, h1, h2, h3⟩ | ⟨h1, h2, h3⟩
    · exact .inl ⟨t, h1, fun q => iha hk (h2 q), fun q => ihb hk (h3 q)⟩
    · exact .inr ⟨h1, iha hk h2, ihb hk h3⟩
  | block id b ih =>
    intro σ K K' hk h
    refine ih (fun e σ' h' => ?_) h
    cases e with
    | exit id' =>
      simp only [] at h' ⊢
      split
      · rename_i q; rw [if_pos q] at h'; exact hk _ _ h'
      · rename_i q; rw [if_neg q] at h'; exact hk _ _ h'
    | _ => exact hk _ _ h'
  | loop b ih =>
    intro σ K K' hk h
    obtain ⟨I, h0, h1⟩ := h
    refine ⟨I, h0, fun n σ hI => ih (fun e σ' h' => ?_) (h1 n σ hI)⟩
    cases e with
    | normal => exact h'
    | _ => exact hk _ _ h'
  | exit id => intro σ K K' hk h; exact hk _ _ h
  | ret => intro σ K K' hk h; exact hk _ _ h
  | rangeFunc => intro σ K K' hk h; exact h.elim
  | scope => intro σ K K' hk h; exact h.elim
  | label => intro σ K K' hk h; exact h.elim
  | goto => intro σ K K' hk h; exact h.elim
  | refuse => intro σ K K' hk h; exact h.elim
variable {σ σ1 σ2 : St} {K : Exit → St → Prop}
theorem wc_assoc {a b c : Code} (h : WC x N (.seq a (.seq b c)) σ K) : WC x N (.seq (.seq a b) c) σ K := by
  show WC x N a σ _
  refine WC_mono (fun e σ' h' => ?_) h
  cases e with
  | normal => exact h'
  | _ => exact h'
/-- A region without a draw, to its end; first what the machine does not see. -/
theorem wc_ghost {id : Nat} {ops : Array Oper} {b : Code} (hg : Gh x.refs σ σ1) (h : WOps x N true ops ops.toList σ1 (· = σ2)) (hk : WC x N b σ2 K) : WC x N (.seq (.region id ops false) b) σ K := by
  refine Or.inl (And.intro (fun q => by cases q) (Exists.intro σ1 (And.intro hg ?_)))
  exact WOps_mono' (fun σ' e => by subst e; exact hk) h
theorem wc_then {id : Nat} {ops : Array Oper} {b : Code} (h : WOps x N true ops ops.toList σ (· = σ2)) (hk : WC x N b σ2 K) : WC x N (.seq (.region id ops false) b) σ K := wc_ghost (.refl _) h hk
theorem wc_last {id : Nat} {ops : Array Oper} (h : WOps x N true ops ops.toList σ (· = σ2)) (hk : K .normal σ2) : WC x N (.region id ops false) σ K := by
  refine Or.inl (And.intro (fun q => by cases q) (Exists.intro σ (And.intro (Gh.refl _) ?_)))
  exact WOps_mono' (fun σ' e => by subst e; exact hk) h
theorem wc_thenD {id : Nat} {ops : Array Oper} {b : Code} (hd : drawOK ops = true) (h : WOps x N false ops ops.toList σ (· = σ2)) (hk : WC x N b σ2 K) : WC x N (.seq (.region id ops true) b) σ K := by
  refine Or.inl (And.intro (fun _ => hd) (Exists.intro σ (And.intro (Gh.refl _) ?_)))
  exact WOps_mono' (fun σ' e => by subst e; exact hk) h
theorem wc_lastD {id : Nat} {ops : Array Oper} (hd : drawOK ops = true) (h : WOps x N false ops ops.toList σ (· = σ2)) (hk : K .normal σ2) : WC x N (.region id ops true) σ K := by
  refine Or.inl (And.intro (fun _ => hd) (Exists.intro σ (And.intro (Gh.refl _) ?_)))
  exact WOps_mono' (fun σ' e => by subst e; exact hk) h
theorem wc_cond {q : Operand} {a b : Code} {t : Bool} (hq : σ.ev q = some (.d (.bool t))) (h1 : t = true → WC x N a σ K) (h2 : t = false → WC x N b σ K) : WC x N (.cond q a b) σ K := .inl ⟨t, hq, h1, h2⟩
/-- A condition with what follows it. -/
theorem wc_condThen {q : Operand} {a b c : Code} {t : Bool} (hq : σ.ev q = some (.d (.bool t))) (h1 : t = true → WC x N (.seq a c) σ K) (h2 : t = false → WC x N (.seq b c) σ K) : WC x N (.seq (.cond q a b) c) σ K :=
  .inl ⟨t, hq, h1, h2⟩
theorem wc_condAny {q : Operand} {a b c : Code} (hq : σ.ev q = some .anyb) (h1 : WC x N (.seq a c) σ K) (h2 : WC x N (.seq b c) σ K) : WC x N (.seq (.cond q a b) c) σ K :=
  .inr ⟨hq, h1, h2⟩
theorem wc_skip {b : Code} (h : WC x N b σ K) : WC x N (.seq .skip b) σ K := h
theorem wc_skipEnd (h : K .normal σ) : WC x N .skip σ K := h
theorem wc_ret (h : K .ret σ) : WC x N .ret σ K := h
theorem wc_retThen {b : Code} (h : K .ret σ) : WC x N (.seq .ret b) σ K := h
theorem wc_exitThen {id : Nat} {b : Code} (h : K (.exit id) σ) : WC x N (.seq (.exit id) b) σ K := h
/-- Operations one by one. -/
theorem wo_nil {ref : Bool} {ops : Array Oper} {K : St → Prop} (h : K σ) : WOps x N ref ops [] σ K := h
/-- Behind a block comes c. -/
def BlkK (x : X) (N id : Nat) (c : Code) (K : Exit → St → Prop) : Exit → St → Prop := fun e σ' => match e with
  | .normal => WC x N c σ' K
  | .exit id' => if id' = id then WC x N c σ' K else K (.exit id') σ'
  | e => K e σ'
theorem wc_blockThen {id : Nat} {b c : Code} (h : WC x N b σ (BlkK x N id c K)) : WC x N (.seq (.block id b) c) σ K := by
  show WC x N b σ _
  refine WC_mono (fun e σ' h' => ?_) h
  cases e with
  | exit id' =>
    unfold BlkK at h'
    simp only [] at h' ⊢
    split
    · rename_i q; rw [if_pos q] at h'; exact h'
    · rename_i q; rw [if_neg q] at h'; exact h'
  | normal => exact h'
  | _ => exact h'
/-- A loop in a block of its own, and what comes behind it. -/
def LoopK (x : X) (N id : Nat) (c : Code) (I : Nat → St → Prop) (n : Nat) (K : Exit → St → Prop) : Exit → St → Prop := fun e σ' => match e with
  | .normal => ∃ n' σ'', n' < n ∧ Gh x.refs σ' σ'' ∧ I n' σ''
  | .exit id' => if id' = id then WC x N c σ' K else K (.exit id') σ'
  | e => K e σ'
theorem wc_loopThen {id : Nat} {b c : Code} (I : Nat → St → Prop) {σ0 : St} (n : Nat) (hg : Gh x.refs σ σ0) (hI : I n σ0) (hb : ∀ n σ, I n σ → WC x N b σ (LoopK x N id c I n K)) : WC x N (.seq (.block id (.loop b)) c) σ K := by
  refine wc_blockThen ?_
  refine ⟨I, ⟨n, σ0, hg, hI⟩, fun n σ hI => WC_mono (fun e σ' h' => ?_) (hb n σ hI)⟩
  cases e with
  | normal => exact h'
  | exit id' => exact h'
  | _ => exact h'
theorem blk_normal {id : Nat} {c : Code} (h : WC x N c σ K) : BlkK x N id c K .normal σ := h
theorem loop_exit {id : Nat} {c : Code} {I : Nat → St → Prop} {n : Nat} (h : WC x N c σ K) : LoopK x N id c I n K (.exit id) σ := by unfold LoopK; simpa using h
theorem loop_next {id : Nat} {c : Code} {I : Nat → St → Prop} {n : Nat} (n' : Nat) (hn : n' < n) (hg : Gh x.refs σ σ1) (hI : I n' σ1) : LoopK x N id c I n K .normal σ := ⟨n', σ1, hn, hg, hI⟩
theorem gh_keep (ts ids : List Nat) (h : σ.mem.all (fun p => decide (p.1 < 900000) || ids.contains p.1) = true) (he : σ.keep ts ids = σ1) {r : Bool} : Gh r σ σ1 := he ▸ .le (σ.keep_le ts ids h)
theorem wo_op {ref : Bool} {ops : Array Oper} {o : Oper} {r : List Oper} {K : St → Prop} {y : T} {u : Upd} {σ' : St} (hg : o.guard = none) (hc : callOf o.op = none) (he : evOp x.tab σ.ev σ.m (o.dst.getD 0) o.op = some (some y, u)) (hd : o.dst.all (· < N) = true)
    (hσ : (σ.upd u).putO o.dst y = σ') (h : WOps x N ref ops r σ' K) : WOps x N ref ops (o :: r) σ K := by
  subst hσ
  unfold WOps
  rw [hg]
  simp only []
  unfold WOp
  rw [hc]
  simp only []
  rw [he]
  exact ⟨hd, h⟩
theorem wo_eff {ref : Bool} {ops : Array Oper} {o : Oper} {r : List Oper} {K : St → Prop} {u : Upd} {σ' : St} (hg : o.guard = none) (hc : callOf o.op = none) (he : evOp x.tab σ.ev σ.m (o.dst.getD 0) o.op = some (none, u)) (hd : o.dst = none)
    (hσ : σ.upd u = σ') (h : WOps x N ref ops r σ' K) : WOps x N ref ops (o :: r) σ K := by
  subst hσ
  unfold WOps
  rw [hg]
  simp only []
  unfold WOp
  rw [hc]
  simp only []
  rw [he]
  exact ⟨hd, h⟩
theorem wo_x {ops : Array Oper} {o : Oper} {r : List Oper} {K : St → Prop} {y : T} {u : Upd} {σ' : St} (hg : o.guard = none) (hc : callOf o.op = none) (he : evOp x.tab σ.ev σ.m (o.dst.getD 0) o.op = none) (hx : evX x.tab σ.ev σ.m (o.dst.getD 0) o.op = some (y, u)) (hd : o.dst.all (· < N) = true)
    (hσ : (σ.upd u).putO o.dst y = σ') (h : WOps x N true ops r σ' K) : WOps x N true ops (o :: r) σ K := by
  subst hσ
  unfold WOps
  rw [hg]
  simp only []
  unfold WOp
  rw [hc]
  simp only []
  rw [he]
  simp only []
  rw [hx]
  exact ⟨trivial, hd, h⟩
theorem wo_call {ref : Bool} {ops : Array Oper} {o : Oper} {r : List Oper} {K : St → Prop} {f : Operand} {args : List Operand} {g : FuncId} {caps ys zs rs : List D} {σ' : St} (hg : o.guard = none) (hc : callOf o.op = some (f, args)) (hf : σ.ev f = some (.d (.fn g caps)))
    (ha : allT σ.ev args = some ys) (hle : LeL (ys ++ caps) zs) (hs : Spec x.P g zs rs) (hd : o.dst.all (· < N) = true) (hσ : σ.putO o.dst (resT rs) = σ') (h : WOps x N ref ops r σ' K) : WOps x N ref ops (o :: r) σ K := by
  subst hσ
  unfold WOps
  rw [hg]
  simp only []
  unfold WOp
  rw [hc]
  exact .inl ⟨g, caps, ys, zs, rs, hf, ha, hle, hs, hd, h⟩
theorem wo_ref {ops : Array Oper} {o : Oper} {r : List Oper} {K : St → Prop} {f : Operand} {args : List Operand} {g : FuncId} {caps : List D} {as zs : List A} {ids : List Nat} {css css' : List (List D)} {rs : List R} {σ' : St} (hg : o.guard = none) (hc : callOf o.op = some (f, args)) (hf : σ.ev f = some (.d (.fn g caps)))
    (ha : argsA σ.m ids σ.ev args = some as) (hle : LeA (as ++ caps.map .d) zs) (hb : boxesOf σ.m ids = some css) (hn : ids.Nodup) (hs : SpecR x.P g zs css rs css') (hd : o.dst.all (· < N) = true) (hfr : freshOf rs = [] ∨ (freshOf rs).length = 1 ∧ o.dst.isSome = true ∧ σ.m (o.dst.getD 0) = none)
    (hσ : σ.after ids css' rs o.dst = σ') (h : WOps x N true ops r σ' K) : WOps x N true ops (o :: r) σ K := by
  subst hσ
  unfold WOps
  rw [hg]
  simp only []
  unfold WOp
  rw [hc]
  exact .inr ⟨rfl, g, caps, as, zs, ids, css, rs, css', hf, ha, hle, hb, hn, hs, hd, hfr, h⟩
/-- A guarded operation. -/
theorem wo_guard {ref : Bool} {ops : Array Oper} {o : Oper} {r : List Oper} {K : St → Prop} {j : Nat} {want : Bool} {b : Option Bool} (hg : o.guard = some (j, want)) (hb : gval ops σ.env j = some b)
    (h1 : b = some want → WOps x N ref ops ({ o with guard := none } :: r) σ K) (h2 : b ≠ some want → o.dst.all (· < N) = true ∧ WOps x N ref ops r (σ.putO o.dst .un) K) : WOps x N ref ops (o :: r) σ K := by
  unfold WOps
  rw [hg]
  simp only []
  rw [hb]
  simp only []
  split
  · rename_i e
    have := h1 e
    unfold WOps at this
    simp only [] at this
    exact this
  · rename_i e
    exact h2 e
theorem wo_gT {ref : Bool} {ops : Array Oper} {o : Oper} {r : List Oper} {K : St → Prop} {j : Nat} {want : Bool} (hg : o.guard = some (j, want)) (hb : gval ops σ.env j = some (some want))
    (h : WOps x N ref ops ({ o with guard := none } :: r) σ K) : WOps x N ref ops (o :: r) σ K := wo_guard hg hb (fun _ => h) fun h' => absurd rfl h'
theorem wo_gF {ref : Bool} {ops : Array Oper} {o : Oper} {r : List Oper} {K : St → Prop} {j : Nat} {want : Bool} {σ' : St} (hg : o.guard = some (j, want)) (hb : gval ops σ.env j = some (some (!want))) (hd : o.dst.all (· < N) = true)
    (hσ : σ.putO o.dst .un = σ') (h : WOps x N ref ops r σ' K) : WOps x N ref ops (o :: r) σ K := by
  subst hσ
  exact wo_guard hg hb (fun h' => by cases want <;> cases h') fun _ => ⟨hd, h⟩
theorem wo_gU {ref : Bool} {ops : Array Oper} {o : Oper} {r : List Oper} {K : St → Prop} {j : Nat} {want : Bool} {σ' : St} (hg : o.guard = some (j, want)) (hb : gval ops σ.env j = some none) (hd : o.dst.all (· < N) = true)
    (hσ : σ.putO o.dst .un = σ') (h : WOps x N ref ops r σ' K) : WOps x N ref ops (o :: r) σ K := by
  subst hσ
  exact wo_guard hg hb (fun h' => by cases h') fun _ => ⟨hd, h⟩
end
/-! ### Lengths -/
mutual
def D.wf : D → Prop
  | .slice xs => xs.length ≤ maxLen ∧ wfL xs
  | .agg cs => wfL cs
  | _ => True
def wfL : List D → Prop
  | [] => True
  | x :: xs => x.wf ∧ wfL xs
end
section
variable {μ : Mu}
mutual
theorem RepD.wf : ∀ {x : D} {v : Value}, RepD μ x v → x.wf
  | _, _, .int k n => by simp [D.wf]
  | _, _, .bool b => by simp [D.wf]
  | _, _, .str s => by simp [D.wf]
  | _, _, .nil => by simp [D.wf]
  | _, _, .slice0 A cap hc => by simp [D.wf, wfL]
  | _, _, .slice h hs hl hc => by
    unfold D.wf
    exact ⟨Nat.le_trans hl hc, RepRow.wf h⟩
  | _, _, .agg h => by unfold D.wf; exact RepL.wf h
  | _, _, .ptr h => by simp [D.wf]
  | _, _, .fn h => by simp [D.wf]
theorem RepL.wf : ∀ {xs : List D} {l : List Value}, RepL μ xs l → wfL xs
  | _, _, .nil => by simp [wfL]
  | _, _, .cons h h1 t => by unfold wfL; exact ⟨h.wf, t.wf⟩
theorem RepRow.wf : ∀ {xs : List D} {b o : Nat}, RepRow μ xs b o → wfL xs
  | _, _, _, .nil b o => by simp [wfL]
  | _, _, _, .cons h t => by unfold wfL; exact ⟨RepE.wf h, RepRow.wf t⟩
theorem RepE.wf : ∀ {x : D} {b o : Nat}, RepE μ x b o → x.wf
  | _, _, _, .agg h => by unfold D.wf; exact RepC.wf h
  | _, _, _, .one h h1 e => h.wf
theorem RepC.wf : ∀ {xs : List D} {b o : Nat}, RepC μ xs b o → wfL xs
  | _, _, _, .nil b o => by simp [wfL]
  | _, _, _, .cons h h1 e t => by unfold wfL; exact ⟨h.wf, t.wf⟩
end
theorem RepV.wf {xs : List D} {l : List Value} (h : RepV μ xs l) : wfL xs := by
  induction h with
  | nil => simp [wfL]
  | cons h t ih => unfold wfL; exact ⟨h.wf, ih⟩
end
theorem Spec.wf {P : Program} {g : FuncId} {ys rs : List D} (h : wfL ys → Spec P g ys rs) : Spec P g ys rs := fun w0 μ0 vs h1 h2 => h h2.wf w0 μ0 vs h1 h2
theorem wrap_nat {n : Nat} (h : n ≤ maxLen) : IntKind.i64.wrap (n : Int) = (n : Int) := by
  rw [IntKind.wrap_i64]
  simp only [maxLen] at h
  omega
end Go.Pm
namespace Go.Pm
open Go.RowKit
section
variable {x : X} {N : Nat}
theorem gval_cond {ops : Array Oper} {σ : St} {j : Nat} : True := trivial
/-- A guard that nobody knows: both ways. -/
theorem wo_gST {ref : Bool} {ops : Array Oper} {o : Oper} {r : List Oper} {K : St → Prop} {j : Nat} {b : Bool} {σ : St} (hg : o.guard = some (j, true)) (hb : gval ops σ.env j = some (some b)) (hd : o.dst.all (· < N) = true)
    (h1 : b = true → WOps x N ref ops ({ o with guard := none } :: r) σ K) (h2 : b = false → WOps x N ref ops r (σ.putO o.dst .un) K) : WOps x N ref ops (o :: r) σ K :=
  wo_guard hg hb (fun e => h1 (by simpa using e)) (fun e => ⟨hd, h2 (by simpa using e)⟩)
theorem wo_gSF {ref : Bool} {ops : Array Oper} {o : Oper} {r : List Oper} {K : St → Prop} {j : Nat} {b : Bool} {σ : St} (hg : o.guard = some (j, false)) (hb : gval ops σ.env j = some (some b)) (hd : o.dst.all (· < N) = true)
    (h1 : b = true → WOps x N ref ops r (σ.putO o.dst .un) K) (h2 : b = false → WOps x N ref ops ({ o with guard := none } :: r) σ K) : WOps x N ref ops (o :: r) σ K :=
  wo_guard hg hb (fun e => h2 (by simpa using e)) (fun e => ⟨hd, h1 (by simpa using e)⟩)
variable {σ σ1 σc : St} {K : Exit → St → Prop}
/-- Operations up to a place where ways meet. -/
theorem wg_cut {ops : Array Oper} {l l1 l2 : List Oper} {K : St → Prop} (k : Nat) (σc : St) (e1 : l.take k = l1) (e2 : l.drop k = l2) (h : WOps x N true ops l1 σ (fun σ' => Gh x.refs σ' σc)) (h2 : WOpsG x N ops l2 σc K) (hne : l2 ≠ []) : WOpsG x N ops l σ K := by
  rw [← List.take_append_drop k l, e1, e2]
  exact WOpsG_app (WOps_mono' (fun σ' h' => ⟨σc, h', h2⟩) h) hne
theorem wg_last {ops : Array Oper} {l : List Oper} {K : St → Prop} (h : WOps x N true ops l σ K) : WOpsG x N ops l σ K := WOpsG_of h
/-- A region that decides what follows; its ways meet again. With ghost steps inside. -/
theorem wc_regCondG {id : Nat} {ops : Array Oper} {q : Operand} {a b c : Code} (t : Bool) (σc : St) (h : WOpsG x N ops ops.toList σ (fun σ' => σ'.ev q = some (.d (.bool t)) ∧ Gh x.refs σ' σc))
    (h1 : t = true → ∀ σ', Gh x.refs σ' σc → WC x N (.seq a c) σ' K) (h2 : t = false → ∀ σ', Gh x.refs σ' σc → WC x N (.seq b c) σ' K) : WC x N (.seq (.region id ops false) (.seq (.cond q a b) c)) σ K := by
  refine Or.inr (And.intro rfl ?_)
  refine WOpsG_mono (fun σ' e => ?_) h
  exact wc_condThen e.1 (fun e' => h1 e' σ' e.2) (fun e' => h2 e' σ' e.2)
theorem wc_regCondEndG {id : Nat} {ops : Array Oper} {q : Operand} {a b : Code} (t : Bool) (σc : St) (h : WOpsG x N ops ops.toList σ (fun σ' => σ'.ev q = some (.d (.bool t)) ∧ Gh x.refs σ' σc))
    (h1 : t = true → ∀ σ', Gh x.refs σ' σc → WC x N a σ' K) (h2 : t = false → ∀ σ', Gh x.refs σ' σc → WC x N b σ' K) : WC x N (.seq (.region id ops false) (.cond q a b)) σ K := by
  refine Or.inr (And.intro rfl ?_)
  refine WOpsG_mono (fun σ' e => ?_) h
  exact wc_cond e.1 (fun e' => h1 e' σ' e.2) (fun e' => h2 e' σ' e.2)
theorem wc_regG {id : Nat} {ops : Array Oper} {b : Code} (h : WOpsG x N ops ops.toList σ (fun σ' => WC x N b σ' K)) : WC x N (.seq (.region id ops false) b) σ K := by
  refine Or.inr (And.intro rfl ?_)
  exact h
theorem wc_regGLast {id : Nat} {ops : Array Oper} (h : WOpsG x N ops ops.toList σ (K .normal)) : WC x N (.region id ops false) σ K := by
  refine Or.inr (And.intro rfl ?_)
  exact h
/-- A region that decides what follows what follows; its ways meet again. -/
theorem wc_regCond {id : Nat} {ops : Array Oper} {q : Operand} {a b c : Code} (t : Bool) (σc : St) (hg : Gh x.refs σ σ1) (h : WOps x N true ops ops.toList σ1 (fun σ' => σ'.ev q = some (.d (.bool t)) ∧ Gh x.refs σ' σc))
    (h1 : t = true → ∀ σ', Gh x.refs σ' σc → WC x N (.seq a c) σ' K) (h2 : t = false → ∀ σ', Gh x.refs σ' σc → WC x N (.seq b c) σ' K) : WC x N (.seq (.region id ops false) (.seq (.cond q a b) c)) σ K := by
  refine Or.inl (And.intro (fun q => by cases q) (Exists.intro σ1 (And.intro hg ?_)))
  refine WOps_mono' (fun σ' e => ?_) h
  exact wc_condThen e.1 (fun e' => h1 e' σ' e.2) (fun e' => h2 e' σ' e.2)
/-- The same, where nothing follows the condition. -/
theorem wc_regCondEnd {id : Nat} {ops : Array Oper} {q : Operand} {a b : Code} (t : Bool) (σc : St) (hg : Gh x.refs σ σ1) (h : WOps x N true ops ops.toList σ1 (fun σ' => σ'.ev q = some (.d (.bool t)) ∧ Gh x.refs σ' σc))
    (h1 : t = true → ∀ σ', Gh x.refs σ' σc → WC x N a σ' K) (h2 : t = false → ∀ σ', Gh x.refs σ' σc → WC x N b σ' K) : WC x N (.seq (.region id ops false) (.cond q a b)) σ K := by
  refine Or.inl (And.intro (fun q => by cases q) (Exists.intro σ1 (And.intro hg ?_)))
  refine WOps_mono' (fun σ' e => ?_) h
  exact wc_cond e.1 (fun e' => h1 e' σ' e.2) (fun e' => h2 e' σ' e.2)
/-- A region and what each of its ways leads to. -/
theorem wc_regThen {id : Nat} {ops : Array Oper} {b : Code} (hg : Gh x.refs σ σ1) (h : WOps x N true ops ops.toList σ1 (fun σ' => WC x N b σ' K)) : WC x N (.seq (.region id ops false) b) σ K := by
  refine Or.inl (And.intro (fun q => by cases q) (Exists.intro σ1 (And.intro hg ?_)))
  exact h
theorem wc_lastG {id : Nat} {ops : Array Oper} {σ2 : St} (hg : Gh x.refs σ σ1) (h : WOps x N true ops ops.toList σ1 (· = σ2)) (hk : K .normal σ2) : WC x N (.region id ops false) σ K := by
  refine Or.inl (And.intro (fun q => by cases q) (Exists.intro σ1 (And.intro hg ?_)))
  exact WOps_mono' (fun σ' e => by subst e; exact hk) h
theorem wc_ghostD {id : Nat} {ops : Array Oper} {b : Code} {σ2 : St} (hd : drawOK ops = true) (hg : Gh x.refs σ σ1) (h : WOps x N false ops ops.toList σ1 (· = σ2)) (hk : WC x N b σ2 K) : WC x N (.seq (.region id ops true) b) σ K := by
  refine Or.inl (And.intro (fun _ => hd) (Exists.intro σ1 (And.intro hg ?_)))
  exact WOps_mono' (fun σ' e => by subst e; exact hk) h
theorem loop_nextG {id : Nat} {c : Code} {I : Nat → St → Prop} {n : Nat} (n' : Nat) {σ2 : St} (hn : n' < n) (hg0 : Gh x.refs σ σ1) (hg : Gh x.refs σ1 σ2) (hI : I n' σ2) : LoopK x N id c I n K .normal σ := ⟨n', σ2, hn, .trans hg0 hg, hI⟩
/-- A loop behind which nothing comes. -/
def LoopE (x : X) (N id : Nat) (I : Nat → St → Prop) (n : Nat) (K : Exit → St → Prop) : Exit → St → Prop := fun e σ' => match e with
  | .normal => ∃ n' σ'', n' < n ∧ Gh x.refs σ' σ'' ∧ I n' σ''
  | .exit id' => if id' = id then K .normal σ' else K (.exit id') σ'
  | e => K e σ'
theorem wc_loopLast {id : Nat} {b : Code} (I : Nat → St → Prop) {σ0 : St} (n : Nat) (hg : Gh x.refs σ σ0) (hI : I n σ0) (hb : ∀ n σ, I n σ → WC x N b σ (LoopE x N id I n K)) : WC x N (.block id (.loop b)) σ K := by
  show ∃ (I : Nat → St → Prop), _
  refine ⟨I, ⟨n, σ0, hg, hI⟩, fun n σ hI => WC_mono (fun e σ' h' => ?_) (hb n σ hI)⟩
  cases e with
  | normal => exact h'
  | exit id' => exact h'
  | _ => exact h'
theorem loopE_exit {id : Nat} {I : Nat → St → Prop} {n : Nat} (h : K .normal σ) : LoopE x N id I n K (.exit id) σ := by unfold LoopE; simpa using h
theorem loopE_next {id : Nat} {I : Nat → St → Prop} {n : Nat} (n' : Nat) (hn : n' < n) (hg : Gh x.refs σ σ1) (hI : I n' σ1) : LoopE x N id I n K .normal σ := ⟨n', σ1, hn, hg, hI⟩
/-- A block behind which nothing comes. -/
def BlkE (x : X) (N id : Nat) (K : Exit → St → Prop) : Exit → St → Prop := fun e σ' => match e with
  | .exit id' => if id' = id then K .normal σ' else K (.exit id') σ'
  | e => K e σ'
theorem wc_blockLast {id : Nat} {b : Code} (h : WC x N b σ (BlkE x N id K)) : WC x N (.block id b) σ K := by
  show WC x N b σ _
  refine WC_mono (fun e σ' h' => ?_) h
  cases e with
  | exit id' => exact h'
  | normal => exact h'
  | _ => exact h'
theorem blkE_normal {id : Nat} (h : K .normal σ) : BlkE x N id K .normal σ := h
end
end Go.Pm
namespace Go.Pm
theorem allD_d : ∀ xs : List D, allD (xs.map T.d) = some xs
  | [] => rfl
  | x :: xs => by simp [allD, allD_d xs, T.toD, unD1]
theorem objsAt_one {m : Mem} {xs : List D} (h : m 900000 = some (.box 0 (xs.map T.d))) : objsAt m 0 1 = some [xs] := by
  simp [objsAt, oid, h, allD_d]
theorem boxes_one {m : Mem} {id g : Nat} {xs : List D} (h : m id = some (.box g (xs.map T.d))) : boxesOf m [id] = some [xs] := by
  simp [boxesOf, h, allD_d]
theorem SpecR.wf {P : Program} {g : FuncId} {as : List A} {css css' : List (List D)} {rs : List R} (h : (∀ x, A.d x ∈ as → x.wf) → SpecR P g as css rs css') : SpecR P g as css rs css' := by
  intro w0 μ0 bs rm vs h1 h2 h3 h4
  refine h ?_ w0 μ0 bs rm vs h1 h2 h3 h4
  clear h
  induction h4 with
  | nil => simp
  | cons h t ih =>
    intro x hx
    rcases List.mem_cons.1 hx with e | hx
    · subst e
      cases h with
      | d h => exact h.wf
    · exact ih x hx
end Go.Pm
