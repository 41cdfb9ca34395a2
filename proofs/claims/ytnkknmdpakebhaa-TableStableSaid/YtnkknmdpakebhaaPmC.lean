/- The abstract machine 'Pm', part C: what each kind of change of the world leaves of the relation. -/
import Derived.Test.YtnkknmdpakebhaaPmB
set_option linter.unusedSimpArgs false
set_option linter.unusedVariables false
namespace Go.Pm
open Go.RowKit

/-! ### A new block that is only read from now on -/
def Mu.add (μ : Mu) (b : Nat) (vs : Array Value) : Mu := fun a => if a.block = b ∧ a.spot = none then vs[a.off]? else μ a
theorem Mu.add_new {μ : Mu} {b : Nat} {vs : Array Value} (i : Nat) : μ.add b vs ⟨b, i, none⟩ = vs[i]? := by simp [Mu.add]
section
variable {c : Ctx} {m : Mem} {μ : Mu} {L : Loc} {ow : Nat → Option Nat} {w : World}
theorem Inv.fresh (h : Inv c m μ L ow w) {b : Nat} (hb : w.heap.size ≤ b) : ow b = none := by
  cases ho : ow b with
  | none => rfl
  | some id => have := (h.own b id ho).1; omega
theorem Inv.mu_lt (h : Inv c m μ L ow w) {a : Addr} {v : Value} (ha : μ a = some v) : a.block < w.heap.size := World.block_lt_of_cell? w a (h.mu a v ha)
theorem Inv.mu_spot (h : Inv c m μ L ow w) {a : Addr} {v : Value} (ha : μ a = some v) : a.spot = none := by
  have := h.mu a v ha
  unfold World.cell? at this
  split at this
  · split at this
    · cases this
    · rename_i hs; simpa using hs
  · cases this
theorem Inv.le_add (h : Inv c m μ L ow w) (vs : Array Value) : Mu.le μ (μ.add w.heap.size vs) := by
  intro a v ha
  have := h.mu_lt ha
  unfold Mu.add
  rw [if_neg (by omega)]
  exact ha
theorem Inv.persist (h : Inv c m μ L ow w) (vs : Array Value) (e : Nat) (fr : Nat × Nat) : Inv c m (μ.add w.heap.size vs) L ow (w.alloc (.cells vs e fr)) :=
  h.grows (.alloc w _) (h.le_add vs) fun a v ha => by
    unfold Mu.add at ha
    split at ha
    · rename_i hb
      refine .inr ⟨by omega, ?_⟩
      obtain ⟨b, o, s⟩ := a
      obtain ⟨hb, hs⟩ := hb
      simp only at hb hs ha
      subst hb hs
      rw [World.cell?_alloc_mark]
      exact ha
    · exact .inl ha

/-! ### A new block that is owned -/
def Loc.setBlk (L : Loc) (id b r : Nat) : Loc := ⟨fun i => if i = id then b else L.blk i, fun i => if i = id then r else L.room i, L.hdr⟩
def Loc.setHdr (L : Loc) (id : Nat) (v : Value) : Loc := ⟨L.blk, L.room, fun i => if i = id then v else L.hdr i⟩
def setM (m : Mem) (id : Nat) (o : Own) : Mem := fun i => if id = i then some o else m i
theorem look_set (l : List (Nat × Own)) (id : Nat) (o : Own) : look ((id, o) :: l) = setM (look l) id o := by
  funext i
  simp [look_cons, setM]
theorem setM_self (m : Mem) (id : Nat) (o : Own) : setM m id o id = some o := by simp [setM]
theorem setM_ne (m : Mem) {id j : Nat} (o : Own) (h : id ≠ j) : setM m id o j = m j := by simp [setM, h]
theorem Stays.new (L : Loc) {m : Mem} {id : Nat} (hid : m id = none) (o : Own) (L' : Loc) (hb : ∀ i, i ≠ id → L'.blk i = L.blk i) (hr : ∀ i, i ≠ id → L'.room i = L.room i) (hh : ∀ i, i ≠ id → L'.hdr i = L.hdr i) : Stays L m L' (setM m id o) := by
  refine ⟨fun i o' g hi hg => ?_, fun i e sz n hi => ?_⟩
  all_goals
    have hne : i ≠ id := fun e => by rw [e, hid] at hi; cases hi
    rw [setM_ne m o (Ne.symm hne), hi]
  · exact ⟨o', g, rfl, hg, Nat.le_refl _, fun _ => ⟨hb i hne, hr i hne⟩⟩
  · exact ⟨n, rfl, Nat.le_refl _, fun _ => hh i hne⟩
/-- One thing that stands turns. -/
theorem Stays.turn (L : Loc) {m : Mem} {id : Nat} {o : Own} (hid : m id = some o) (o1 : Own) (L' : Loc) (hb : ∀ i, i ≠ id → L'.blk i = L.blk i) (hr : ∀ i, i ≠ id → L'.room i = L.room i) (hh : ∀ i, i ≠ id → L'.hdr i = L.hdr i)
    (hg : ∀ g, o.gen = some g → ∃ g', o1.gen = some g' ∧ g ≤ g' ∧ (g' = g → L'.blk id = L.blk id ∧ L'.room id = L.room id))
    (ht : ∀ e sz n, o = .tok e sz n → ∃ n', o1 = .tok e sz n' ∧ n ≤ n' ∧ (n' = n → L'.hdr id = L.hdr id)) : Stays L m L' (setM m id o1) := by
  refine ⟨fun i o' g hi hgi => ?_, fun i e sz n hi => ?_⟩
  · by_cases he : id = i
    · subst he
      rw [hid] at hi
      injection hi with hi
      subst hi
      obtain ⟨g', h1, h2, h3⟩ := hg g hgi
      exact ⟨o1, g', setM_self _ _ _, h1, h2, h3⟩
    · exact ⟨o', g, by rw [setM_ne m _ he, hi], hgi, Nat.le_refl _, fun _ => ⟨hb i (Ne.symm he), hr i (Ne.symm he)⟩⟩
  · by_cases he : id = i
    · subst he
      rw [hid] at hi
      injection hi with hi
      obtain ⟨n', h1, h2, h3⟩ := ht e sz n hi
      exact ⟨n', by rw [setM_self, h1], h2, h3⟩
    · exact ⟨n, by rw [setM_ne m _ he, hi], Nat.le_refl _, fun _ => hh i (Ne.symm he)⟩
def setOw (ow : Nat → Option Nat) (b id : Nat) : Nat → Option Nat := fun i => if i = b then some id else ow i

theorem RepF.mono {μ μ' : Mu} (hm : Mu.le μ μ') {xs : List D} {l : List Value} (h : RepF μ xs l) : RepF μ' xs l := by
  induction h with
  | nil => exact .nil
  | cons h t ih => exact .cons (h.mono hm) ih

/-- New cells. -/
theorem Inv.newBox (h : Inv c m μ L ow w) {id : Nat} (hid : m id = none) (vs : Array Value) (e g : Nat) (cs : List T) (hs : cs.length ≤ vs.size)
    (hv : ∀ (i : Nat) (x : T), cs[i]? = some x → ∃ v, vs[i]? = some v ∧ v.oneCell' = true ∧ RepT μ L m x v) :
    Inv c (setM m id (.box g cs)) μ (L.setBlk id w.heap.size vs.size) (setOw ow w.heap.size id) (w.alloc (.cells vs e)) ∧ Stays L m (L.setBlk id w.heap.size vs.size) (setM m id (.box g cs)) := by
  have hst : Stays L m (L.setBlk id w.heap.size vs.size) (setM m id (.box g cs)) := Stays.new L hid _ _ (fun i hi => by simp [Loc.setBlk, hi]) (fun i hi => by simp [Loc.setBlk, hi]) (fun i _ => rfl)
  have hg := h.grows (Grows.alloc w (.cells vs e)) (Mu.le_refl μ) (fun a v ha => .inl ha)
  have owlt : ∀ b i, ow b = some i → b ≠ w.heap.size := fun b i hb e => by have := (h.own b i hb).1; omega
  refine ⟨⟨hg.fr, hg.mu, hg.mu0, hg.muNew, ?_, ?_, ?_, ?_, ?_⟩, hst⟩
  · intro a v ha i hi
    have hlt := h.mu_lt ha
    have : ow a.block = some i := by simpa [setOw, Nat.ne_of_lt hlt] using hi
    obtain ⟨e', sz, n, hm, ho⟩ := h.muOwn a v ha i this
    refine ⟨e', sz, n, ?_, ho⟩
    have : id ≠ i := fun e => by rw [← e, hid] at hm; cases hm
    simp [setM, this, hm]
  · intro b i hb
    unfold setOw at hb
    split at hb
    · rename_i e'
      subst e'
      exact ⟨by simp, .inl h.fr.size⟩
    · exact ⟨by have := (h.own b i hb).1; simp; omega, (h.own b i hb).2⟩
  · intro i g' cs' hi
    by_cases he : id = i
    · subst he
      simp only [setM, if_true] at hi
      injection hi with hi
      injection hi with hi1 hi
      subst hi1 hi
      refine ⟨by simp [Loc.setBlk, setOw], vs, e, by simpa [Loc.setBlk] using heap_alloc_new w _, hs, by simp [Loc.setBlk], fun j x hx => ?_⟩
      obtain ⟨v, h1, h2, h3⟩ := hv j x hx
      exact ⟨v, h1, h2, h3.mono (Mu.le_refl _) hst⟩
    · have hi' : m i = some (.box g' cs') := by simpa [setM, he] using hi
      obtain ⟨ho, vs', e', hh, hs', hr', hv'⟩ := hg.box i g' cs' hi'
      have he' : i ≠ id := fun x => he x.symm
      have hb : (L.setBlk id w.heap.size vs.size).blk i = L.blk i := by simp [Loc.setBlk, he']
      rw [hb]
      refine ⟨by simp [setOw, owlt _ _ ho, ho], vs', e', hh, hs', by simp [Loc.setBlk, he', hr'], fun j x hx => ?_⟩
      obtain ⟨v, h1, h2, h3⟩ := hv' j x hx
      exact ⟨v, h1, h2, h3.mono (Mu.le_refl _) hst⟩
  · intro i e' sz n hi
    by_cases he : id = i
    · subst he
      simp [setM] at hi
    · have hi' : m i = some (.tok e' sz n) := by simpa [setM, he] using hi
      obtain ⟨h0, h1, h2⟩ := hg.tok i e' sz n hi'
      exact ⟨h0, h1, fun b hb => ⟨by simp [setOw, owlt _ _ (h2 b hb).1, (h2 b hb).1], (h2 b hb).2⟩⟩
  · intro i g' cs' hi
    by_cases he : id = i
    · subst he
      simp [setM] at hi
    · have hi' : m i = some (.froz g' cs') := by simpa [setM, he] using hi
      have he' : i ≠ id := fun x => he x.symm
      simpa [Loc.setBlk, he'] using hg.froz i g' cs' hi'

/-- A cell is written. -/
theorem Inv.store (h : Inv c m μ L ow w) {id g : Nat} {cs : List T} (hid : m id = some (.box g cs)) (i : Nat) (hi : i < cs.length) (x : T) (v : Value) (h1 : v.oneCell' = true) (hx : RepT μ L m x v) :
    Inv c (setM m id (.box g (cs.set i x))) μ L ow (w.setCell ⟨L.blk id, i, none⟩ v) ∧ Stays L m L (setM m id (.box g (cs.set i x))) ∧ (∃ u, w.cell? ⟨L.blk id, i, none⟩ = some u) ∧ w.frozen? ⟨L.blk id, i, none⟩ = false := by
  obtain ⟨ho, vs, e, hh, hs, hroom, hv⟩ := h.box id g cs hid
  have hst : Stays L m L (setM m id (.box g (cs.set i x))) := Stays.turn L hid _ _ (fun _ _ => rfl) (fun _ _ => rfl) (fun _ _ => rfl) (fun g' hg => ⟨g', hg, Nat.le_refl _, fun _ => ⟨rfl, rfl⟩⟩) (fun _ _ _ q => by cases q)
  have hother : ∀ k, k ≠ L.blk id → (w.setCell ⟨L.blk id, i, none⟩ v).heap[k]? = w.heap[k]? := fun k hk => Below.heap_setCell w _ v k hk
  have hself : (w.setCell ⟨L.blk id, i, none⟩ v).heap[L.blk id]? = some (.cells (vs.setIfInBounds i v) e (0, 0)) := by
    simp [World.setCell, Array.getElem?_modify, hh]
  have hnomu : ∀ a u, μ a = some u → a.block ≠ L.blk id := fun a u ha e => by
    obtain ⟨e', sz, n, hm, _⟩ := h.muOwn a u ha id (by rw [e]; exact ho)
    rw [hid] at hm
    cases hm
  have hcell : ∃ u, w.cell? ⟨L.blk id, i, none⟩ = some u := by
    refine ⟨vs[i], ?_⟩
    rw [cell_of_row w _ i vs e (0, 0) hh]
    exact Array.getElem?_eq_getElem (by omega)
  refine ⟨⟨?_, ?_, h.mu0, h.muNew, ?_, ?_, ?_, ?_, ?_⟩, hst, hcell, by simp [World.frozen?, hh]⟩
  · refine ⟨h.fr.os, h.fr.tape, h.fr.output, by simpa [World.setCell] using h.fr.size, fun k hk hS => ?_⟩
    rw [hother k (fun e => ?_)]
    · exact h.fr.block k hk hS
    · subst e
      rcases (h.own _ _ ho).2 with h' | h'
      · omega
      · exact hS h'
  · intro a u ha
    rw [World.cell?_of_block (w := w) (hother _ (hnomu a u ha))]
    exact h.mu a u ha
  · intro a u ha j hj
    obtain ⟨e', sz, n, hm, hoff⟩ := h.muOwn a u ha j hj
    have : id ≠ j := fun e => by rw [← e, hid] at hm; cases hm
    exact ⟨e', sz, n, by simp [setM, this, hm], hoff⟩
  · intro b j hb
    exact ⟨by simpa [World.setCell] using (h.own b j hb).1, (h.own b j hb).2⟩
  · intro j g' cs' hj
    by_cases he : id = j
    · subst he
      simp only [setM, if_true] at hj
      injection hj with hj
      injection hj with hj1 hj
      subst hj1 hj
      refine ⟨ho, _, e, hself, by simpa using hs, by simpa using hroom, fun k y hy => ?_⟩
      rw [List.getElem?_set] at hy
      split at hy
      · rename_i hk
        subst hk
        try rw [if_pos hi] at hy
        injection hy with hy
        subst hy
        exact ⟨v, by simp [Array.getElem?_setIfInBounds, show i < vs.size by omega], h1, hx.mono (Mu.le_refl _) hst⟩
      · rename_i hk
        obtain ⟨u, h2, h3, h4⟩ := hv k y hy
        exact ⟨u, by rw [Array.getElem?_setIfInBounds, if_neg hk]; exact h2, h3, h4.mono (Mu.le_refl _) hst⟩
    · have hj' : m j = some (.box g' cs') := by simpa [setM, he] using hj
      obtain ⟨ho', vs', e', hh', hs', hr', hv'⟩ := h.box j g' cs' hj'
      have hne : L.blk j ≠ L.blk id := fun e => by rw [e, ho] at ho'; injection ho' with ho'; exact he ho'
      refine ⟨ho', vs', e', (hother _ hne).trans hh', hs', hr', fun k y hy => ?_⟩
      obtain ⟨u, h2, h3, h4⟩ := hv' k y hy
      exact ⟨u, h2, h3, h4.mono (Mu.le_refl _) hst⟩
  · intro j e' sz n hj
    have he : id ≠ j := fun e => by subst e; simp [setM] at hj
    have hj' : m j = some (.tok e' sz n) := by simpa [setM, he] using hj
    obtain ⟨h0, ⟨cells, hr⟩, h2⟩ := h.tok j e' sz n hj'
    refine ⟨h0, ⟨cells, rowAt_keep hr fun b hb => hother b fun e => ?_⟩, h2⟩
    have := (h2 b hb).1
    rw [e, ho] at this
    injection this with this
    exact he this
  · intro j g' cs' hj
    have he : id ≠ j := fun e => by subst e; simp [setM] at hj
    exact h.froz j g' cs' (by simpa [setM, he] using hj)

/-- What the cells of a list of data are. -/
def unD1 : T → Option D
  | .d x => some x
  | .own _ xs => some (.slice xs)
  | _ => none
theorem unD1_rep {x : T} {y : D} {v : Value} (h : RepT μ L m x v) (hy : unD1 x = some y) : RepD μ y v := by
  cases h <;> simp [unD1] at hy <;> subst hy <;> assumption
theorem RepL.of_get {μ : Mu} : ∀ {ds : List D} {l : List Value}, l.length = ds.length → (∀ (i : Nat) (y : D), ds[i]? = some y → ∃ v, l[i]? = some v ∧ RepD μ y v ∧ v.oneCell' = true) → RepL μ ds l
  | [], [], _, _ => .nil
  | [], _ :: _, hl, _ => by simp at hl
  | _ :: _, [], hl, _ => by simp at hl
  | y :: ds, v :: l, hl, hg => by
    obtain ⟨u, h1, h2, h3⟩ := hg 0 y rfl
    simp at h1
    subst h1
    exact .cons h2 h3 (RepL.of_get (by simpa using hl) fun i z hz => by simpa using hg (i + 1) z (by simpa using hz))
/-- Cells that nobody will write any more. -/
def Mu.ice (μ : Mu) (b k : Nat) (vs : Array Value) : Mu := fun a => if a.block = b ∧ a.spot = none ∧ a.off < k then vs[a.off]? else μ a
theorem Inv.freeze (h : Inv c m μ L ow w) (hS : ∀ b, ¬ c.S b) {id g : Nat} {cs : List T} (hid : m id = some (.box g cs)) {ds : List D} (hlen : ds.length = cs.length) (hd : ∀ (i : Nat) (x : T), cs[i]? = some x → ∃ y, unD1 x = some y ∧ ds[i]? = some y) :
    ∃ μ' ow', Inv c (setM m id (.froz g ds)) μ' L ow' w ∧ Mu.le μ μ' ∧ Stays L m L (setM m id (.froz g ds)) := by
  obtain ⟨ho, vs, e, hh, hs, hroom, hv⟩ := h.box id g cs hid
  have hst : Stays L m L (setM m id (.froz g ds)) := Stays.turn L hid _ _ (fun _ _ => rfl) (fun _ _ => rfl) (fun _ _ => rfl) (fun g' hg => ⟨g', hg, Nat.le_refl _, fun _ => ⟨rfl, rfl⟩⟩) (fun _ _ _ q => by cases q)
  have hnomu : ∀ a u, μ a = some u → a.block ≠ L.blk id := fun a u ha e => by
    obtain ⟨e', sz, n, hm, _⟩ := h.muOwn a u ha id (by rw [e]; exact ho)
    rw [hid] at hm
    cases hm
  have hnew : c.w0.heap.size ≤ L.blk id := by
    rcases (h.own _ _ ho).2 with h' | h'
    · exact h'
    · exact absurd h' (hS _)
  have hle : Mu.le μ (μ.ice (L.blk id) cs.length vs) := by
    intro a v ha
    unfold Mu.ice
    rw [if_neg fun q => hnomu a v ha q.1]
    exact ha
  have hcell : ∀ k, w.cell? ⟨L.blk id, k, none⟩ = vs[k]? := fun k => cell_of_row w _ k vs e (0, 0) hh
  have how : ∀ b i, (if b = L.blk id then none else ow b) = some i → ow b = some i ∧ b ≠ L.blk id := by
    intro b i hb
    split at hb
    · cases hb
    · exact ⟨hb, by assumption⟩
  have hne : ∀ b i, ow b = some i → id ≠ i → b ≠ L.blk id := fun b i hb hi e => by rw [e, ho] at hb; injection hb with hb; exact hi hb
  refine ⟨μ.ice (L.blk id) cs.length vs, fun b => if b = L.blk id then none else ow b, ⟨h.fr, ?_, ?_, ?_, ?_, ?_, ?_, ?_, ?_⟩, hle, hst⟩
  · intro a v ha
    unfold Mu.ice at ha
    split at ha
    · rename_i hc
      obtain ⟨b, o, s⟩ := a
      obtain ⟨rfl, rfl, _⟩ := hc
      rw [hcell]; exact ha
    · exact h.mu a v ha
  · exact fun a v ha => hle a v (h.mu0 a v ha)
  · intro a v ha
    unfold Mu.ice at ha
    split at ha
    · rename_i hc; exact .inr (by omega)
    · exact h.muNew a v ha
  · intro a v ha i hi
    obtain ⟨h1, h2⟩ := how _ _ hi
    unfold Mu.ice at ha
    rw [if_neg fun q => h2 q.1] at ha
    obtain ⟨e', sz, n, hm, hoff⟩ := h.muOwn a v ha i h1
    have : id ≠ i := fun q => by rw [← q, hid] at hm; cases hm
    exact ⟨e', sz, n, by rw [setM_ne m _ this]; exact hm, hoff⟩
  · intro b i hb
    exact h.own b i (how _ _ hb).1
  · intro j g' cs' hj
    have he : id ≠ j := fun q => by subst q; simp [setM] at hj
    obtain ⟨ho', vs', e', hh', hs', hr', hv'⟩ := h.box j g' cs' (by simpa [setM, he] using hj)
    refine ⟨by rw [if_neg (hne _ _ ho' he)]; exact ho', vs', e', hh', hs', hr', fun k y hy => ?_⟩
    obtain ⟨u, h2, h3, h4⟩ := hv' k y hy
    exact ⟨u, h2, h3, h4.mono hle hst⟩
  · intro j e' sz n hj
    have he : id ≠ j := fun q => by subst q; simp [setM] at hj
    obtain ⟨h0, h1, h2⟩ := h.tok j e' sz n (by simpa [setM, he] using hj)
    exact ⟨h0, h1, fun b hb => ⟨by rw [if_neg (hne _ _ (h2 b hb).1 he)]; exact (h2 b hb).1, (h2 b hb).2⟩⟩
  · intro j g' cs' hj
    by_cases he : id = j
    · subst he
      simp only [setM, if_true] at hj
      injection hj with hj
      injection hj with hj1 hj2
      subst hj1 hj2
      have hl : (vs.toList.take cs.length).length = ds.length := by rw [List.length_take, Array.length_toList, hlen]; exact Nat.min_eq_left hs
      refine RepC.of_vals (l := vs.toList.take cs.length) (RepL.of_get hl fun i y hy => ?_) fun i v hv1 => ?_
      · have hi : i < cs.length := by rw [← hlen]; exact (List.getElem?_eq_some_iff.1 hy).1
        obtain ⟨u, h2, h3, h4⟩ := hv i cs[i] (List.getElem?_eq_getElem hi)
        obtain ⟨y', h5, h6⟩ := hd i cs[i] (List.getElem?_eq_getElem hi)
        rw [hy] at h6
        injection h6 with h6
        subst h6
        exact ⟨u, by rw [List.getElem?_take, if_pos hi]; simpa using h2, (unD1_rep h4 h5).mono hle, h3⟩
      · have hi : i < cs.length := by have := (List.getElem?_eq_some_iff.1 hv1).1; rw [hl, hlen] at this; exact this
        unfold Mu.ice
        rw [if_pos ⟨rfl, rfl, by simpa using hi⟩]
        rw [List.getElem?_take, if_pos hi] at hv1
        simpa using hv1
    · exact (h.froz j g' cs' (by simpa [setM, he] using hj)).mono hle
end
end Go.Pm
