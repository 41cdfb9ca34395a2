/- The abstract machine 'Pm', part H: literals, tokens, append, lengths, strings. -/
import Derived.Test.YtnkknmdpakebhaaPmG
set_option linter.unusedSimpArgs false
set_option linter.unusedVariables false
namespace Go.Pm
open Go.RowKit

/-! ### A literal's cells -/
theorem put_cells : ∀ (l : List Value) (k : Nat) (cs : Array Value) (off : Nat), off + k + l.length ≤ cs.size →
    ((l.zipIdx k).foldl (fun cs (p : Value × Nat) => cs.setIfInBounds (off + p.2) p.1) cs).toList = cs.toList.take (off + k) ++ l ++ cs.toList.drop (off + k + l.length)
  | [], k, cs, off, h => by simp
  | v :: l, k, cs, off, h => by
    simp only [List.length_cons] at h
    rw [List.zipIdx_cons, List.foldl_cons, put_cells l (k + 1) _ off (by simp; omega)]
    simp only [Array.toList_setIfInBounds, List.length_cons]
    have hlt : off + k < cs.toList.length := by simp; omega
    apply List.ext_getElem?
    intro i
    simp only [List.append_assoc, List.getElem?_append, List.length_take, List.length_set, Array.length_toList, List.length_cons]
    have h1 : min (off + (k + 1)) cs.size = off + k + 1 := by omega
    have h2 : min (off + k) cs.size = off + k := by omega
    rw [h1, h2]
    by_cases c1 : i < off + k
    · rw [if_pos (by omega), if_pos c1, List.getElem?_take, if_pos (by omega), List.getElem?_take, if_pos c1, List.getElem?_set_ne (by omega)]
    · by_cases c2 : i = off + k
      · subst c2
        rw [if_pos (by omega), if_neg (by omega), if_pos (by omega), List.getElem?_take, if_pos (by omega)]
        simp [List.getElem?_set, show off + k < cs.size by omega]
      · rw [if_neg (by omega), if_neg c1]
        by_cases c3 : i - (off + k + 1) < l.length
        · rw [if_pos c3, if_pos (by omega)]
          have : i - (off + k) = (i - (off + k + 1)) + 1 := by omega
          rw [this, List.getElem?_cons_succ]
        · rw [if_neg c3, if_neg (by omega), List.getElem?_drop, List.getElem?_drop, List.getElem?_set_ne (by omega)]
          congr 1
          omega
theorem fill_seq (size : Nat) : ∀ (vs : List Value) (k : Nat) (cs : Array Value), (∀ v ∈ vs, v.cells.size = size) → (k + vs.length) * size ≤ cs.size →
    ∃ cs', Instr.fill (fun i => some (i * size, size)) cs ((vs.zipIdx k).map fun p => (p.2, p.1)) = some cs' ∧ cs'.toList = cs.toList.take (k * size) ++ vs.flatMap (fun v => v.cells.toList) ++ cs.toList.drop ((k + vs.length) * size)
  | [], k, cs, _, h => ⟨cs, rfl, by simp⟩
  | v :: vs, k, cs, hs, h => by
    have hv := hs v List.mem_cons_self
    simp only [List.length_cons] at h
    have hk : (k + 1 + vs.length) * size = (k + (vs.length + 1)) * size := by congr 1; omega
    have hk1 : k * size + size ≤ (k + (vs.length + 1)) * size := by
      rw [← Nat.succ_mul]
      exact Nat.mul_le_mul_right _ (by omega)
    have hp := put_cells v.cells.toList 0 cs (k * size) (by simp; omega)
    obtain ⟨cs', h1, h2⟩ := fill_seq size vs (k + 1) (v.cells.zipIdx.foldl (fun cs p => cs.setIfInBounds (k * size + p.2) p.1) cs) (fun u hu => hs u (List.mem_cons_of_mem _ hu)) (by
      have : (v.cells.zipIdx.foldl (fun cs p => cs.setIfInBounds (k * size + p.2) p.1) cs).size = cs.size := by
        rw [← Array.foldl_toList, Array.toList_zipIdx, ← Array.length_toList, hp]
        simp
        omega
      rw [this, hk]; exact h)
    refine ⟨cs', ?_, ?_⟩
    · simp only [List.zipIdx_cons, List.map_cons, Instr.fill]
      have c1 : ¬ (v.cells.size ≠ size) := by simp [hv]
      have c2 : ¬ (k * size + v.cells.size > cs.size) := by omega
      simp only [c1, c2, decide_false, Bool.or_self, Bool.false_eq_true, if_false]
      exact h1
    · rw [h2, ← Array.foldl_toList, Array.toList_zipIdx, hp]
      simp only [Array.length_toList, Nat.add_zero, hv, List.flatMap_cons, List.length_cons, List.append_assoc]
      have e1 : (cs.toList.take (k * size) ++ v.cells.toList).length = (k + 1) * size := by
        simp only [List.length_append, List.length_take, Array.length_toList, hv, Nat.min_eq_left (show k * size ≤ cs.size by omega), ← Nat.succ_mul]
      have e2 : (k + 1) * size ≤ (k + (vs.length + 1)) * size := Nat.mul_le_mul_right _ (by omega)
      have e3 : k * size + size = (k + 1) * size := (Nat.succ_mul _ _).symm
      rw [hk, e3, ← List.append_assoc (cs.toList.take (k * size)), List.take_left' e1, List.drop_append, List.drop_eq_nil_of_le (by omega), List.nil_append, e1, List.drop_drop,
        Nat.add_sub_cancel' e2]
      simp only [List.append_assoc]
section
variable {P : Program} {c : Ctx} {m : Mem} {μ : Mu} {L : Loc} {ow : Nat → Option Nat} {w : World}

/-! ### tokens -/
/-- The nil slice may be appended to. -/
theorem Inv.tokNil (h : Inv c m μ L ow w) {d e sz : Nat} (hd : m d = none) (hz : 0 < sz) : Inv c (setM m d (.tok e sz 0)) μ (L.setHdr d (.slice none 0 0)) ow w ∧ Stays L m (L.setHdr d (.slice none 0 0)) (setM m d (.tok e sz 0)) := by
  have hst : Stays L m (L.setHdr d (.slice none 0 0)) (setM m d (.tok e sz 0)) := Stays.new L hd _ _ (fun i hi => rfl) (fun i hi => rfl) (fun i hi => by simp [Loc.setHdr, hi])
  refine ⟨⟨h.fr, h.mu, h.mu0, h.muNew, ?_, h.own, ?_, ?_, ?_⟩, hst⟩
  · intro a v ha i hi
    obtain ⟨e', sz', n', hm, ho⟩ := h.muOwn a v ha i hi
    have : d ≠ i := fun x => by subst x; rw [hd] at hm; cases hm
    exact ⟨e', sz', n', by simp [setM, this, hm], ho⟩
  · intro i g cs hi
    have he : d ≠ i := fun x => by subst x; simp [setM] at hi
    obtain ⟨ho, vs, e', hh, hs, hroom, hv⟩ := h.box i g cs (by simpa [setM, he] using hi)
    refine ⟨ho, vs, e', hh, hs, hroom, fun j x hx => ?_⟩
    obtain ⟨v, h1, h2, h3⟩ := hv j x hx
    exact ⟨v, h1, h2, h3.mono (Mu.le_refl _) hst⟩
  · intro i e' sz' n' hi
    by_cases he : d = i
    · subst he
      simp only [setM, if_true] at hi
      injection hi with hi
      injection hi with q1 q2 q3
      subst q1 q2 q3
      refine ⟨hz, ⟨[], ?_⟩, fun b hb => ?_⟩
      · simp only [Loc.setHdr, if_true]
        exact World.ownsRow_nil w 0 e sz
      · simp [Loc.setHdr, Value.ownBlock] at hb
    · have he' : ¬ i = d := fun x => he x.symm
      obtain ⟨h0, h1, h2⟩ := h.tok i e' sz' n' (by simpa [setM, he] using hi)
      simp only [Loc.setHdr, if_neg he']
      exact ⟨h0, h1, h2⟩
  · intro i g cs hi
    have he : d ≠ i := fun x => by subst x; simp [setM] at hi
    exact h.froz i g cs (by simpa [setM, he] using hi)

/-- A new row, which may be appended to. -/
theorem Inv.tokNew (h : Inv c m μ L ow w) {d e sz n cap : Nat} (hd : m d = none) (hz : 0 < sz) (vs : Array Value) (hn : n ≤ cap) (hc : cap ≤ maxLen) (hs : vs.size = cap * sz) :
    Inv c (setM m d (.tok e sz n)) (μ.row w.heap.size (vs.toList.take (n * sz))) (L.setHdr d (.slice (some ⟨w.heap.size, 0, none⟩) n cap)) (setOw ow w.heap.size d) (w.alloc (.cells vs e)) ∧
      Stays L m (L.setHdr d (.slice (some ⟨w.heap.size, 0, none⟩) n cap)) (setM m d (.tok e sz n)) ∧ Mu.le μ (μ.row w.heap.size (vs.toList.take (n * sz))) := by
  have hst : Stays L m (L.setHdr d (.slice (some ⟨w.heap.size, 0, none⟩) n cap)) (setM m d (.tok e sz n)) := Stays.new L hd _ _ (fun i hi => rfl) (fun i hi => rfl) (fun i hi => by simp [Loc.setHdr, hi])
  have hlen : (vs.toList.take (n * sz)).length = n * sz := by
    rw [List.length_take, Array.length_toList, hs]
    exact Nat.min_eq_left (Nat.mul_le_mul_right _ hn)
  have hle : Mu.le μ (μ.row w.heap.size (vs.toList.take (n * sz))) := by
    intro a v ha
    have := h.mu_lt ha
    unfold Mu.row
    rw [if_neg (by omega)]
    exact ha
  have hg := h.grows (μ1 := μ.row w.heap.size (vs.toList.take (n * sz))) (Grows.alloc w (.cells vs e)) hle fun a v ha => by
    unfold Mu.row at ha
    split at ha
    · rename_i hb
      refine .inr ⟨by omega, ?_⟩
      obtain ⟨b, o, s⟩ := a
      obtain ⟨hb, hs', ho⟩ := hb
      simp only at hb hs' ha ho
      subst hb hs'
      rw [World.cell?_alloc_mark]
      rw [List.getElem?_take] at ha
      split at ha
      · simpa using ha
      · cases ha
    · exact .inl ha
  have owlt : ∀ b i, ow b = some i → b ≠ w.heap.size := fun b i hb e => by have := (h.own b i hb).1; omega
  refine ⟨⟨hg.fr, hg.mu, hg.mu0, hg.muNew, ?_, ?_, ?_, ?_, ?_⟩, hst, hle⟩
  · intro a v ha i hi
    unfold Mu.row at ha
    unfold setOw at hi
    split at ha
    · rename_i hb
      rw [if_pos hb.1] at hi
      injection hi with hi
      subst hi
      exact ⟨e, sz, n, by simp [setM], by rw [← hlen]; exact hb.2.2⟩
    · have hlt := h.mu_lt ha
      rw [if_neg (by omega)] at hi
      obtain ⟨e', sz', n', hm, ho⟩ := h.muOwn a v ha i hi
      have : d ≠ i := fun x => by subst x; rw [hd] at hm; cases hm
      exact ⟨e', sz', n', by simp [setM, this, hm], ho⟩
  · intro b i hb
    unfold setOw at hb
    split at hb
    · rename_i e'
      subst e'
      exact ⟨by simp, .inl h.fr.size⟩
    · exact ⟨by have := (h.own b i hb).1; simp; omega, (h.own b i hb).2⟩
  · intro i g cs hi
    have he : d ≠ i := fun x => by subst x; simp [setM] at hi
    obtain ⟨ho, vs', e', hh, hs', hroom, hv⟩ := hg.box i g cs (by simpa [setM, he] using hi)
    refine ⟨by simp only [Loc.setHdr]; simp [setOw, owlt _ _ ho, ho], vs', e', hh, hs', hroom, fun j x hx => ?_⟩
    obtain ⟨v, h1, h2, h3⟩ := hv j x hx
    exact ⟨v, h1, h2, h3.mono (Mu.le_refl _) hst⟩
  · intro i e' sz' n' hi
    by_cases he : d = i
    · subst he
      simp only [setM, if_true] at hi
      injection hi with hi
      injection hi with q1 q2 q3
      subst q1 q2 q3
      refine ⟨hz, ⟨vs.toList.take (n * sz), ?_⟩, fun b hb => ?_⟩
      · simp only [Loc.setHdr, if_true]
        exact ⟨hlen, .inr ⟨w.heap.size, cap, vs, rfl, Nat.zero_le _, heap_alloc_new w _, hn, hc, hs, rfl⟩⟩
      · simp only [Loc.setHdr, if_true, Value.ownBlock, Option.some.injEq] at hb
        subst hb
        exact ⟨by simp [setOw], h.fr.size⟩
    · have he' : ¬ i = d := fun x => he x.symm
      obtain ⟨h0, h1, h2⟩ := hg.tok i e' sz' n' (by simpa [setM, he] using hi)
      simp only [Loc.setHdr, if_neg he']
      exact ⟨h0, h1, fun b hb => ⟨by simp [setOw, owlt _ _ (h2 b hb).1, (h2 b hb).1], (h2 b hb).2⟩⟩
  · intro i g cs hi
    have he : d ≠ i := fun x => by subst x; simp [setM] at hi
    exact hg.froz i g cs (by simpa [setM, he] using hi)
end
end Go.Pm
