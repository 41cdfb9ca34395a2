/- The abstract machine 'Pm', part Z: a call of a function that writes what it is handed, at the caller. -/
import Derived.Test.YtnkknmdpakebhaaPmY
set_option linter.unusedSimpArgs false
set_option linter.unusedVariables false
namespace Go.Pm
open Go.RowKit

def idx : List Nat → Nat → Option Nat
  | [], _ => none
  | i :: r, x => if i = x then some 0 else (idx r x).map (· + 1)
theorem idx_get : ∀ {l : List Nat} {x k : Nat}, idx l x = some k → l[k]? = some x
  | [], x, k, h => by cases h
  | i :: r, x, k, h => by
    unfold idx at h
    split at h
    · rename_i e
      injection h with h
      subst h e
      rfl
    · obtain ⟨j, h1, h2⟩ := Option.map_eq_some_iff.1 h
      subst h2
      simpa using idx_get h1
def boxWith (m : Mem) (id : Nat) (cs : List D) : Own := match m id with
  | some (.box g _) => .box g (cs.map .d)
  | _ => .box 0 (cs.map .d)
def updB (m0 : Mem) : Mem → List Nat → List (List D) → Mem
  | m, id :: ids, cs :: css => setM (updB m0 m ids css) id (boxWith m0 id cs)
  | m, _, _ => m
theorem updB_ne (m0 m : Mem) : ∀ {ids : List Nat} {css : List (List D)} {i : Nat}, i ∉ ids → updB m0 m ids css i = m i
  | [], _, i, _ => by simp [updB]
  | id :: ids, [], i, _ => by simp [updB]
  | id :: ids, cs :: css, i, h => by
    rw [List.mem_cons, not_or] at h
    rw [updB, setM_ne _ _ (fun e => h.1 e.symm), updB_ne m0 m h.2]
theorem updB_at (m0 m : Mem) : ∀ {ids : List Nat} {css : List (List D)} {k id : Nat} {cs : List D}, ids.Nodup → ids[k]? = some id → css[k]? = some cs → updB m0 m ids css id = some (boxWith m0 id cs)
  | [], _, k, id, cs, _, h, _ => by simp at h
  | i :: ids, [], k, id, cs, _, _, h => by simp at h
  | i :: ids, c :: css, 0, id, cs, _, h1, h2 => by
    simp at h1 h2
    subst h1 h2
    rw [updB, setM_self]
  | i :: ids, c :: css, k + 1, id, cs, hn, h1, h2 => by
    rw [List.nodup_cons] at hn
    simp at h1 h2
    have hne : i ≠ id := fun e => by subst e; exact hn.1 (List.mem_of_getElem? h1)
    rw [updB, setM_ne _ _ hne, updB_at m0 m hn.2 h1 h2]
section
variable {P : Program} {c : Ctx} {m : Mem} {μ : Mu} {L : Loc} {ow : Nat → Option Nat} {w : World}

theorem Inv.called (h : Inv c m μ L ow w) {ids : List Nat} (hb : ∀ id ∈ ids, ∃ g cs, m id = some (.box g cs)) (hnd : ids.Nodup) {w' : World} {μ' : Mu} {css' : List (List D)} (hle : Mu.le μ μ')
    (hmu' : ∀ a u, μ' a = some u → w'.cell? a = some u) (hnew : ∀ a u, μ' a = some u → μ a = some u ∨ w.heap.size ≤ a.block) (hfr : Fr w (· ∈ ids.map L.blk) w') (hob : Objs w' μ' (ids.map L.blk) (ids.map L.room) css') :
    Inv c (updB m m ids css') μ' L ow w' ∧ Stays L m L (updB m m ids css') := by
  have hlen : ids.length = css'.length := by simpa using hob.len
  have hat : ∀ id ∈ ids, ∃ (k : Nat) (cs : List D) (g : Nat) (cs0 : List T), ids[k]? = some id ∧ css'[k]? = some cs ∧ m id = some (.box g cs0) ∧ updB m m ids css' id = some (.box g (cs.map .d)) := by
    intro id hid
    obtain ⟨k, hk⟩ := List.mem_iff_getElem?.1 hid
    have hlt : k < css'.length := by rw [← hlen]; exact (List.getElem?_eq_some_iff.1 hk).1
    obtain ⟨g, cs0, hm⟩ := hb id hid
    refine ⟨k, css'[k], g, cs0, hk, List.getElem?_eq_getElem hlt, hm, ?_⟩
    rw [updB_at m m hnd hk (List.getElem?_eq_getElem hlt)]
    simp only [boxWith, hm]
  have hst : Stays L m L (updB m m ids css') := by
    refine ⟨fun id o g hi hg => ?_, fun id e sz n hi => ?_⟩
    · by_cases hid : id ∈ ids
      · obtain ⟨k, cs, g', cs0, h1, h2, h3, h4⟩ := hat id hid
        rw [hi] at h3
        injection h3 with h3
        subst h3
        exact ⟨_, g, h4, hg, Nat.le_refl _, fun _ => ⟨rfl, rfl⟩⟩
      · exact ⟨o, g, by rw [updB_ne m m hid, hi], hg, Nat.le_refl _, fun _ => ⟨rfl, rfl⟩⟩
    · have hid : id ∉ ids := fun q => by obtain ⟨g, cs, h1⟩ := hb id q; rw [hi] at h1; cases h1
      exact ⟨n, by rw [updB_ne m m hid, hi], Nat.le_refl _, fun _ => rfl⟩
  have hne : ∀ b i, ow b = some i → i ∉ ids → b ∉ ids.map L.blk := by
    intro b i ho hi q
    obtain ⟨j, hj, rfl⟩ := List.mem_map.1 q
    obtain ⟨g, cs, h1⟩ := hb j hj
    have := (h.box j g cs h1).1
    rw [ho] at this
    injection this with this
    subst this
    exact hi hj
  have hkeep : ∀ b i, ow b = some i → i ∉ ids → w'.heap[b]? = w.heap[b]? := fun b i ho hi => hfr.block b (h.own b i ho).1 (hne b i ho hi)
  refine ⟨⟨?_, hmu', fun a v ha => hle a v (h.mu0 a v ha), ?_, ?_, ?_, ?_, ?_, ?_⟩, hst⟩
  · refine ⟨hfr.os.trans h.fr.os, hfr.tape.trans h.fr.tape, hfr.output.trans h.fr.output, Nat.le_trans h.fr.size hfr.size, fun k hk hS => ?_⟩
    rw [hfr.block k (Nat.lt_of_lt_of_le hk h.fr.size) (fun q => ?_)]
    · exact h.fr.block k hk hS
    · obtain ⟨j, hj, rfl⟩ := List.mem_map.1 q
      obtain ⟨g, cs, h1⟩ := hb j hj
      rcases (h.own _ _ (h.box j g cs h1).1).2 with h' | h'
      · omega
      · exact hS h'
  · intro a v ha
    rcases hnew a v ha with h1 | h1
    · exact h.muNew a v h1
    · exact .inr (Nat.le_trans h.fr.size h1)
  · intro a v ha id ho
    rcases hnew a v ha with h1 | h1
    · obtain ⟨e, sz, n, hm, hoff⟩ := h.muOwn a v h1 id ho
      have hid : id ∉ ids := fun q => by obtain ⟨g, cs, h2⟩ := hb id q; rw [hm] at h2; cases h2
      exact ⟨e, sz, n, by rw [updB_ne m m hid, hm], hoff⟩
    · have := (h.own _ _ ho).1; omega
  · exact fun b id ho => ⟨Nat.lt_of_lt_of_le (h.own b id ho).1 hfr.size, (h.own b id ho).2⟩
  · intro id g cs hi
    by_cases hid : id ∈ ids
    · obtain ⟨k, cs', g', cs0, h1, h2, h3, h4⟩ := hat id hid
      rw [h4] at hi
      injection hi with hi
      injection hi with hi1 hi2
      subst hi1 hi2
      obtain ⟨ho, _, _, _, _, hroom, _⟩ := h.box id g' cs0 h3
      obtain ⟨vs, e, k1, k2, k3, k4⟩ := hob.cells k (L.blk id) (L.room id) cs' (by simp [h1]) (by simp [h1]) h2
      refine ⟨ho, vs, e, k1, by simpa using k2, k3, fun i x hx => ?_⟩
      rw [List.getElem?_map] at hx
      cases hq : cs'[i]? with
      | none => rw [hq] at hx; cases hx
      | some y =>
        rw [hq] at hx
        simp at hx
        subst hx
        obtain ⟨v, q1, q2, q3⟩ := k4 i y hq
        exact ⟨v, q1, q2, .d q3⟩
    · rw [updB_ne m m hid] at hi
      obtain ⟨ho, vs, e, hh, hs, hroom, hv⟩ := h.box id g cs hi
      refine ⟨ho, vs, e, (hkeep _ _ ho hid).trans hh, hs, hroom, fun i x hx => ?_⟩
      obtain ⟨v, q1, q2, q3⟩ := hv i x hx
      exact ⟨v, q1, q2, q3.mono hle hst⟩
  · intro id e sz n hi
    have hid : id ∉ ids := fun q => by
      obtain ⟨k, cs', g', cs0, h1, h2, h3, h4⟩ := hat id q
      rw [h4] at hi; cases hi
    rw [updB_ne m m hid] at hi
    obtain ⟨h0, ⟨cells, hr⟩, ho⟩ := h.tok id e sz n hi
    exact ⟨h0, ⟨cells, rowAt_keep hr fun b hb' => hkeep b _ (ho b hb').1 hid⟩, ho⟩
  · intro id g cs hi
    have hid : id ∉ ids := fun q => by
      obtain ⟨k, cs', g', cs0, h1, h2, h3, h4⟩ := hat id q
      rw [h4] at hi; cases hi
    rw [updB_ne m m hid] at hi
    exact (h.froz id g cs hi).mono hle

/-- What a call has made is taken over. -/
theorem Inv.adopt (h : Inv c m μ L ow w) {d b e : Nat} {vs : Array Value} {cs : List D} (hd : m d = none) (hb : ow b = none) (hnew : c.w0.heap.size ≤ b) (hoff : ∀ a v, μ a = some v → a.block ≠ b)
    (hh : w.heap[b]? = some (.cells vs e (0, 0))) (hl : cs.length ≤ vs.size) (hv : ∀ (i : Nat) (x : D), cs[i]? = some x → ∃ v, vs[i]? = some v ∧ v.oneCell' = true ∧ RepD μ x v) :
    Inv c (setM m d (.box 0 (cs.map .d))) μ (L.setBlk d b vs.size) (setOw ow b d) w ∧ Stays L m (L.setBlk d b vs.size) (setM m d (.box 0 (cs.map .d))) := by
  have hst : Stays L m (L.setBlk d b vs.size) (setM m d (.box 0 (cs.map .d))) := Stays.new L hd _ _ (fun i hi => by simp [Loc.setBlk, hi]) (fun i hi => by simp [Loc.setBlk, hi]) (fun i _ => rfl)
  have hne : ∀ b' i, ow b' = some i → b' ≠ b := fun b' i ho q => by rw [q, hb] at ho; cases ho
  refine ⟨⟨h.fr, h.mu, h.mu0, h.muNew, ?_, ?_, ?_, ?_, ?_⟩, hst⟩
  · intro a v ha i hi
    unfold setOw at hi
    rw [if_neg (hoff a v ha)] at hi
    obtain ⟨e', sz, n, hm, ho⟩ := h.muOwn a v ha i hi
    have : d ≠ i := fun q => by rw [← q, hd] at hm; cases hm
    exact ⟨e', sz, n, by rw [setM_ne m _ this, hm], ho⟩
  · intro b' i hi
    unfold setOw at hi
    split at hi
    · rename_i q
      subst q
      exact ⟨(Array.getElem?_eq_some_iff.1 hh).1, .inl hnew⟩
    · exact h.own b' i hi
  · intro i g cs' hi
    by_cases he : d = i
    · subst he
      rw [setM_self] at hi
      injection hi with hi
      injection hi with hi1 hi2
      subst hi1 hi2
      refine ⟨by simp [Loc.setBlk, setOw], vs, e, by simpa [Loc.setBlk] using hh, by simpa using hl, by simp [Loc.setBlk], fun j x hx => ?_⟩
      rw [List.getElem?_map] at hx
      cases hq : cs[j]? with
      | none => rw [hq] at hx; cases hx
      | some y =>
        rw [hq] at hx
        simp at hx
        subst hx
        obtain ⟨v, q1, q2, q3⟩ := hv j y hq
        exact ⟨v, q1, q2, .d q3⟩
    · rw [setM_ne m _ he] at hi
      obtain ⟨ho, vs', e', hh', hs', hr', hv'⟩ := h.box i g cs' hi
      have he' : i ≠ d := fun q => he q.symm
      refine ⟨by simp [Loc.setBlk, he', setOw, hne _ _ ho, ho], vs', e', by simpa [Loc.setBlk, he'] using hh', hs', by simp [Loc.setBlk, he', hr'], fun j x hx => ?_⟩
      obtain ⟨v, h1, h2, h3⟩ := hv' j x hx
      exact ⟨v, h1, h2, h3.mono (Mu.le_refl _) hst⟩
  · intro i e' sz n hi
    have he : d ≠ i := fun q => by subst q; rw [setM_self] at hi; cases hi
    rw [setM_ne m _ he] at hi
    obtain ⟨h0, h1, h2⟩ := h.tok i e' sz n hi
    exact ⟨h0, h1, fun b' hb' => ⟨by simp [setOw, hne _ _ (h2 b' hb').1, (h2 b' hb').1], (h2 b' hb').2⟩⟩
  · intro i g cs' hi
    have he : d ≠ i := fun q => by subst q; rw [setM_self] at hi; cases hi
    have he' : i ≠ d := fun q => he q.symm
    rw [setM_ne m _ he] at hi
    simpa [Loc.setBlk, he'] using h.froz i g cs' hi
end
end Go.Pm
