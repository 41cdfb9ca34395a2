/- The abstract machine 'Pm', part S: a drawn region behaves as its text order, where 'drawOK' says so. -/
import Derived.Test.YtnkknmdpakebhaaPmR
set_option linter.unusedSimpArgs false
set_option linter.unusedVariables false
namespace Go.Pm
open Go.RowKit

theorem unl_pairwise (n : Nat) (listed : Array Bool) : (unl n listed).Pairwise (· < ·) := List.Pairwise.filter _ List.pairwise_lt_range
theorem mem_unl {n : Nat} {listed : Array Bool} {i : Nat} : i ∈ unl n listed ↔ i < n ∧ listed.getD i true = false := by simp [unl]
theorem getD_set {listed : Array Bool} {i j : Nat} {d : Bool} (hi : i < listed.size) : (listed.setIfInBounds i true).getD j d = if i = j then true else listed.getD j d := by
  rw [Array.getD_eq_getD_getElem?, Array.getElem?_setIfInBounds]
  split
  · simp [hi]
  · rw [Array.getD_eq_getD_getElem?]
theorem unl_set {n : Nat} {listed : Array Bool} {i : Nat} {A B : List Nat} (hi : i < listed.size) (h : unl n listed = A ++ i :: B) : unl n (listed.setIfInBounds i true) = A ++ B := by
  have hp := unl_pairwise n listed
  have hf : unl n (listed.setIfInBounds i true) = (unl n listed).filter fun j => j != i := by
    unfold unl
    rw [List.filter_filter]
    refine List.filter_congr fun j hj => ?_
    rw [getD_set hi]
    by_cases h : i = j
    · subst h; simp
    · have : ¬ j = i := fun e => h e.symm
      simp [h, this]
  rw [hf, h]
  rw [h] at hp
  rw [List.pairwise_append] at hp
  obtain ⟨h1, h2, h3⟩ := hp
  rw [List.pairwise_cons] at h2
  rw [List.filter_append, List.filter_cons, List.filter_eq_self.2 (fun a ha => by have := h3 a ha i List.mem_cons_self; simp; omega), List.filter_eq_self.2 (fun a ha => by have := h2.1 a ha; simp; omega)]
  simp
theorem getD_ff {listed : Array Bool} {i : Nat} (hi : i < listed.size) (d d' : Bool) : listed.getD i d = listed.getD i d' := by simp [Array.getD, hi]
theorem wpAny_of {x : X} {c : Ctx} {ops : Array Oper} {Q : Exit → Act → World → Prop} {K : St → Prop} (hOK : drawOK ops = true) (hK : ∀ σ σ', Alike σ σ' → K σ → K σ') (hQ : ∀ σ a w, K σ → Sim c σ a w → Q .normal a w) :
    ∀ (fuel : Nat) (listed : Array Bool) (σ : St) (a : Act) (w : World), listed.size = ops.size → Closed ops listed → Tr x c.n ops (unl ops.size listed) σ K → Sim c σ a w → (unl ops.size listed).length ≤ fuel → wpAny x.P .any ops Q fuel listed a w := by
  obtain ⟨g1, g2⟩ := drawOK_ok hOK
  have hend : ∀ (listed : Array Bool) (σ : St) (a : Act) (w : World), listed.size = ops.size → Closed ops listed → Tr x c.n ops (unl ops.size listed) σ K → Sim c σ a w → Region.ready .any ops listed = [] → Q .normal a w := by
    intro listed σ a w hsz hcl htr hs hr
    cases hu : unl ops.size listed with
    | nil => rw [hu] at htr; exact hQ σ a w htr hs
    | cons i r =>
      exfalso
      have hp := unl_pairwise ops.size listed
      have hi : i ∈ unl ops.size listed := by rw [hu]; exact List.mem_cons_self
      obtain ⟨h1, h2⟩ := mem_unl.1 hi
      have hmin : ∀ j, j < i → listed.getD j false = true := by
        intro j hj
        by_cases hl : listed.getD j true = false
        · have : j ∈ unl ops.size listed := mem_unl.2 ⟨by omega, hl⟩
          rw [hu] at this hp
          rcases List.mem_cons.1 this with h3 | h3
          · omega
          · have := (List.pairwise_cons.1 hp).1 j h3; omega
        · rw [getD_ff (by omega) false true]; simpa using hl
      have : i ∈ Region.ready .any ops listed := mem_ready.2 ⟨h1, h2, ops[i], Array.getElem?_eq_getElem h1, fun e he hb => hmin _ ((g1 i _ (Array.getElem?_eq_getElem h1)).2 e he hb)⟩
      rw [hr] at this
      cases this
  intro fuel
  induction fuel with
  | zero =>
    intro listed σ a w hsz hcl htr hs hl
    have hu : unl ops.size listed = [] := List.eq_nil_of_length_eq_zero (by omega)
    have hr : Region.ready .any ops listed = [] := by
      cases hr : Region.ready .any ops listed with
      | nil => rfl
      | cons i r =>
        have hi := mem_ready.1 (show i ∈ Region.ready .any ops listed by rw [hr]; exact List.mem_cons_self)
        have : i ∈ unl ops.size listed := mem_unl.2 ⟨hi.1, hi.2.1⟩
        rw [hu] at this
        cases this
    exact ⟨hr, hend listed σ a w hsz hcl htr hs hr⟩
  | succ fuel ih =>
    intro listed σ a w hsz hcl htr hs hl
    refine ⟨hend listed σ a w hsz hcl htr hs, fun i hi => ?_⟩
    obtain ⟨h1, h2, o, ho, hdeps⟩ := mem_ready.1 hi
    obtain ⟨A, B, hu⟩ := List.append_of_mem (mem_unl.2 ⟨h1, h2⟩ : i ∈ unl ops.size listed)
    have hp := unl_pairwise ops.size listed
    rw [hu] at hp htr hl
    have hA : ∀ b ∈ A, b < i := fun b hb => (List.pairwise_append.1 hp).2.2 b hb i List.mem_cons_self
    have hfree : ∀ b ∈ A, free ops b i := by
      intro b hb
      rcases g2 b i (hA b hb) with h3 | h3
      · exfalso
        have hb' : b ∈ unl ops.size listed := by rw [hu]; exact List.mem_append_left _ hb
        have hb2 := (mem_unl.1 hb').2
        rw [getD_ff (by have := (mem_unl.1 hb').1; omega) true false] at hb2
        have : listed.getD b false = true := by
          cases h3 with
          | one ho' he hbd =>
            rw [ho] at ho'
            injection ho' with ho'
            subst ho'
            exact hdeps _ he hbd
          | more ho' he hbd hd =>
            rw [ho] at ho'
            injection ho' with ho'
            subst ho'
            exact hcl.dep hd (hdeps _ he hbd)
        rw [this] at hb2
        cases hb2
      · exact h3
    obtain ⟨o', out, u, ho', hact, htr'⟩ := bubble hK A σ ⟨c, a, w, hs, rfl⟩ hfree htr
    refine Act1.sound ho' hs hact fun a' w' hs' => ?_
    have hsz' : i < listed.size := by omega
    refine ih (listed.setIfInBounds i true) _ a' w' (by simpa using hsz) ?_ (by rw [unl_set hsz' hu]; exact htr') hs' ?_
    · intro j q hq hj e he hb
      rw [getD_set hsz'] at hj ⊢
      split
      · rfl
      · split at hj
        · rename_i e1
          subst e1
          rw [ho] at hq
          injection hq with hq
          subst hq
          exact hdeps e he hb
        · exact hcl j q hq hj e he hb
    · rw [unl_set hsz' hu]
      simp only [List.length_append, List.length_cons] at hl ⊢
      omega
/-- A drawn region. -/
theorem wp_draw {x : X} {c : Ctx} {ops : Array Oper} {id : Nat} {Q : Exit → Act → World → Prop} {K : St → Prop} {σ : St} {a : Act} {w : World} (hm : x.P.follows .mixedOrders = true) (hOK : drawOK ops = true) (hK : ∀ σ σ', Alike σ σ' → K σ → K σ') (hQ : ∀ σ a w, K σ → Sim c σ a w → Q .normal a w)
    (h : WOps x c.n false ops ops.toList σ K) (hs : Sim c σ a w) : (Code.region id ops true).wp x.P Q a w := by
  refine wp_region_any hm (wpAny_of hOK hK hQ ops.size _ σ a _ (by simp) ?_ ?_ ?_ ?_)
  · intro j o ho hj
    have : (Array.replicate ops.size false).getD j false = false := by
      simp [Array.getD]
    rw [this] at hj
    cases hj
  · have hu : unl ops.size (Array.replicate ops.size false) = List.range ops.size := by
      unfold unl
      refine List.filter_eq_self.2 fun j hj => ?_
      have := List.mem_range.1 hj
      simp [Array.getD, this]
    rw [hu, List.range_eq_range', ← Array.length_toList]
    exact Tr_of ops.toList 0 σ K (by simp) h
  · obtain ⟨μ, L, ow, hi, he⟩ := hs
    exact ⟨μ, L, ow, hi.drew, he⟩
  · refine Nat.le_trans (List.length_filter_le _ _) ?_
    simp
end Go.Pm
