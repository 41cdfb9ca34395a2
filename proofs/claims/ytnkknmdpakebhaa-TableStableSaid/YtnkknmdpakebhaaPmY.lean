/- The abstract machine 'Pm', part Y: contracts. -/
import Derived.Test.YtnkknmdpakebhaaPmW
import Derived.Deep.LoopGhost
set_option linter.unusedSimpArgs false
set_option linter.unusedVariables false
namespace Go.Pm
open Go.RowKit

/-! ### Contracts -/
def D.le (x y : D) : Prop := ∀ μ v, RepD μ x v → RepD μ y v
theorem D.le_refl (x : D) : D.le x x := fun _ _ h => h
theorem D.nil_le : D.le .nil (.slice []) := fun _ _ h => h.of_nil
inductive LeL : List D → List D → Prop
  | nil : LeL [] []
  | cons {x y : D} {xs ys : List D} (h : D.le x y) (t : LeL xs ys) : LeL (x :: xs) (y :: ys)
theorem LeL.refl : ∀ xs : List D, LeL xs xs
  | [] => .nil
  | x :: xs => .cons (D.le_refl x) (LeL.refl xs)
theorem RepV.le {μ : Mu} {xs ys : List D} {vs : List Value} (h : RepV μ xs vs) (hl : LeL xs ys) : RepV μ ys vs := by
  induction hl generalizing vs with
  | nil => exact h
  | cons h1 t ih =>
    cases h with
    | cons h2 t2 => exact .cons (h1 _ _ h2) (ih t2)
inductive RepR (μ : Mu) : List D → Value → Prop
  | one {x : D} {v : Value} (h : RepD μ x v) : RepR μ [x] v
  | many {xs : List D} {vs : List Value} (hn : xs.length ≠ 1) (h : RepV μ xs vs) : RepR μ xs (.tuple vs.toArray)
def resT : List D → T
  | [x] => .d x
  | xs => .tup (xs.map .d)
theorem RepR.rep {μ : Mu} {L : Loc} {m : Mem} {rs : List D} {v : Value} (h : RepR μ rs v) : RepT μ L m (resT rs) v := by
  cases h with
  | one h => exact .d h
  | @many _ vs hn h =>
    have : resT rs = .tup (rs.map .d) := by
      unfold resT
      split
      · simp at hn
      · rfl
    rw [this]
    refine .tup (by rw [h.length]; simp) fun i x hx => ?_
    rw [List.getElem?_map] at hx
    cases hq : rs[i]? with
    | none => rw [hq] at hx; cases hx
    | some y =>
      rw [hq] at hx
      simp at hx
      subst hx
      obtain ⟨v, h1, h2⟩ := h.get i y hq
      have : vs.getD i undef = v := by rw [List.getD_eq_getElem?_getD, h1]; rfl
      rw [this]
      exact .d h2

/-- What a call leaves: its results, in a snapshot that has taken in new blocks alone; all that was there as it was. -/
def Left (w0 : World) (μ0 : Mu) (rs : List D) (e : Ending) (w' : World) : Prop :=
  ∃ v μ', e = .returned v ∧ RepR μ' rs v ∧ Mu.le μ0 μ' ∧ (∀ a u, μ' a = some u → w'.cell? a = some u) ∧ (∀ a u, μ' a = some u → μ0 a = some u ∨ w0.heap.size ≤ a.block) ∧ Fr w0 (fun _ => False) w'
/-- Called with these data the function answers these. -/
def Spec (P : Program) (g : FuncId) (ys rs : List D) : Prop :=
  ∀ (w0 : World) (μ0 : Mu) (vs : List Value), (∀ a u, μ0 a = some u → w0.cell? a = some u) → RepV μ0 ys vs →
    ((callFunc g vs.toArray).run P w0 = .ok (.enter g vs.toArray) w0 ∧ Calls P g vs.toArray w0 (Left w0 μ0 rs)) ∨
    (∃ v, (callFunc g vs.toArray).run P w0 = .ok (.value v) w0 ∧ RepR μ0 rs v)


/-! ### Contracts of functions that write what they are handed -/
inductive A where
  | d (x : D)
  | obj (k off : Nat)
  | view (k sz off n : Nat)
inductive R where
  | d (x : D)
  | fresh (sz n : Nat) (cs : List D)
inductive RepA (μ : Mu) (bs rm : List Nat) : A → Value → Prop
  | d {x : D} {v : Value} (h : RepD μ x v) : RepA μ bs rm (.d x) v
  | obj {k off b : Nat} (hb : bs[k]? = some b) : RepA μ bs rm (.obj k off) (.pointer (some ⟨b, off, none⟩))
  | view {k sz off n b r cap : Nat} {A : Addr} (hb : bs[k]? = some b) (hr : rm[k]? = some r) (hA : 0 < cap → A = ⟨b, off, none⟩) (h1 : off + cap * sz ≤ r) (h2 : n ≤ cap) (h3 : cap ≤ maxLen) : RepA μ bs rm (.view k sz off n) (.slice (some A) n cap)
inductive RepAs (μ : Mu) (bs rm : List Nat) : List A → List Value → Prop
  | nil : RepAs μ bs rm [] []
  | cons {x : A} {xs : List A} {v : Value} {l : List Value} (h : RepA μ bs rm x v) (t : RepAs μ bs rm xs l) : RepAs μ bs rm (x :: xs) (v :: l)
theorem RepAs.length {μ : Mu} {bs rm : List Nat} {xs : List A} {l : List Value} (h : RepAs μ bs rm xs l) : l.length = xs.length := by
  induction h with
  | nil => rfl
  | cons _ _ ih => simp [ih]
theorem RepAs.get {μ : Mu} {bs rm : List Nat} {xs : List A} {l : List Value} (h : RepAs μ bs rm xs l) : ∀ (i : Nat) (x : A), xs[i]? = some x → ∃ v, l[i]? = some v ∧ RepA μ bs rm x v := by
  induction h with
  | nil => simp
  | cons h t ih =>
    intro i x hx
    cases i with
    | zero => simp at hx; subst hx; exact ⟨_, rfl, h⟩
    | succ i => simpa using ih i x (by simpa using hx)
theorem RepAs.append {μ : Mu} {bs rm : List Nat} {xs ys : List A} {us vs : List Value} (h : RepAs μ bs rm xs us) (k : RepAs μ bs rm ys vs) : RepAs μ bs rm (xs ++ ys) (us ++ vs) := by
  induction h with
  | nil => exact k
  | cons h3 t ih => exact .cons h3 ih
theorem RepV.toA {μ : Mu} {bs rm : List Nat} {xs : List D} {vs : List Value} (h : RepV μ xs vs) : RepAs μ bs rm (xs.map .d) vs := by
  induction h with
  | nil => exact .nil
  | cons h t ih => exact .cons (.d h) ih
/-- Blocks of cells, each with its data at its beginning. -/
structure Objs (w : World) (μ : Mu) (bs rm : List Nat) (css : List (List D)) : Prop where
  len : bs.length = css.length
  rlen : rm.length = css.length
  nodup : bs.Nodup
  off : ∀ a v, μ a = some v → a.block ∉ bs
  cells : ∀ (k b r : Nat) (cs : List D), bs[k]? = some b → rm[k]? = some r → css[k]? = some cs → ∃ vs e, w.heap[b]? = some (.cells vs e (0, 0)) ∧ cs.length ≤ vs.size ∧ vs.size = r ∧
    ∀ (i : Nat) (x : D), cs[i]? = some x → ∃ v, vs[i]? = some v ∧ v.oneCell' = true ∧ RepD μ x v
inductive RepR1 (w0 w : World) (μ : Mu) : R → Value → Prop
  | d {x : D} {v : Value} (h : RepD μ x v) : RepR1 w0 w μ (.d x) v
  | fresh {sz n b cap e : Nat} {A : Addr} {cs : List D} {vs : Array Value} (hA : 0 < cap → A = ⟨b, 0, none⟩) (h0 : w0.heap.size ≤ b) (hoff : ∀ a v, μ a = some v → a.block ≠ b) (hh : w.heap[b]? = some (.cells vs e (0, 0))) (hl : cs.length ≤ vs.size) (hc : cap * sz ≤ vs.size) (hn : n ≤ cap) (hm : cap ≤ maxLen)
      (hv : ∀ (i : Nat) (x : D), cs[i]? = some x → ∃ v, vs[i]? = some v ∧ v.oneCell' = true ∧ RepD μ x v) : RepR1 w0 w μ (.fresh sz n cs) (.slice (some A) n cap)
inductive RepRs (w0 w : World) (μ : Mu) : List R → List Value → Prop
  | nil : RepRs w0 w μ [] []
  | cons {x : R} {xs : List R} {v : Value} {l : List Value} (h : RepR1 w0 w μ x v) (t : RepRs w0 w μ xs l) : RepRs w0 w μ (x :: xs) (v :: l)
theorem RepRs.length {w0 w : World} {μ : Mu} {xs : List R} {l : List Value} (h : RepRs w0 w μ xs l) : l.length = xs.length := by
  induction h with
  | nil => rfl
  | cons _ _ ih => simp [ih]
theorem RepRs.get {w0 w : World} {μ : Mu} {xs : List R} {l : List Value} (h : RepRs w0 w μ xs l) : ∀ (i : Nat) (x : R), xs[i]? = some x → ∃ v, l[i]? = some v ∧ RepR1 w0 w μ x v := by
  induction h with
  | nil => simp
  | cons h t ih =>
    intro i x hx
    cases i with
    | zero => simp at hx; subst hx; exact ⟨_, rfl, h⟩
    | succ i => simpa using ih i x (by simpa using hx)
inductive RepRR (w0 w : World) (μ : Mu) : List R → Value → Prop
  | one {x : R} {v : Value} (h : RepR1 w0 w μ x v) : RepRR w0 w μ [x] v
  | many {xs : List R} {vs : List Value} (hn : xs.length ≠ 1) (h : RepRs w0 w μ xs vs) : RepRR w0 w μ xs (.tuple vs.toArray)
def LeftR (w0 : World) (μ0 : Mu) (bs rm : List Nat) (rs : List R) (css' : List (List D)) (e : Ending) (w' : World) : Prop :=
  ∃ v μ', e = .returned v ∧ RepRR w0 w' μ' rs v ∧ Mu.le μ0 μ' ∧ (∀ a u, μ' a = some u → w'.cell? a = some u) ∧ (∀ a u, μ' a = some u → μ0 a = some u ∨ w0.heap.size ≤ a.block) ∧ Fr w0 (· ∈ bs) w' ∧ Objs w' μ' bs rm css'
/-- Called with these arguments, what they lead to being css, the function answers rs and leaves css'. -/
def SpecR (P : Program) (g : FuncId) (as : List A) (css : List (List D)) (rs : List R) (css' : List (List D)) : Prop :=
  ∀ (w0 : World) (μ0 : Mu) (bs rm : List Nat) (vs : List Value), (∀ a u, μ0 a = some u → w0.cell? a = some u) → (∀ b ∈ bs, b < w0.heap.size) → Objs w0 μ0 bs rm css → RepAs μ0 bs rm as vs →
    (callFunc g vs.toArray).run P w0 = .ok (.enter g vs.toArray) w0 ∧ Calls P g vs.toArray w0 (LeftR w0 μ0 bs rm rs css')
end Go.Pm
