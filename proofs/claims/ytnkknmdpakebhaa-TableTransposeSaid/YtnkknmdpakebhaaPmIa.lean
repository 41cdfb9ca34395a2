/- slices: insertion sort. -/
import Derived.Test.YtnkknmdpakebhaaPmHc
set_option linter.unusedSimpArgs false
set_option linter.unusedVariables false
set_option maxHeartbeats 4000000
namespace Go.Proofs.Ytnkknmdpakebhaa
open Go Go.Pm
attribute [local irreducible] WC WOps WOpsG
attribute [local go_sem] WOps WOp callOf gtmp gval gvalT evOp evBuiltin binT St.ev constT St.m envOf Go.Pm.look St.upd St.putO St.put St.set allT allP T.toD unD1 T.cells T.asSlice D.cells D.sz eqTy binD unD cvD cv2 fillD ldT ldD TyI.agg allD splice isSome' cut bnd resT resOf Done Option.all_some Option.all_none Option.getD_some Option.getD_none Option.bind_some Option.bind_none Option.map_some Option.map_none List.map List.map_cons List.map_nil List.cons_append List.nil_append List.append_nil List.take_succ_cons List.drop_succ_cons List.take_zero List.drop_zero List.take_nil List.drop_nil List.head?_cons List.length_cons List.length_nil List.getElem?_cons_zero List.getElem?_cons_succ List.getElem?_toArray List.all_cons List.all_nil ite_true ite_false if_true if_false Bool.not_false Bool.not_true decide_true decide_false and_true true_and and_self false_and and_false Bool.and_true Bool.true_and Bool.or_true Bool.true_or List.size_toArray seqFrom beq_self_eq_true BEq.rfl eq_self Nat.succ_ne_self false_or or_false Nat.zero_add Nat.add_zero Nat.not_lt_zero Nat.one_ne_zero tab1_2 tab1_3 tab1_4 tab1_5 tab1_9 tab1_22 tab1_24 tab1_25 tab1_27 tab1_30 tab1_54 tab1_57 tab1_78 tab1_85
def insR (c : Int → Int → Int) : List Int → Int → List Int
  | [], x => [x]
  | y :: r, x => if c x y < 0 then y :: insR c r x else x :: y :: r
def ins (c : Int → Int → Int) (s : List Int) (x : Int) : List Int := (insR c s.reverse x).reverse
def isort (c : Int → Int → Int) (l : List Int) : List Int := l.foldl (ins c) []
theorem insR_length (c : Int → Int → Int) : ∀ (r : List Int) (x : Int), (insR c r x).length = r.length + 1
  | [], x => rfl
  | y :: r, x => by unfold insR; split <;> simp [insR_length c r x]
theorem ins_length (c : Int → Int → Int) (s : List Int) (x : Int) : (ins c s x).length = s.length + 1 := by simp [ins, insR_length]
theorem isort_snoc (c : Int → Int → Int) (l : List Int) (x : Int) : isort c (l ++ [x]) = ins c (isort c l) x := by simp [isort]
theorem isort_length (c : Int → Int → Int) (l : List Int) : (isort c l).length = l.length := by
  unfold isort
  suffices h : ∀ (l s : List Int), (l.foldl (ins c) s).length = s.length + l.length by simpa using h l []
  intro l
  induction l with
  | nil => simp
  | cons x r ih => intro s; simp [ih, ins_length]; omega
theorem insR_mem (c : Int → Int → Int) : ∀ (r : List Int) (x z : Int), z ∈ insR c r x ↔ z = x ∨ z ∈ r
  | [], x, z => by simp [insR]
  | y :: r, x, z => by
    unfold insR
    split
    · simp only [List.mem_cons, insR_mem c r x z]; grind
    · simp
theorem ins_mem (c : Int → Int → Int) (s : List Int) (x z : Int) : z ∈ ins c s x ↔ z = x ∨ z ∈ s := by simp [ins, insR_mem]
theorem isort_mem (c : Int → Int → Int) (l : List Int) (z : Int) : z ∈ isort c l ↔ z ∈ l := by
  unfold isort
  suffices h : ∀ (l s : List Int), z ∈ l.foldl (ins c) s ↔ z ∈ l ∨ z ∈ s by simpa using h l []
  intro l
  induction l with
  | nil => simp
  | cons x r ih => intro s; simp only [List.foldl_cons, ih, ins_mem, List.mem_cons]; grind
abbrev arT (L : List Int) : List T := (L.map (D.int .i64)).map T.d
theorem ar_head {L : List Int} {j : Nat} (h : j < L.length) : (((L.map (D.int .i64)).map T.d).drop j).head? = some (.d (.int .i64 L[j])) := by
  rw [List.head?_drop]; simp [h]
theorem ar_set {L : List Int} {j : Nat} (v : Int) (h : j < L.length) : ((L.map (D.int .i64)).map T.d).take j ++ [.d (.int .i64 v)] ++ ((L.map (D.int .i64)).map T.d).drop (j + 1) = ((L.set j v).map (D.int .i64)).map T.d := by
  rw [List.set_eq_take_append_cons_drop, if_pos h]
  simp
theorem ar_len (L : List Int) : ((L.map (D.int .i64)).map T.d).length = L.length := by simp
theorem swap_eq (P Q : List Int) (x y : Int) : ((P ++ y :: x :: Q).set (P.length + 1) y).set P.length x = P ++ x :: y :: Q := by
  rw [List.set_append_right _ _ (by omega)]
  simp
theorem ar_at {L P Q : List Int} {z : Int} {j : Nat} (h : L = P ++ z :: Q) (hj : j = P.length) : (((L.map (D.int .i64)).map T.d).drop j).head? = some (.d (.int .i64 z)) := by
  subst h hj
  rw [List.head?_drop]; simp
theorem insertion_spec (c : Int → Int → Int) (g : FuncId) (caps : List D) (pre mid post : List Int) (nn : Nat) (hn : nn = pre.length + mid.length + post.length) (hmax : nn ≤ 140737488355328)
    (hc' : ∀ x ∈ mid, ∀ y ∈ mid, Pm.Spec X0.P g (.int .i64 x :: .int .i64 y :: caps) [.int .i64 (c x y)]) :
    Pm.SpecR X0.P 86 [.view 0 1 0 nn, .d (.int .i64 (pre.length : Nat)), .d (.int .i64 (pre.length + mid.length : Nat)), .d (.fn g caps)] [(pre ++ mid ++ post).map (D.int .i64)] [] [(pre ++ isort c mid ++ post).map (D.int .i64)] := by
  refine SpecR.of (x := X1) fn86 rfl rfl (by show 4 ≤ 53; decide) (.inl rfl) ?_
  show WC X1 53 _ _ _
  simp only [envA, memOf, A.t, oid, Nat.reduceAdd, Nat.zero_add]
  have hw : ∀ i : Nat, i ≤ nn → IntKind.i64.wrap ((i : Int) + 1) = ((i + 1 : Nat) : Int) := fun i h => by
    rw [IntKind.wrap_i64]; omega
  have hwp : ∀ i : Nat, 0 < i → i ≤ nn → IntKind.i64.wrap ((i : Int) - 1) = ((i - 1 : Nat) : Int) := fun i h h' => by
    rw [IntKind.wrap_i64]; omega
  (repeat refine wc_assoc ?_); refine wc_then (by simp only [hw pre.length (by omega), go_sem, Nat.reduceAdd, Nat.reduceBEq, Nat.reduceEqDiff, Nat.reduceLT, Nat.reduceLeDiff, Nat.reduceMul, Nat.reduceSub, reduceCtorEq, reduceIte] <;> rfl) ?_
  refine wc_loopLast (σ0 := ⟨[(0, .view 900000 0 1 0 nn), (1, .d (.int .i64 (pre.length : Nat))), (2, .d (.int .i64 (pre.length + mid.length : Nat))), (3, .d (.fn g caps)), (8, .d (.int .i64 (pre.length + 1 : Nat)))], [(900000, .box 0 (((pre ++ mid ++ post).map (D.int .i64)).map T.d))]⟩)
    (fun m σ => ∃ (i : Nat) (L : List Int), pre.length + 1 ≤ i ∧ m + i = pre.length + mid.length + 1 ∧ L = pre ++ isort c (mid.take (i - pre.length)) ++ (mid.drop (i - pre.length) ++ post) ∧ σ = ⟨[(0, .view 900000 0 1 0 nn), (1, .d (.int .i64 (pre.length : Nat))), (2, .d (.int .i64 (pre.length + mid.length : Nat))), (3, .d (.fn g caps)), (8, .d (.int .i64 (i : Nat)))], [(900000, .box 0 ((L.map (D.int .i64)).map T.d))]⟩) mid.length
    (gh_keep [0, 1, 2, 3, 8] [900000] rfl (by simp [St.keep, St.kp, Go.Pm.look, lowO, lowT, isSome', Function.comp_def, St.set, St.put, D.cells])) ⟨pre.length + 1, _, by omega, by omega, ?_, rfl⟩ ?_
  · cases mid with
    | nil => simp [isort]
    | cons x r => simp [isort, ins, insR]
  rintro m σ ⟨i, L, hi, hm, hL, rfl⟩
  (repeat refine wc_assoc ?_); refine wc_then (by simp only [go_sem, Nat.reduceAdd, Nat.reduceBEq, Nat.reduceEqDiff, Nat.reduceLT, Nat.reduceLeDiff, Nat.reduceMul, Nat.reduceSub, reduceCtorEq, reduceIte] <;> rfl) ?_
  (repeat refine wc_assoc ?_); refine wc_condThen (by simp only [go_sem, Nat.reduceAdd, Nat.reduceBEq, Nat.reduceEqDiff, Nat.reduceLT, Nat.reduceLeDiff, Nat.reduceMul, Nat.reduceSub, reduceCtorEq, reduceIte] <;> rfl) (fun hc => ?_) (fun hc => ?_)
  · have hib : i < pre.length + mid.length := by simp at hc; omega
    refine wc_skip ?_
    refine wc_blockThen ?_
    (repeat refine wc_assoc ?_); refine wc_then (by simp only [go_sem, Nat.reduceAdd, Nat.reduceBEq, Nat.reduceEqDiff, Nat.reduceLT, Nat.reduceLeDiff, Nat.reduceMul, Nat.reduceSub, reduceCtorEq, reduceIte] <;> rfl) ?_
    obtain ⟨k, hk⟩ : ∃ k, k = i - pre.length := ⟨_, rfl⟩
    have hkm : k < mid.length := by omega
    rw [← hk] at hL
    have hs : (isort c (mid.take k)).length = k := by rw [isort_length, List.length_take]; omega
    have hsm : ∀ z ∈ isort c (mid.take k), z ∈ mid := fun z hz => List.mem_of_mem_take ((isort_mem c _ z).1 hz)
    have hnext : isort c (mid.take (k + 1)) = ins c (isort c (mid.take k)) mid[k] := by
      rw [List.take_add_one]; simp only [List.getElem?_eq_getElem hkm, Option.toList_some]; exact isort_snoc _ _ _
    rw [List.drop_eq_getElem_cons hkm] at hL
    have hxm : mid[k] ∈ mid := List.getElem_mem hkm
    generalize mid[k] = x at *
    generalize isort c (mid.take k) = s at *
    generalize hrest : mid.drop (k + 1) ++ post = rest at *
    have hrl : pre.length + k + 1 + rest.length = nn := by rw [← hrest]; simp; omega
    generalize hK : BlkK X1 53 1 _ _ = K
    have hdone : ∀ (σ' : St) (L : List Int), L = pre ++ ins c s x ++ rest → Gh X1.refs σ' ⟨[(0, .view 900000 0 1 0 nn), (1, .d (.int .i64 (pre.length : Nat))), (2, .d (.int .i64 (pre.length + mid.length : Nat))), (3, .d (.fn g caps)), (8, .d (.int .i64 (i : Nat)))], [(900000, .box 0 ((L.map (D.int .i64)).map T.d))]⟩ → K .normal σ' := by
      intro σ' L hL hg
      subst hK
      refine blk_normal ?_
      refine wc_lastG hg (by simp only [go_sem, Nat.reduceAdd, Nat.reduceBEq, Nat.reduceEqDiff, Nat.reduceLT, Nat.reduceLeDiff, Nat.reduceMul, Nat.reduceSub, reduceCtorEq, reduceIte] <;> rfl) ?_
      refine loopE_next (σ1 := ⟨[(0, .view 900000 0 1 0 nn), (1, .d (.int .i64 (pre.length : Nat))), (2, .d (.int .i64 (pre.length + mid.length : Nat))), (3, .d (.fn g caps)), (8, .d (.int .i64 (i + 1 : Nat)))], [(900000, .box 0 ((L.map (D.int .i64)).map T.d))]⟩) (m - 1) (by omega) (gh_keep [0, 1, 2, 3, 8] [900000] rfl (by rw [hw i (by omega)]; exact (by simp [St.keep, St.kp, Go.Pm.look, lowO, lowT, isSome', Function.comp_def, St.set, St.put, D.cells]))) ⟨i + 1, L, by omega, by omega, ?_, rfl⟩
      rw [show i + 1 - pre.length = k + 1 by omega, hnext, hL, ← hrest]
    clear hK
    refine wc_loopLast (σ0 := ⟨[(0, .view 900000 0 1 0 nn), (1, .d (.int .i64 (pre.length : Nat))), (2, .d (.int .i64 (pre.length + mid.length : Nat))), (3, .d (.fn g caps)), (8, .d (.int .i64 (i : Nat))), (9, .d (.int .i64 (i : Nat)))], [(900000, .box 0 ((L.map (D.int .i64)).map T.d))]⟩)
      (fun m σ => ∃ (j : Nat) (s1 s2 L : List Int), m = s1.length ∧ j = pre.length + s1.length ∧ s = s1 ++ s2 ∧ insR c s.reverse x = s2.reverse ++ insR c s1.reverse x ∧ L = pre ++ s1 ++ x :: (s2 ++ rest) ∧ σ = ⟨[(0, .view 900000 0 1 0 nn), (1, .d (.int .i64 (pre.length : Nat))), (2, .d (.int .i64 (pre.length + mid.length : Nat))), (3, .d (.fn g caps)), (8, .d (.int .i64 (i : Nat))), (9, .d (.int .i64 (j : Nat)))], [(900000, .box 0 ((L.map (D.int .i64)).map T.d))]⟩) s.length
      (gh_keep [0, 1, 2, 3, 8, 9] [900000] rfl (by simp [St.keep, St.kp, Go.Pm.look, lowO, lowT, isSome', Function.comp_def, St.set, St.put, D.cells])) ⟨i, s, [], L, rfl, by omega, by simp, by simp, by rw [hL, ← hrest]; simp, rfl⟩ ?_
    rintro m σ ⟨j, s1, s2, L, hm, hj, hss, hI, hL, rfl⟩
    have hLl : L.length = nn := by rw [hL]; have := congrArg List.length hss; simp at this ⊢; omega
    have hjn : j < nn := by have := congrArg List.length hss; simp at this; omega
    rcases List.eq_nil_or_concat s1 with h1 | ⟨s1', y, h1⟩
    · subst h1
      have d1 : decide ((j : Int) > (pre.length : Int)) = false := by simp at hj ⊢; omega
      refine wc_assoc (wc_thenD (by rfl) (by repeat (first
    | (apply wo_op (hg := rfl) (hc := rfl) (hd := rfl); (simp only [d1, go_sem, Nat.reduceAdd, Nat.reduceBEq, Nat.reduceEqDiff, Nat.reduceLT, Nat.reduceLeDiff, Nat.reduceMul, Nat.reduceSub, reduceCtorEq, reduceIte] <;> rfl); (simp only [go_sem, Nat.reduceAdd, Nat.reduceBEq, Nat.reduceEqDiff, Nat.reduceLT, Nat.reduceLeDiff, Nat.reduceMul, Nat.reduceSub, reduceCtorEq, reduceIte] <;> rfl))
    | (apply wo_eff (hg := rfl) (hc := rfl) (hd := rfl); (simp only [d1, go_sem, Nat.reduceAdd, Nat.reduceBEq, Nat.reduceEqDiff, Nat.reduceLT, Nat.reduceLeDiff, Nat.reduceMul, Nat.reduceSub, reduceCtorEq, reduceIte] <;> rfl); (simp only [go_sem, Nat.reduceAdd, Nat.reduceBEq, Nat.reduceEqDiff, Nat.reduceLT, Nat.reduceLeDiff, Nat.reduceMul, Nat.reduceSub, reduceCtorEq, reduceIte] <;> rfl))
    | (apply wo_gT (hg := rfl); (simp only [d1, go_sem, Nat.reduceAdd, Nat.reduceBEq, Nat.reduceEqDiff, Nat.reduceLT, Nat.reduceLeDiff, Nat.reduceMul, Nat.reduceSub, reduceCtorEq, reduceIte] <;> rfl))
    | (apply wo_gU (hg := rfl) (hd := rfl); (simp only [d1, go_sem, Nat.reduceAdd, Nat.reduceBEq, Nat.reduceEqDiff, Nat.reduceLT, Nat.reduceLeDiff, Nat.reduceMul, Nat.reduceSub, reduceCtorEq, reduceIte] <;> rfl); (simp only [go_sem, Nat.reduceAdd, Nat.reduceBEq, Nat.reduceEqDiff, Nat.reduceLT, Nat.reduceLeDiff, Nat.reduceMul, Nat.reduceSub, reduceCtorEq, reduceIte] <;> rfl))
    | (apply wo_gF (hg := rfl) (hd := rfl); (simp only [d1, go_sem, Nat.reduceAdd, Nat.reduceBEq, Nat.reduceEqDiff, Nat.reduceLT, Nat.reduceLeDiff, Nat.reduceMul, Nat.reduceSub, reduceCtorEq, reduceIte] <;> rfl); (simp only [go_sem, Nat.reduceAdd, Nat.reduceBEq, Nat.reduceEqDiff, Nat.reduceLT, Nat.reduceLeDiff, Nat.reduceMul, Nat.reduceSub, reduceCtorEq, reduceIte] <;> rfl))
    | exact wo_nil rfl)) ?_)
      (repeat refine wc_assoc ?_); refine wc_condThen (by simp only [go_sem, Nat.reduceAdd, Nat.reduceBEq, Nat.reduceEqDiff, Nat.reduceLT, Nat.reduceLeDiff, Nat.reduceMul, Nat.reduceSub, reduceCtorEq, reduceIte] <;> rfl) (fun hc => ?_) (fun hc => ?_)
      · cases hc
      refine wc_exitThen (loopE_exit ?_)
      refine hdone _ L ?_ (gh_keep [0, 1, 2, 3, 8] [900000] rfl (by simp [St.keep, St.kp, Go.Pm.look, lowO, lowT, isSome', Function.comp_def, St.set, St.put, D.cells]))
      rw [hL, ins, hI]; simp [insR]
    · rw [List.concat_eq_append] at h1
      subst h1
      have hj1 : j = pre.length + s1'.length + 1 := by simp at hj; omega
      have hym : y ∈ mid := hsm y (by rw [hss]; simp)
      have hcy := hc' x hxm y hym
      have d1 : decide ((j : Int) > (pre.length : Int)) = true := by simp; omega
      have a1 := ar_at (L := L) (P := pre ++ (s1' ++ [y])) (Q := s2 ++ rest) (z := x) (j := j) (by rw [hL]) (by simp; omega)
      have a2 := ar_at (L := L) (P := pre ++ s1') (Q := x :: (s2 ++ rest)) (z := y) (j := j - 1) (by rw [hL]; simp) (by simp; omega)
      have l1 : (j : Int) < (nn : Int) := by omega
      have l2 : ((j - 1 : Nat) : Int) < (nn : Int) := by omega
      have hwj := hwp j (by omega) (by omega)
      refine wc_assoc (wc_thenD (by rfl) (by
        repeat (first
    | (apply wo_op (hg := rfl) (hc := rfl) (hd := rfl); (simp only [d1, a1, a2, l1, l2, hwj, Nat.mul_one, Int.toNat_natCast, Int.natCast_nonneg, go_sem, Nat.reduceAdd, Nat.reduceBEq, Nat.reduceEqDiff, Nat.reduceLT, Nat.reduceLeDiff, Nat.reduceMul, Nat.reduceSub, reduceCtorEq, reduceIte] <;> rfl); (simp only [go_sem, Nat.reduceAdd, Nat.reduceBEq, Nat.reduceEqDiff, Nat.reduceLT, Nat.reduceLeDiff, Nat.reduceMul, Nat.reduceSub, reduceCtorEq, reduceIte] <;> rfl))
    | (apply wo_eff (hg := rfl) (hc := rfl) (hd := rfl); (simp only [d1, a1, a2, l1, l2, hwj, Nat.mul_one, Int.toNat_natCast, Int.natCast_nonneg, go_sem, Nat.reduceAdd, Nat.reduceBEq, Nat.reduceEqDiff, Nat.reduceLT, Nat.reduceLeDiff, Nat.reduceMul, Nat.reduceSub, reduceCtorEq, reduceIte] <;> rfl); (simp only [go_sem, Nat.reduceAdd, Nat.reduceBEq, Nat.reduceEqDiff, Nat.reduceLT, Nat.reduceLeDiff, Nat.reduceMul, Nat.reduceSub, reduceCtorEq, reduceIte] <;> rfl))
    | (apply wo_gT (hg := rfl); (simp only [d1, a1, a2, l1, l2, hwj, Nat.mul_one, Int.toNat_natCast, Int.natCast_nonneg, go_sem, Nat.reduceAdd, Nat.reduceBEq, Nat.reduceEqDiff, Nat.reduceLT, Nat.reduceLeDiff, Nat.reduceMul, Nat.reduceSub, reduceCtorEq, reduceIte] <;> rfl))
    | (apply wo_gU (hg := rfl) (hd := rfl); (simp only [d1, a1, a2, l1, l2, hwj, Nat.mul_one, Int.toNat_natCast, Int.natCast_nonneg, go_sem, Nat.reduceAdd, Nat.reduceBEq, Nat.reduceEqDiff, Nat.reduceLT, Nat.reduceLeDiff, Nat.reduceMul, Nat.reduceSub, reduceCtorEq, reduceIte] <;> rfl); (simp only [go_sem, Nat.reduceAdd, Nat.reduceBEq, Nat.reduceEqDiff, Nat.reduceLT, Nat.reduceLeDiff, Nat.reduceMul, Nat.reduceSub, reduceCtorEq, reduceIte] <;> rfl))
    | (apply wo_gF (hg := rfl) (hd := rfl); (simp only [d1, a1, a2, l1, l2, hwj, Nat.mul_one, Int.toNat_natCast, Int.natCast_nonneg, go_sem, Nat.reduceAdd, Nat.reduceBEq, Nat.reduceEqDiff, Nat.reduceLT, Nat.reduceLeDiff, Nat.reduceMul, Nat.reduceSub, reduceCtorEq, reduceIte] <;> rfl); (simp only [go_sem, Nat.reduceAdd, Nat.reduceBEq, Nat.reduceEqDiff, Nat.reduceLT, Nat.reduceLeDiff, Nat.reduceMul, Nat.reduceSub, reduceCtorEq, reduceIte] <;> rfl))
    | exact wo_nil rfl)
        refine wo_call rfl rfl (by simp only [go_sem, Nat.reduceAdd, Nat.reduceBEq, Nat.reduceEqDiff, Nat.reduceLT, Nat.reduceLeDiff, Nat.reduceMul, Nat.reduceSub, reduceCtorEq, reduceIte] <;> rfl) (by simp only [go_sem, Nat.reduceAdd, Nat.reduceBEq, Nat.reduceEqDiff, Nat.reduceLT, Nat.reduceLeDiff, Nat.reduceMul, Nat.reduceSub, reduceCtorEq, reduceIte] <;> rfl) (.refl _) (up1 (hcy)) rfl (by simp only [go_sem, Nat.reduceAdd, Nat.reduceBEq, Nat.reduceEqDiff, Nat.reduceLT, Nat.reduceLeDiff, Nat.reduceMul, Nat.reduceSub, reduceCtorEq, reduceIte] <;> rfl) ?_
        repeat (first
    | (apply wo_op (hg := rfl) (hc := rfl) (hd := rfl); (simp only [go_sem, Nat.reduceAdd, Nat.reduceBEq, Nat.reduceEqDiff, Nat.reduceLT, Nat.reduceLeDiff, Nat.reduceMul, Nat.reduceSub, reduceCtorEq, reduceIte] <;> rfl); (simp only [go_sem, Nat.reduceAdd, Nat.reduceBEq, Nat.reduceEqDiff, Nat.reduceLT, Nat.reduceLeDiff, Nat.reduceMul, Nat.reduceSub, reduceCtorEq, reduceIte] <;> rfl))
    | (apply wo_eff (hg := rfl) (hc := rfl) (hd := rfl); (simp only [go_sem, Nat.reduceAdd, Nat.reduceBEq, Nat.reduceEqDiff, Nat.reduceLT, Nat.reduceLeDiff, Nat.reduceMul, Nat.reduceSub, reduceCtorEq, reduceIte] <;> rfl); (simp only [go_sem, Nat.reduceAdd, Nat.reduceBEq, Nat.reduceEqDiff, Nat.reduceLT, Nat.reduceLeDiff, Nat.reduceMul, Nat.reduceSub, reduceCtorEq, reduceIte] <;> rfl))
    | (apply wo_gT (hg := rfl); (simp only [go_sem, Nat.reduceAdd, Nat.reduceBEq, Nat.reduceEqDiff, Nat.reduceLT, Nat.reduceLeDiff, Nat.reduceMul, Nat.reduceSub, reduceCtorEq, reduceIte] <;> rfl))
    | (apply wo_gU (hg := rfl) (hd := rfl); (simp only [go_sem, Nat.reduceAdd, Nat.reduceBEq, Nat.reduceEqDiff, Nat.reduceLT, Nat.reduceLeDiff, Nat.reduceMul, Nat.reduceSub, reduceCtorEq, reduceIte] <;> rfl); (simp only [go_sem, Nat.reduceAdd, Nat.reduceBEq, Nat.reduceEqDiff, Nat.reduceLT, Nat.reduceLeDiff, Nat.reduceMul, Nat.reduceSub, reduceCtorEq, reduceIte] <;> rfl))
    | (apply wo_gF (hg := rfl) (hd := rfl); (simp only [go_sem, Nat.reduceAdd, Nat.reduceBEq, Nat.reduceEqDiff, Nat.reduceLT, Nat.reduceLeDiff, Nat.reduceMul, Nat.reduceSub, reduceCtorEq, reduceIte] <;> rfl); (simp only [go_sem, Nat.reduceAdd, Nat.reduceBEq, Nat.reduceEqDiff, Nat.reduceLT, Nat.reduceLeDiff, Nat.reduceMul, Nat.reduceSub, reduceCtorEq, reduceIte] <;> rfl))
    | exact wo_nil rfl)) ?_)
      (repeat refine wc_assoc ?_); refine wc_condThen (by simp only [go_sem, Nat.reduceAdd, Nat.reduceBEq, Nat.reduceEqDiff, Nat.reduceLT, Nat.reduceLeDiff, Nat.reduceMul, Nat.reduceSub, reduceCtorEq, reduceIte] <;> rfl) (fun hc => ?_) (fun hc => ?_)
      · have hlt : c x y < 0 := by simpa using hc
        refine wc_skip ?_
        refine wc_blockThen ?_
        have s1 := ar_set (L := L) (j := j) y (by omega)
        have s2' := ar_set (L := L.set j y) (j := j - 1) x (by rw [List.length_set]; omega)
        have e1 : j + 1 ≤ L.length := by omega
        have e2 : j - 1 + 1 ≤ (L.set j y).length := by rw [List.length_set]; omega
        have hsw : (L.set j y).set (j - 1) x = pre ++ s1' ++ x :: (y :: s2 ++ rest) := by
          have := swap_eq (pre ++ s1') (s2 ++ rest) x y
          rw [show (pre ++ s1').length = j - 1 by simp; omega, show j - 1 + 1 = j by omega] at this
          rw [hL, show pre ++ (s1' ++ [y]) ++ x :: (s2 ++ rest) = pre ++ s1' ++ y :: x :: (s2 ++ rest) by simp, this]
          simp
        refine wc_lastD (by rfl) (by
          repeat (first
    | (apply wo_op (hg := rfl) (hc := rfl) (hd := rfl); (simp only [a1, a2, l1, l2, hwj, s1, s2', e1, e2, List.length_map, Nat.mul_one, Int.toNat_natCast, Int.natCast_nonneg, go_sem, Nat.reduceAdd, Nat.reduceBEq, Nat.reduceEqDiff, Nat.reduceLT, Nat.reduceLeDiff, Nat.reduceMul, Nat.reduceSub, reduceCtorEq, reduceIte] <;> rfl); (simp only [go_sem, Nat.reduceAdd, Nat.reduceBEq, Nat.reduceEqDiff, Nat.reduceLT, Nat.reduceLeDiff, Nat.reduceMul, Nat.reduceSub, reduceCtorEq, reduceIte] <;> rfl))
    | (apply wo_eff (hg := rfl) (hc := rfl) (hd := rfl); (simp only [a1, a2, l1, l2, hwj, s1, s2', e1, e2, List.length_map, Nat.mul_one, Int.toNat_natCast, Int.natCast_nonneg, go_sem, Nat.reduceAdd, Nat.reduceBEq, Nat.reduceEqDiff, Nat.reduceLT, Nat.reduceLeDiff, Nat.reduceMul, Nat.reduceSub, reduceCtorEq, reduceIte] <;> rfl); (simp only [go_sem, Nat.reduceAdd, Nat.reduceBEq, Nat.reduceEqDiff, Nat.reduceLT, Nat.reduceLeDiff, Nat.reduceMul, Nat.reduceSub, reduceCtorEq, reduceIte] <;> rfl))
    | (apply wo_gT (hg := rfl); (simp only [a1, a2, l1, l2, hwj, s1, s2', e1, e2, List.length_map, Nat.mul_one, Int.toNat_natCast, Int.natCast_nonneg, go_sem, Nat.reduceAdd, Nat.reduceBEq, Nat.reduceEqDiff, Nat.reduceLT, Nat.reduceLeDiff, Nat.reduceMul, Nat.reduceSub, reduceCtorEq, reduceIte] <;> rfl))
    | (apply wo_gU (hg := rfl) (hd := rfl); (simp only [a1, a2, l1, l2, hwj, s1, s2', e1, e2, List.length_map, Nat.mul_one, Int.toNat_natCast, Int.natCast_nonneg, go_sem, Nat.reduceAdd, Nat.reduceBEq, Nat.reduceEqDiff, Nat.reduceLT, Nat.reduceLeDiff, Nat.reduceMul, Nat.reduceSub, reduceCtorEq, reduceIte] <;> rfl); (simp only [go_sem, Nat.reduceAdd, Nat.reduceBEq, Nat.reduceEqDiff, Nat.reduceLT, Nat.reduceLeDiff, Nat.reduceMul, Nat.reduceSub, reduceCtorEq, reduceIte] <;> rfl))
    | (apply wo_gF (hg := rfl) (hd := rfl); (simp only [a1, a2, l1, l2, hwj, s1, s2', e1, e2, List.length_map, Nat.mul_one, Int.toNat_natCast, Int.natCast_nonneg, go_sem, Nat.reduceAdd, Nat.reduceBEq, Nat.reduceEqDiff, Nat.reduceLT, Nat.reduceLeDiff, Nat.reduceMul, Nat.reduceSub, reduceCtorEq, reduceIte] <;> rfl); (simp only [go_sem, Nat.reduceAdd, Nat.reduceBEq, Nat.reduceEqDiff, Nat.reduceLT, Nat.reduceLeDiff, Nat.reduceMul, Nat.reduceSub, reduceCtorEq, reduceIte] <;> rfl))
    | exact wo_nil rfl)) ?_
        refine blk_normal ?_
        refine wc_last (by simp only [go_sem, Nat.reduceAdd, Nat.reduceBEq, Nat.reduceEqDiff, Nat.reduceLT, Nat.reduceLeDiff, Nat.reduceMul, Nat.reduceSub, reduceCtorEq, reduceIte] <;> rfl) ?_
        refine loopE_next (σ1 := ⟨[(0, .view 900000 0 1 0 nn), (1, .d (.int .i64 (pre.length : Nat))), (2, .d (.int .i64 (pre.length + mid.length : Nat))), (3, .d (.fn g caps)), (8, .d (.int .i64 (i : Nat))), (9, .d (.int .i64 (j - 1 : Nat)))], [(900000, .box 0 ((((L.set j y).set (j - 1) x).map (D.int .i64)).map T.d))]⟩) s1'.length (by simp at hm; omega) (gh_keep [0, 1, 2, 3, 8, 9] [900000] rfl (by rw [hwj]; exact (by simp [St.keep, St.kp, Go.Pm.look, lowO, lowT, isSome', Function.comp_def, St.set, St.put, D.cells]))) ⟨j - 1, s1', y :: s2, _, rfl, by omega, by rw [hss]; simp, ?_, hsw, rfl⟩
        rw [hI]
        simp [insR, hlt]
      · have hlt : ¬ c x y < 0 := by simpa using hc
        refine wc_exitThen (loopE_exit ?_)
        refine hdone _ L ?_ (gh_keep [0, 1, 2, 3, 8] [900000] rfl (by simp [St.keep, St.kp, Go.Pm.look, lowO, lowT, isSome', Function.comp_def, St.set, St.put, D.cells]))
        rw [hL, ins, hI]
        simp [insR, hlt]
  · have hib : i = pre.length + mid.length ∨ i = pre.length + mid.length + 1 := by simp at hc; omega
    refine wc_exitThen (loopE_exit ?_)
    refine ⟨.inl rfl, ⟨_, (by rfl), LeR.refl _⟩, ?_⟩
    have hL' : L = pre ++ isort c mid ++ post := by
      rw [hL, List.take_of_length_le (by omega), List.drop_eq_nil_of_le (by omega)]; simp
    rw [hL']
    exact objsAt_one (by rfl)
end Go.Proofs.Ytnkknmdpakebhaa
