/- Comparisons of the statements' helpers. -/
import Derived.Test.YtnkknmdpakebhaaPmFa
set_option linter.unusedSimpArgs false
set_option linter.unusedVariables false
namespace Go.Proofs.Ytnkknmdpakebhaa
open Go Go.Pm
attribute [local irreducible] WC WOps WOpsG
attribute [local go_sem] WOps WOp callOf gtmp gval gvalT evOp evBuiltin binT St.ev constT St.m envOf Go.Pm.look St.upd St.putO St.put St.set allT allP T.toD unD1 T.cells T.asSlice D.cells D.sz eqTy binD unD cvD cv2 fillD ldT ldD TyI.agg allD splice isSome' cut bnd resT resOf Done Option.all_some Option.all_none Option.getD_some Option.getD_none Option.bind_some Option.bind_none Option.map_some Option.map_none List.map List.map_cons List.map_nil List.cons_append List.nil_append List.append_nil List.take_succ_cons List.drop_succ_cons List.take_zero List.drop_zero List.take_nil List.drop_nil List.head?_cons List.length_cons List.length_nil List.getElem?_cons_zero List.getElem?_cons_succ List.getElem?_toArray List.all_cons List.all_nil ite_true ite_false if_true if_false Bool.not_false Bool.not_true decide_true decide_false and_true true_and and_self false_and and_false Bool.and_true Bool.true_and Bool.or_true Bool.true_or List.size_toArray seqFrom beq_self_eq_true BEq.rfl eq_self Nat.succ_ne_self false_or or_false Nat.zero_add Nat.add_zero Nat.not_lt_zero Nat.one_ne_zero tab2 tab3 tab4 tab5 tab9 tab22 tab24 tab25 tab27 tab30 tab54 tab57 tab78 tab85

theorem bytes_inj {a b : ByteArray} (h : a.toList = b.toList) : a = b := by
  rw [ByteArray.toList_eq, ByteArray.toList_eq] at h
  exact ByteArray.ext (Array.toList_inj.mp h)
theorem strs_get {l : List ByteArray} {i : Nat} (h : i < l.length) : (l.map D.str)[i]? = some (.str l[i]) := by simp [h]
theorem strings_spec (a b : List ByteArray) : Pm.Spec X0.P 41 [.slice (a.map .str), .slice (b.map .str)] [.bool (decide (a = b))] := by
  refine Pm.Spec.wf fun hwf => ?_
  simp only [wfL, D.wf, List.length_map] at hwf
  obtain ⟨⟨ha, _⟩, ⟨hb, _⟩, _⟩ := hwf
  refine Spec.of fn41 rfl rfl (by show 2 ≤ 26; decide) ?_
  show WC X0 26 _ _ _
  (repeat refine wc_assoc ?_); refine wc_then (by simp only [go_sem, Nat.reduceAdd, Nat.reduceBEq, Nat.reduceEqDiff, Nat.reduceLT, Nat.reduceLeDiff, Nat.reduceMul, Nat.reduceSub, reduceCtorEq, reduceIte] <;> rfl) ?_
  (repeat refine wc_assoc ?_); refine wc_then (by simp only [List.length_map, go_sem, Nat.reduceAdd, Nat.reduceBEq, Nat.reduceEqDiff, Nat.reduceLT, Nat.reduceLeDiff, Nat.reduceMul, Nat.reduceSub, reduceCtorEq, reduceIte] <;> rfl) ?_
  (repeat refine wc_assoc ?_); refine wc_condThen (by simp only [go_sem, Nat.reduceAdd, Nat.reduceBEq, Nat.reduceEqDiff, Nat.reduceLT, Nat.reduceLeDiff, Nat.reduceMul, Nat.reduceSub, reduceCtorEq, reduceIte] <;> rfl) (fun hc => ?_) (fun hc => ?_)
  · repeat' (first
    | refine wc_assoc ?_
    | refine wc_then (by simp only [go_sem, Nat.reduceAdd, Nat.reduceBEq, Nat.reduceEqDiff, Nat.reduceLT, Nat.reduceLeDiff, Nat.reduceMul, Nat.reduceSub, reduceCtorEq, reduceIte] <;> rfl) ?_
    | refine wc_condThen (by simp only [go_sem, Nat.reduceAdd, Nat.reduceBEq, Nat.reduceEqDiff, Nat.reduceLT, Nat.reduceLeDiff, Nat.reduceMul, Nat.reduceSub, reduceCtorEq, reduceIte] <;> rfl) (fun hc => ?_) (fun hc => ?_)
    | refine wc_skip ?_
    | refine wc_retThen ?_
    | refine wc_ret ?_
    | refine wc_last (by simp only [go_sem, Nat.reduceAdd, Nat.reduceBEq, Nat.reduceEqDiff, Nat.reduceLT, Nat.reduceLeDiff, Nat.reduceMul, Nat.reduceSub, reduceCtorEq, reduceIte] <;> rfl) ?_)
    refine ⟨.inr rfl, _, (by simp only [Try.f41, go_sem, Nat.reduceAdd, Nat.reduceBEq, Nat.reduceEqDiff, Nat.reduceLT, Nat.reduceLeDiff, Nat.reduceMul, Nat.reduceSub, reduceCtorEq, reduceIte]; rfl), ?_⟩
    have : a ≠ b := by rintro rfl; simp at hc
    simp only [this, decide_false]
    exact .refl _
  · have hl : a.length = b.length := by simp at hc; omega
    refine wc_skip ?_
    (repeat refine wc_assoc ?_); refine wc_then (by simp only [go_sem, Nat.reduceAdd, Nat.reduceBEq, Nat.reduceEqDiff, Nat.reduceLT, Nat.reduceLeDiff, Nat.reduceMul, Nat.reduceSub, reduceCtorEq, reduceIte] <;> rfl) ?_
    refine wc_loopThen (σ0 := ⟨[(0, .d (.slice (a.map .str))), (1, .d (.slice (b.map .str))), (5, .d (.int .i64 (0 : Nat)))], []⟩)
      (fun n σ => ∃ i, n + i = a.length ∧ a.take i = b.take i ∧ σ = ⟨[(0, .d (.slice (a.map .str))), (1, .d (.slice (b.map .str))), (5, .d (.int .i64 (i : Nat)))], []⟩) a.length
      (gh_keep [0, 1, 5] [] rfl rfl) ⟨0, by simp, by simp, rfl⟩ ?_
    rintro n σ ⟨i, hn, htk, rfl⟩
    (repeat refine wc_assoc ?_); refine wc_then (by simp only [List.length_map, go_sem, Nat.reduceAdd, Nat.reduceBEq, Nat.reduceEqDiff, Nat.reduceLT, Nat.reduceLeDiff, Nat.reduceMul, Nat.reduceSub, reduceCtorEq, reduceIte] <;> rfl) ?_
    (repeat refine wc_assoc ?_); refine wc_condThen (by simp only [go_sem, Nat.reduceAdd, Nat.reduceBEq, Nat.reduceEqDiff, Nat.reduceLT, Nat.reduceLeDiff, Nat.reduceMul, Nat.reduceSub, reduceCtorEq, reduceIte] <;> rfl) (fun hc => ?_) (fun hc => ?_)
    · have hi : i < a.length := by simp at hc; exact hc
      refine wc_skip ?_
      refine wc_blockThen ?_
      (repeat refine wc_assoc ?_); refine wc_thenD (by rfl) (by simp only [strs_get hi, strs_get (hl ▸ hi), Int.toNat_natCast, Int.natCast_nonneg, go_sem, Nat.reduceAdd, Nat.reduceBEq, Nat.reduceEqDiff, Nat.reduceLT, Nat.reduceLeDiff, Nat.reduceMul, Nat.reduceSub, reduceCtorEq, reduceIte] <;> rfl) ?_
      refine wc_cond (by simp only [go_sem, Nat.reduceAdd, Nat.reduceBEq, Nat.reduceEqDiff, Nat.reduceLT, Nat.reduceLeDiff, Nat.reduceMul, Nat.reduceSub, reduceCtorEq, reduceIte]; rfl) (fun hc => ?_) (fun hc => ?_)
      · (repeat refine wc_assoc ?_); refine wc_then (by simp only [go_sem, Nat.reduceAdd, Nat.reduceBEq, Nat.reduceEqDiff, Nat.reduceLT, Nat.reduceLeDiff, Nat.reduceMul, Nat.reduceSub, reduceCtorEq, reduceIte] <;> rfl) ?_
        refine wc_ret ?_
        refine ⟨.inr rfl, _, (by simp only [Try.f41, go_sem, Nat.reduceAdd, Nat.reduceBEq, Nat.reduceEqDiff, Nat.reduceLT, Nat.reduceLeDiff, Nat.reduceMul, Nat.reduceSub, reduceCtorEq, reduceIte]; rfl), ?_⟩
        have : a ≠ b := by rintro rfl; simp at hc
        simp only [this, decide_false]
        exact .refl _
      · refine wc_skipEnd (blk_normal ?_)
        refine wc_last (by simp only [go_sem, Nat.reduceAdd, Nat.reduceBEq, Nat.reduceEqDiff, Nat.reduceLT, Nat.reduceLeDiff, Nat.reduceMul, Nat.reduceSub, reduceCtorEq, reduceIte] <;> rfl) ?_
        have hab : a[i] = b[i] := by
          have : a[i].toList = b[i].toList := by simpa using hc
          exact bytes_inj this
        refine loop_next (n - 1) (by omega) (gh_keep [0, 1, 5] [] rfl rfl) ⟨i + 1, by omega, ?_, ?_⟩
        · rw [List.take_add_one, List.take_add_one, htk]
          simp [hi, hl ▸ hi, hab]
        · have hw : IntKind.i64.wrap ((i : Int) + 1) = ((i + 1 : Nat) : Int) := wrap_nat (n := i + 1) (by omega)
          simp only [hw]
          rfl
    · refine wc_exitThen (loop_exit ?_)
      (repeat refine wc_assoc ?_); refine wc_then (by simp only [go_sem, Nat.reduceAdd, Nat.reduceBEq, Nat.reduceEqDiff, Nat.reduceLT, Nat.reduceLeDiff, Nat.reduceMul, Nat.reduceSub, reduceCtorEq, reduceIte] <;> rfl) ?_
      refine wc_ret ?_
      refine ⟨.inr rfl, _, (by simp only [Try.f41, go_sem, Nat.reduceAdd, Nat.reduceBEq, Nat.reduceEqDiff, Nat.reduceLT, Nat.reduceLeDiff, Nat.reduceMul, Nat.reduceSub, reduceCtorEq, reduceIte]; rfl), ?_⟩
      have hi : i = a.length := by simp at hc; omega
      subst hi
      have : a = b := by rw [List.take_length] at htk; rw [htk, hl, List.take_length]
      simp only [this, decide_true]
      exact .refl _
end Go.Proofs.Ytnkknmdpakebhaa
