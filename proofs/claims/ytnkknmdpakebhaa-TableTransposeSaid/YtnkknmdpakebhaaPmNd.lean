/- slices: Clone of values, to be written. -/
import Derived.Test.YtnkknmdpakebhaaPmNc
set_option linter.unusedSimpArgs false
set_option linter.unusedVariables false
set_option maxHeartbeats 4000000
namespace Go.Proofs.Ytnkknmdpakebhaa
open Go Go.Pm
open Nat (reduceAdd reduceEqDiff reduceLT reduceLeDiff reduceMul reduceSub)
attribute [local irreducible] WC WOps WOpsG
attribute [local go_sem] WOps WOp callOf gtmp gval gvalT evOp evBuiltin binT St.ev constT St.m envOf Go.Pm.look St.upd St.putO St.put St.set allT allP T.toD unD1 T.cells T.asSlice D.cells D.sz eqTy binD unD cvD cv2 fillD ldT ldD TyI.agg allD splice isSome' cut bnd resT resOf Done Option.all_some Option.all_none Option.getD_some Option.getD_none Option.bind_some Option.bind_none Option.map_some Option.map_none List.map List.map_cons List.map_nil List.cons_append List.nil_append List.append_nil List.take_succ_cons List.drop_succ_cons List.take_zero List.drop_zero List.take_nil List.drop_nil List.head?_cons List.length_cons List.length_nil List.getElem?_cons_zero List.getElem?_cons_succ List.getElem?_toArray List.all_cons List.all_nil ite_true ite_false if_true if_false Bool.not_false Bool.not_true decide_true decide_false and_true true_and and_self false_and and_false Bool.and_true Bool.true_and Bool.or_true Bool.true_or List.size_toArray seqFrom beq_self_eq_true BEq.rfl eq_self Nat.succ_ne_self false_or or_false Nat.zero_add Nat.add_zero Nat.not_lt_zero Nat.one_ne_zero tab3_2 tab3_3 tab3_4 tab3_5 tab3_9 tab3_22 tab3_24 tab3_25 tab3_27 tab3_30 tab3_54 tab3_57 tab3_78 tab3_85
theorem vclone_spec (v : V) (r : List V) (hl : (v :: r).length ≤ 1048576) : Pm.SpecR X0.P 68 [.d (.slice (encL (v :: r)))] [] [.fresh 5 (v :: r).length (cD (v :: r))] [] := by
  refine SpecR.of (x := X3) fn68 rfl rfl (by show 1 ≤ 8; decide) (.inr rfl) ?_
  show WC X3 8 _ _ _
  simp only [envA, memOf, A.t, oid, Nat.reduceAdd, Nat.zero_add, encL]
  have hsz : (encL r).all (fun y => y.sz == 5) = true := by rw [encL_map]; simp [enc_sz]
  have hv : (v.enc.sz == 5) = true := by simp [enc_sz]
  have hlr : (encL r).length = r.length := encL_length r
  rw [List.length_cons] at hl
  have b1 : (r.length + 1) * 80 ≤ 140737488355328 := by omega
  have b2 : r.length + 1 ≤ 140737488355328 := by omega
  have b0 : 0 < r.length + 1 := by omega
  obtain ⟨cs, e1, e2⟩ := enc_agg v
  have hcd : cD (v :: r) = cs ++ (encL r).flatMap D.cells := by simp only [cD, encL, List.flatMap_cons, e1, D.cells]
  rw [e1] at hv ⊢
  simp only [D.sz] at hsz hv
  match cs, e2 with
  | [c0, c1, c2, c3, c4], _ =>
  (repeat refine wc_assoc ?_); refine wc_then (by simp only [go_sem, reduceAdd, Nat.reduceBEq, reduceEqDiff, reduceLT, reduceLeDiff, reduceMul, reduceSub, reduceCtorEq, reduceIte] <;> rfl) ?_
  (repeat refine wc_assoc ?_); refine wc_then (by simp only [go_sem, reduceAdd, Nat.reduceBEq, reduceEqDiff, reduceLT, reduceLeDiff, reduceMul, reduceSub, reduceCtorEq, reduceIte] <;> rfl) ?_
  (repeat refine wc_assoc ?_); refine wc_condThen (by simp only [go_sem, reduceAdd, Nat.reduceBEq, reduceEqDiff, reduceLT, reduceLeDiff, reduceMul, reduceSub, reduceCtorEq, reduceIte] <;> rfl) (fun hc => ?_) (fun hc => ?_)
  · cases hc
  refine wc_skip ?_
  refine wc_then (by
    (apply wo_x (hg := rfl) (hc := rfl) (hd := rfl); (first | rfl | (simp only [List.length_nil, Nat.le_refl, go_sem, reduceAdd, Nat.reduceBEq, reduceEqDiff, reduceLT, reduceLeDiff, reduceMul, reduceSub, reduceCtorEq, reduceIte] <;> rfl)); (simp only [List.length_nil, Nat.le_refl, evX, srcT, T.emp, List.flatMap_cons, List.flatMap_nil, go_sem, reduceAdd, Nat.reduceBEq, reduceEqDiff, reduceLT, reduceLeDiff, reduceMul, reduceSub, reduceCtorEq, reduceIte] <;> rfl); (simp only [List.length_nil, Nat.le_refl, go_sem, reduceAdd, Nat.reduceBEq, reduceEqDiff, reduceLT, reduceLeDiff, reduceMul, reduceSub, reduceCtorEq, reduceIte] <;> rfl))
    repeat (first
    | (apply wo_op (hg := rfl) (hc := rfl) (hd := rfl); (simp only [go_sem, reduceAdd, Nat.reduceBEq, reduceEqDiff, reduceLT, reduceLeDiff, reduceMul, reduceSub, reduceCtorEq, reduceIte] <;> rfl); (simp only [go_sem, reduceAdd, Nat.reduceBEq, reduceEqDiff, reduceLT, reduceLeDiff, reduceMul, reduceSub, reduceCtorEq, reduceIte] <;> rfl))
    | (apply wo_eff (hg := rfl) (hc := rfl) (hd := rfl); (simp only [go_sem, reduceAdd, Nat.reduceBEq, reduceEqDiff, reduceLT, reduceLeDiff, reduceMul, reduceSub, reduceCtorEq, reduceIte] <;> rfl); (simp only [go_sem, reduceAdd, Nat.reduceBEq, reduceEqDiff, reduceLT, reduceLeDiff, reduceMul, reduceSub, reduceCtorEq, reduceIte] <;> rfl))
    | (apply wo_gT (hg := rfl); (simp only [go_sem, reduceAdd, Nat.reduceBEq, reduceEqDiff, reduceLT, reduceLeDiff, reduceMul, reduceSub, reduceCtorEq, reduceIte] <;> rfl))
    | (apply wo_gU (hg := rfl) (hd := rfl); (simp only [go_sem, reduceAdd, Nat.reduceBEq, reduceEqDiff, reduceLT, reduceLeDiff, reduceMul, reduceSub, reduceCtorEq, reduceIte] <;> rfl); (simp only [go_sem, reduceAdd, Nat.reduceBEq, reduceEqDiff, reduceLT, reduceLeDiff, reduceMul, reduceSub, reduceCtorEq, reduceIte] <;> rfl))
    | (apply wo_gF (hg := rfl) (hd := rfl); (simp only [go_sem, reduceAdd, Nat.reduceBEq, reduceEqDiff, reduceLT, reduceLeDiff, reduceMul, reduceSub, reduceCtorEq, reduceIte] <;> rfl); (simp only [go_sem, reduceAdd, Nat.reduceBEq, reduceEqDiff, reduceLT, reduceLeDiff, reduceMul, reduceSub, reduceCtorEq, reduceIte] <;> rfl))
    | exact wo_nil rfl)
    (apply wo_x (hg := rfl) (hc := rfl) (hd := rfl); (first | rfl | (simp only [hsz, hv, hlr, b0, b1, b2, List.length_nil, Nat.zero_mul, Nat.le_refl, List.length_cons, go_sem, reduceAdd, Nat.reduceBEq, reduceEqDiff, reduceLT, reduceLeDiff, reduceMul, reduceSub, reduceCtorEq, reduceIte] <;> rfl)); (simp only [hsz, hv, hlr, b0, b1, b2, List.length_nil, Nat.zero_mul, Nat.le_refl, List.length_cons, evX, srcT, T.emp, List.flatMap_cons, List.flatMap_nil, go_sem, reduceAdd, Nat.reduceBEq, reduceEqDiff, reduceLT, reduceLeDiff, reduceMul, reduceSub, reduceCtorEq, reduceIte] <;> rfl); (simp only [hsz, hv, hlr, b0, b1, b2, List.length_nil, Nat.zero_mul, Nat.le_refl, List.length_cons, go_sem, reduceAdd, Nat.reduceBEq, reduceEqDiff, reduceLT, reduceLeDiff, reduceMul, reduceSub, reduceCtorEq, reduceIte] <;> rfl))
    repeat (first
    | (apply wo_op (hg := rfl) (hc := rfl) (hd := rfl); (simp only [go_sem, reduceAdd, Nat.reduceBEq, reduceEqDiff, reduceLT, reduceLeDiff, reduceMul, reduceSub, reduceCtorEq, reduceIte] <;> rfl); (simp only [go_sem, reduceAdd, Nat.reduceBEq, reduceEqDiff, reduceLT, reduceLeDiff, reduceMul, reduceSub, reduceCtorEq, reduceIte] <;> rfl))
    | (apply wo_eff (hg := rfl) (hc := rfl) (hd := rfl); (simp only [go_sem, reduceAdd, Nat.reduceBEq, reduceEqDiff, reduceLT, reduceLeDiff, reduceMul, reduceSub, reduceCtorEq, reduceIte] <;> rfl); (simp only [go_sem, reduceAdd, Nat.reduceBEq, reduceEqDiff, reduceLT, reduceLeDiff, reduceMul, reduceSub, reduceCtorEq, reduceIte] <;> rfl))
    | (apply wo_gT (hg := rfl); (simp only [go_sem, reduceAdd, Nat.reduceBEq, reduceEqDiff, reduceLT, reduceLeDiff, reduceMul, reduceSub, reduceCtorEq, reduceIte] <;> rfl))
    | (apply wo_gU (hg := rfl) (hd := rfl); (simp only [go_sem, reduceAdd, Nat.reduceBEq, reduceEqDiff, reduceLT, reduceLeDiff, reduceMul, reduceSub, reduceCtorEq, reduceIte] <;> rfl); (simp only [go_sem, reduceAdd, Nat.reduceBEq, reduceEqDiff, reduceLT, reduceLeDiff, reduceMul, reduceSub, reduceCtorEq, reduceIte] <;> rfl))
    | (apply wo_gF (hg := rfl) (hd := rfl); (simp only [go_sem, reduceAdd, Nat.reduceBEq, reduceEqDiff, reduceLT, reduceLeDiff, reduceMul, reduceSub, reduceCtorEq, reduceIte] <;> rfl); (simp only [go_sem, reduceAdd, Nat.reduceBEq, reduceEqDiff, reduceLT, reduceLeDiff, reduceMul, reduceSub, reduceCtorEq, reduceIte] <;> rfl))
    | exact wo_nil rfl)) ?_
  have hall : allD (T.d c0 :: T.d c1 :: T.d c2 :: T.d c3 :: T.d c4 :: List.map T.d ((encL r).flatMap D.cells)) = some (cD (v :: r)) := by
    have := allD_d (c0 :: c1 :: c2 :: c3 :: c4 :: (encL r).flatMap D.cells)
    rw [hcd]
    simpa using this
  refine wc_ret ⟨.inr rfl, ⟨[.fresh 5 (v :: r).length (cD (v :: r))], ?_, LeR.refl _⟩, rfl⟩
  simp [Try.f68, resOfR, Go.Pm.look, resR, St.m, hall]
end Go.Proofs.Ytnkknmdpakebhaa
