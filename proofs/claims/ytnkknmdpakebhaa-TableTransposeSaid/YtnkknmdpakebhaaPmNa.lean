/- ops: flatten, Flatten; table: Flatten. -/
import Derived.Test.YtnkknmdpakebhaaPmLd
set_option linter.unusedSimpArgs false
set_option linter.unusedVariables false
set_option maxHeartbeats 4000000
namespace Go.Proofs.Ytnkknmdpakebhaa
open Go Go.Pm
open Nat (reduceAdd reduceEqDiff reduceLT reduceLeDiff reduceMul reduceSub)
attribute [local irreducible] WC WOps WOpsG
attribute [local go_sem] WOps WOp callOf gtmp gval gvalT evOp evBuiltin binT St.ev constT St.m envOf Go.Pm.look St.upd St.putO St.put St.set allT allP T.toD unD1 T.cells T.asSlice D.cells D.sz eqTy binD unD cvD cv2 fillD ldT ldD TyI.agg allD splice isSome' cut bnd resT resOf Done Option.all_some Option.all_none Option.getD_some Option.getD_none Option.bind_some Option.bind_none Option.map_some Option.map_none List.map List.map_cons List.map_nil List.cons_append List.nil_append List.append_nil List.take_succ_cons List.drop_succ_cons List.take_zero List.drop_zero List.take_nil List.drop_nil List.head?_cons List.length_cons List.length_nil List.getElem?_cons_zero List.getElem?_cons_succ List.getElem?_toArray List.all_cons List.all_nil ite_true ite_false if_true if_false Bool.not_false Bool.not_true decide_true decide_false and_true true_and and_self false_and and_false Bool.and_true Bool.true_and Bool.or_true Bool.true_or List.size_toArray seqFrom beq_self_eq_true BEq.rfl eq_self Nat.succ_ne_self false_or or_false Nat.zero_add Nat.add_zero Nat.not_lt_zero Nat.one_ne_zero tab2 tab3 tab4 tab5 tab9 tab22 tab24 tab25 tab27 tab30 tab54 tab57 tab78 tab85
mutual
def V.flat : V → Int → List V
  | .mk k i s ks es, d => if ((k == 5) && decide (d > 0)) = true then flatL es (IntKind.i64.wrap (d - 1)) else [.mk k i s ks es]
def flatL : List V → Int → List V
  | [], _ => []
  | v :: l, d => v.flat d ++ flatL l d
end
theorem flatL_app : ∀ (a b : List V) (d : Int), flatL (a ++ b) d = flatL a d ++ flatL b d
  | [], b, d => by simp [flatL]
  | v :: a, b, d => by simp only [List.cons_append, flatL, flatL_app a b d, List.append_assoc]
def FlatOK (l : List V) : Prop := ∀ d, (flatL l d).length ≤ 1048576 → Pm.Spec X0.P 70 [.slice (encL l), .int .i64 d] [.slice (encL (flatL l d))]
theorem flat_step (l : List V) (hv : ∀ v ∈ l, FlatOK v.els) : FlatOK l := by
  intro d hb
  refine Pm.Spec.wf fun hwf => ?_
  simp only [wfL, D.wf, encL_length] at hwf
  obtain ⟨⟨hlm, _⟩, _⟩ := hwf
  have hsz : ∀ q : List V, (encL q).all (fun y => y.sz == 5) = true := fun q => by
    rw [encL_map]; simp [enc_sz]
  have hem : ∀ q : List V, (encL q).isEmpty = q.isEmpty := fun q => by cases q <;> rfl
  simp only [D.sz] at hsz
  refine Spec.of fn70 rfl rfl (by show 2 ≤ 34; decide) ?_
  show WC X0 34 _ _ _
  (repeat refine wc_assoc ?_); refine wc_then (by simp only [go_sem, reduceAdd, Nat.reduceBEq, reduceEqDiff, reduceLT, reduceLeDiff, reduceMul, reduceSub, reduceCtorEq, reduceIte] <;> rfl) ?_
  (repeat refine wc_assoc ?_); refine wc_then (by simp only [go_sem, reduceAdd, Nat.reduceBEq, reduceEqDiff, reduceLT, reduceLeDiff, reduceMul, reduceSub, reduceCtorEq, reduceIte] <;> rfl) ?_
  (repeat refine wc_assoc ?_); refine wc_then (by simp only [encL_length, go_sem, reduceAdd, Nat.reduceBEq, reduceEqDiff, reduceLT, reduceLeDiff, reduceMul, reduceSub, reduceCtorEq, reduceIte] <;> rfl) ?_
  refine wc_loopThen (σ0 := ⟨[(5, .d .nil), (1, .d (.int .i64 d)), (8, .d (.slice (encL l))), (9, .d (.int .i64 (l.length : Nat))), (10, .d (.int .i64 (0 : Nat)))], []⟩)
    (fun m σ => ∃ (j : Nat) (A : List V), m + j = l.length ∧ A = flatL (l.take j) d ∧ ((A = [] ∧ σ = ⟨[(5, .d .nil), (1, .d (.int .i64 d)), (8, .d (.slice (encL l))), (9, .d (.int .i64 (l.length : Nat))), (10, .d (.int .i64 (j : Nat)))], []⟩) ∨ (A ≠ [] ∧ σ = ⟨[(5, .own 27 (encL A)), (1, .d (.int .i64 d)), (8, .d (.slice (encL l))), (9, .d (.int .i64 (l.length : Nat))), (10, .d (.int .i64 (j : Nat)))], [(27, .tok 27 5 A.length)]⟩) ∨ (A ≠ [] ∧ σ = ⟨[(5, .own 31 (encL A)), (1, .d (.int .i64 d)), (8, .d (.slice (encL l))), (9, .d (.int .i64 (l.length : Nat))), (10, .d (.int .i64 (j : Nat)))], [(31, .tok 27 5 A.length)]⟩))) l.length
    (gh_keep [5, 1, 8, 9, 10] [] rfl rfl) ⟨0, [], by simp, by simp [flatL], .inl ⟨rfl, rfl⟩⟩ ?_
  rintro m σ ⟨j, A, hm, hA, hσ⟩
  by_cases hj : j < l.length
  · have hw : IntKind.i64.wrap ((j : Int) + 1) = ((j + 1 : Nat) : Int) := wrap_nat (n := j + 1) (by omega)
    have hnx : flatL (l.take (j + 1)) d = A ++ (l[j]).flat d := by
      rw [List.take_add_one, List.getElem?_eq_getElem hj, flatL_app, hA]; simp [flatL]
    have hAl : A.length + ((l[j]).flat d).length ≤ 1048576 := by
      have h1 : flatL (l.take (j + 1)) d ++ flatL (l.drop (j + 1)) d = flatL l d := by rw [← flatL_app, List.take_append_drop]
      have h2 := congrArg List.length h1
      rw [hnx] at h2
      simp only [List.length_append] at h2
      omega
    have hvj := hv l[j] (List.getElem_mem hj)
    have g1 := encL_get hj
    have d1 : decide ((j : Int) < (l.length : Int)) = true := by simp; omega
    have hlA := encL_length A
    generalize l[j] = v at *
    cases v with
    | mk k i s ks es =>
    simp only [V.enc] at g1
    simp only [V.els] at hvj
    rw [V.flat] at hnx hAl
    generalize hd1 : (k == 5) = b1 at *
    generalize hd2 : decide (d > 0) = b2 at *
    by_cases hbb : (b1 && b2) = true
    · have q1 : b1 = true := by revert hbb; cases b1 <;> simp
      have q2 : b2 = true := by revert hbb; cases b1 <;> cases b2 <;> simp
      subst q1 q2
      rw [if_pos (show (true && true) = true from rfl)] at hnx hAl
      have hsp := hvj (IntKind.i64.wrap (d - 1)) (by omega)
      generalize hdw : IntKind.i64.wrap (d - 1) = d' at hsp hnx hAl
      generalize flatL es d' = B at *
      by_cases hB : B = []
      · subst hB
        simp only [List.append_nil] at hnx
        rcases hσ with ⟨hA0, rfl⟩ | ⟨hA0, rfl⟩ | ⟨hA0, rfl⟩
        · (repeat refine wc_assoc ?_); refine wc_then (by simp only [d1, go_sem, reduceAdd, Nat.reduceBEq, reduceEqDiff, reduceLT, reduceLeDiff, reduceMul, reduceSub, reduceCtorEq, reduceIte] <;> rfl) ?_
          (repeat refine wc_assoc ?_); refine wc_condThen (by simp only [go_sem, reduceAdd, Nat.reduceBEq, reduceEqDiff, reduceLT, reduceLeDiff, reduceMul, reduceSub, reduceCtorEq, reduceIte] <;> rfl) (fun hc => ?_) (fun hc => ?_)
          rotate_left
          · cases hc
          refine wc_skip ?_
          refine wc_blockThen ?_
          (repeat refine wc_assoc ?_); refine wc_then (by simp only [g1, Nat.le_refl, Int.toNat_natCast, Int.natCast_nonneg, go_sem, reduceAdd, Nat.reduceBEq, reduceEqDiff, reduceLT, reduceLeDiff, reduceMul, reduceSub, reduceCtorEq, reduceIte] <;> rfl) ?_
          (repeat refine wc_assoc ?_);  refine wc_then (by repeat (first
    | (apply wo_op (hg := rfl) (hc := rfl) (hd := rfl); (simp only [hd1, hd2, go_sem, reduceAdd, Nat.reduceBEq, reduceEqDiff, reduceLT, reduceLeDiff, reduceMul, reduceSub, reduceCtorEq, reduceIte] <;> rfl); (simp only [go_sem, reduceAdd, Nat.reduceBEq, reduceEqDiff, reduceLT, reduceLeDiff, reduceMul, reduceSub, reduceCtorEq, reduceIte] <;> rfl))
    | (apply wo_eff (hg := rfl) (hc := rfl) (hd := rfl); (simp only [hd1, hd2, go_sem, reduceAdd, Nat.reduceBEq, reduceEqDiff, reduceLT, reduceLeDiff, reduceMul, reduceSub, reduceCtorEq, reduceIte] <;> rfl); (simp only [go_sem, reduceAdd, Nat.reduceBEq, reduceEqDiff, reduceLT, reduceLeDiff, reduceMul, reduceSub, reduceCtorEq, reduceIte] <;> rfl))
    | (apply wo_gT (hg := rfl); (simp only [hd1, hd2, go_sem, reduceAdd, Nat.reduceBEq, reduceEqDiff, reduceLT, reduceLeDiff, reduceMul, reduceSub, reduceCtorEq, reduceIte] <;> rfl))
    | (apply wo_gU (hg := rfl) (hd := rfl); (simp only [hd1, hd2, go_sem, reduceAdd, Nat.reduceBEq, reduceEqDiff, reduceLT, reduceLeDiff, reduceMul, reduceSub, reduceCtorEq, reduceIte] <;> rfl); (simp only [go_sem, reduceAdd, Nat.reduceBEq, reduceEqDiff, reduceLT, reduceLeDiff, reduceMul, reduceSub, reduceCtorEq, reduceIte] <;> rfl))
    | (apply wo_gF (hg := rfl) (hd := rfl); (simp only [hd1, hd2, go_sem, reduceAdd, Nat.reduceBEq, reduceEqDiff, reduceLT, reduceLeDiff, reduceMul, reduceSub, reduceCtorEq, reduceIte] <;> rfl); (simp only [go_sem, reduceAdd, Nat.reduceBEq, reduceEqDiff, reduceLT, reduceLeDiff, reduceMul, reduceSub, reduceCtorEq, reduceIte] <;> rfl))
    | exact wo_nil rfl)) ?_
          refine wc_cond (t := true) (by rfl) (fun hc => ?_) (fun hc => by cases hc)
          refine wc_last (by
            repeat (first
    | (apply wo_op (hg := rfl) (hc := rfl) (hd := rfl); (simp only [hdw, go_sem, reduceAdd, Nat.reduceBEq, reduceEqDiff, reduceLT, reduceLeDiff, reduceMul, reduceSub, reduceCtorEq, reduceIte] <;> rfl); (simp only [go_sem, reduceAdd, Nat.reduceBEq, reduceEqDiff, reduceLT, reduceLeDiff, reduceMul, reduceSub, reduceCtorEq, reduceIte] <;> rfl))
    | (apply wo_eff (hg := rfl) (hc := rfl) (hd := rfl); (simp only [hdw, go_sem, reduceAdd, Nat.reduceBEq, reduceEqDiff, reduceLT, reduceLeDiff, reduceMul, reduceSub, reduceCtorEq, reduceIte] <;> rfl); (simp only [go_sem, reduceAdd, Nat.reduceBEq, reduceEqDiff, reduceLT, reduceLeDiff, reduceMul, reduceSub, reduceCtorEq, reduceIte] <;> rfl))
    | (apply wo_gT (hg := rfl); (simp only [hdw, go_sem, reduceAdd, Nat.reduceBEq, reduceEqDiff, reduceLT, reduceLeDiff, reduceMul, reduceSub, reduceCtorEq, reduceIte] <;> rfl))
    | (apply wo_gU (hg := rfl) (hd := rfl); (simp only [hdw, go_sem, reduceAdd, Nat.reduceBEq, reduceEqDiff, reduceLT, reduceLeDiff, reduceMul, reduceSub, reduceCtorEq, reduceIte] <;> rfl); (simp only [go_sem, reduceAdd, Nat.reduceBEq, reduceEqDiff, reduceLT, reduceLeDiff, reduceMul, reduceSub, reduceCtorEq, reduceIte] <;> rfl))
    | (apply wo_gF (hg := rfl) (hd := rfl); (simp only [hdw, go_sem, reduceAdd, Nat.reduceBEq, reduceEqDiff, reduceLT, reduceLeDiff, reduceMul, reduceSub, reduceCtorEq, reduceIte] <;> rfl); (simp only [go_sem, reduceAdd, Nat.reduceBEq, reduceEqDiff, reduceLT, reduceLeDiff, reduceMul, reduceSub, reduceCtorEq, reduceIte] <;> rfl))
    | exact wo_nil rfl)
            refine wo_call rfl rfl (by simp only [go_sem, reduceAdd, Nat.reduceBEq, reduceEqDiff, reduceLT, reduceLeDiff, reduceMul, reduceSub, reduceCtorEq, reduceIte] <;> rfl) (by simp only [go_sem, reduceAdd, Nat.reduceBEq, reduceEqDiff, reduceLT, reduceLeDiff, reduceMul, reduceSub, reduceCtorEq, reduceIte] <;> rfl) (.refl _) ((hsp)) rfl (by simp only [go_sem, reduceAdd, Nat.reduceBEq, reduceEqDiff, reduceLT, reduceLeDiff, reduceMul, reduceSub, reduceCtorEq, reduceIte] <;> rfl) ?_
            repeat (first
    | (apply wo_op (hg := rfl) (hc := rfl) (hd := rfl); (simp only [encL, List.isEmpty_nil, go_sem, reduceAdd, Nat.reduceBEq, reduceEqDiff, reduceLT, reduceLeDiff, reduceMul, reduceSub, reduceCtorEq, reduceIte] <;> rfl); (simp only [go_sem, reduceAdd, Nat.reduceBEq, reduceEqDiff, reduceLT, reduceLeDiff, reduceMul, reduceSub, reduceCtorEq, reduceIte] <;> rfl))
    | (apply wo_eff (hg := rfl) (hc := rfl) (hd := rfl); (simp only [encL, List.isEmpty_nil, go_sem, reduceAdd, Nat.reduceBEq, reduceEqDiff, reduceLT, reduceLeDiff, reduceMul, reduceSub, reduceCtorEq, reduceIte] <;> rfl); (simp only [go_sem, reduceAdd, Nat.reduceBEq, reduceEqDiff, reduceLT, reduceLeDiff, reduceMul, reduceSub, reduceCtorEq, reduceIte] <;> rfl))
    | (apply wo_gT (hg := rfl); (simp only [encL, List.isEmpty_nil, go_sem, reduceAdd, Nat.reduceBEq, reduceEqDiff, reduceLT, reduceLeDiff, reduceMul, reduceSub, reduceCtorEq, reduceIte] <;> rfl))
    | (apply wo_gU (hg := rfl) (hd := rfl); (simp only [encL, List.isEmpty_nil, go_sem, reduceAdd, Nat.reduceBEq, reduceEqDiff, reduceLT, reduceLeDiff, reduceMul, reduceSub, reduceCtorEq, reduceIte] <;> rfl); (simp only [go_sem, reduceAdd, Nat.reduceBEq, reduceEqDiff, reduceLT, reduceLeDiff, reduceMul, reduceSub, reduceCtorEq, reduceIte] <;> rfl))
    | (apply wo_gF (hg := rfl) (hd := rfl); (simp only [encL, List.isEmpty_nil, go_sem, reduceAdd, Nat.reduceBEq, reduceEqDiff, reduceLT, reduceLeDiff, reduceMul, reduceSub, reduceCtorEq, reduceIte] <;> rfl); (simp only [go_sem, reduceAdd, Nat.reduceBEq, reduceEqDiff, reduceLT, reduceLeDiff, reduceMul, reduceSub, reduceCtorEq, reduceIte] <;> rfl))
    | exact wo_nil rfl)) ?_
          refine blk_normal ?_
          refine wc_last (by simp only [go_sem, reduceAdd, Nat.reduceBEq, reduceEqDiff, reduceLT, reduceLeDiff, reduceMul, reduceSub, reduceCtorEq, reduceIte] <;> rfl) ?_
          refine loop_next (m - 1) (by omega) (gh_keep [5, 1, 8, 9, 10] [] rfl rfl) ⟨j + 1, A, by omega, hnx.symm, .inl ⟨hA0, ?_⟩⟩
          simp only [hw]
          rfl
        · (repeat refine wc_assoc ?_); refine wc_then (by simp only [d1, go_sem, reduceAdd, Nat.reduceBEq, reduceEqDiff, reduceLT, reduceLeDiff, reduceMul, reduceSub, reduceCtorEq, reduceIte] <;> rfl) ?_
          (repeat refine wc_assoc ?_); refine wc_condThen (by simp only [go_sem, reduceAdd, Nat.reduceBEq, reduceEqDiff, reduceLT, reduceLeDiff, reduceMul, reduceSub, reduceCtorEq, reduceIte] <;> rfl) (fun hc => ?_) (fun hc => ?_)
          rotate_left
          · cases hc
          refine wc_skip ?_
          refine wc_blockThen ?_
          (repeat refine wc_assoc ?_); refine wc_then (by simp only [g1, Nat.le_refl, Int.toNat_natCast, Int.natCast_nonneg, go_sem, reduceAdd, Nat.reduceBEq, reduceEqDiff, reduceLT, reduceLeDiff, reduceMul, reduceSub, reduceCtorEq, reduceIte] <;> rfl) ?_
          (repeat refine wc_assoc ?_);  refine wc_then (by repeat (first
    | (apply wo_op (hg := rfl) (hc := rfl) (hd := rfl); (simp only [hd1, hd2, go_sem, reduceAdd, Nat.reduceBEq, reduceEqDiff, reduceLT, reduceLeDiff, reduceMul, reduceSub, reduceCtorEq, reduceIte] <;> rfl); (simp only [go_sem, reduceAdd, Nat.reduceBEq, reduceEqDiff, reduceLT, reduceLeDiff, reduceMul, reduceSub, reduceCtorEq, reduceIte] <;> rfl))
    | (apply wo_eff (hg := rfl) (hc := rfl) (hd := rfl); (simp only [hd1, hd2, go_sem, reduceAdd, Nat.reduceBEq, reduceEqDiff, reduceLT, reduceLeDiff, reduceMul, reduceSub, reduceCtorEq, reduceIte] <;> rfl); (simp only [go_sem, reduceAdd, Nat.reduceBEq, reduceEqDiff, reduceLT, reduceLeDiff, reduceMul, reduceSub, reduceCtorEq, reduceIte] <;> rfl))
    | (apply wo_gT (hg := rfl); (simp only [hd1, hd2, go_sem, reduceAdd, Nat.reduceBEq, reduceEqDiff, reduceLT, reduceLeDiff, reduceMul, reduceSub, reduceCtorEq, reduceIte] <;> rfl))
    | (apply wo_gU (hg := rfl) (hd := rfl); (simp only [hd1, hd2, go_sem, reduceAdd, Nat.reduceBEq, reduceEqDiff, reduceLT, reduceLeDiff, reduceMul, reduceSub, reduceCtorEq, reduceIte] <;> rfl); (simp only [go_sem, reduceAdd, Nat.reduceBEq, reduceEqDiff, reduceLT, reduceLeDiff, reduceMul, reduceSub, reduceCtorEq, reduceIte] <;> rfl))
    | (apply wo_gF (hg := rfl) (hd := rfl); (simp only [hd1, hd2, go_sem, reduceAdd, Nat.reduceBEq, reduceEqDiff, reduceLT, reduceLeDiff, reduceMul, reduceSub, reduceCtorEq, reduceIte] <;> rfl); (simp only [go_sem, reduceAdd, Nat.reduceBEq, reduceEqDiff, reduceLT, reduceLeDiff, reduceMul, reduceSub, reduceCtorEq, reduceIte] <;> rfl))
    | exact wo_nil rfl)) ?_
          refine wc_cond (t := true) (by rfl) (fun hc => ?_) (fun hc => by cases hc)
          refine wc_last (by
            repeat (first
    | (apply wo_op (hg := rfl) (hc := rfl) (hd := rfl); (simp only [hdw, go_sem, reduceAdd, Nat.reduceBEq, reduceEqDiff, reduceLT, reduceLeDiff, reduceMul, reduceSub, reduceCtorEq, reduceIte] <;> rfl); (simp only [go_sem, reduceAdd, Nat.reduceBEq, reduceEqDiff, reduceLT, reduceLeDiff, reduceMul, reduceSub, reduceCtorEq, reduceIte] <;> rfl))
    | (apply wo_eff (hg := rfl) (hc := rfl) (hd := rfl); (simp only [hdw, go_sem, reduceAdd, Nat.reduceBEq, reduceEqDiff, reduceLT, reduceLeDiff, reduceMul, reduceSub, reduceCtorEq, reduceIte] <;> rfl); (simp only [go_sem, reduceAdd, Nat.reduceBEq, reduceEqDiff, reduceLT, reduceLeDiff, reduceMul, reduceSub, reduceCtorEq, reduceIte] <;> rfl))
    | (apply wo_gT (hg := rfl); (simp only [hdw, go_sem, reduceAdd, Nat.reduceBEq, reduceEqDiff, reduceLT, reduceLeDiff, reduceMul, reduceSub, reduceCtorEq, reduceIte] <;> rfl))
    | (apply wo_gU (hg := rfl) (hd := rfl); (simp only [hdw, go_sem, reduceAdd, Nat.reduceBEq, reduceEqDiff, reduceLT, reduceLeDiff, reduceMul, reduceSub, reduceCtorEq, reduceIte] <;> rfl); (simp only [go_sem, reduceAdd, Nat.reduceBEq, reduceEqDiff, reduceLT, reduceLeDiff, reduceMul, reduceSub, reduceCtorEq, reduceIte] <;> rfl))
    | (apply wo_gF (hg := rfl) (hd := rfl); (simp only [hdw, go_sem, reduceAdd, Nat.reduceBEq, reduceEqDiff, reduceLT, reduceLeDiff, reduceMul, reduceSub, reduceCtorEq, reduceIte] <;> rfl); (simp only [go_sem, reduceAdd, Nat.reduceBEq, reduceEqDiff, reduceLT, reduceLeDiff, reduceMul, reduceSub, reduceCtorEq, reduceIte] <;> rfl))
    | exact wo_nil rfl)
            refine wo_call rfl rfl (by simp only [go_sem, reduceAdd, Nat.reduceBEq, reduceEqDiff, reduceLT, reduceLeDiff, reduceMul, reduceSub, reduceCtorEq, reduceIte] <;> rfl) (by simp only [go_sem, reduceAdd, Nat.reduceBEq, reduceEqDiff, reduceLT, reduceLeDiff, reduceMul, reduceSub, reduceCtorEq, reduceIte] <;> rfl) (.refl _) ((hsp)) rfl (by simp only [go_sem, reduceAdd, Nat.reduceBEq, reduceEqDiff, reduceLT, reduceLeDiff, reduceMul, reduceSub, reduceCtorEq, reduceIte] <;> rfl) ?_
            repeat (first
    | (apply wo_op (hg := rfl) (hc := rfl) (hd := rfl); (simp only [encL, List.isEmpty_nil, go_sem, reduceAdd, Nat.reduceBEq, reduceEqDiff, reduceLT, reduceLeDiff, reduceMul, reduceSub, reduceCtorEq, reduceIte] <;> rfl); (simp only [go_sem, reduceAdd, Nat.reduceBEq, reduceEqDiff, reduceLT, reduceLeDiff, reduceMul, reduceSub, reduceCtorEq, reduceIte] <;> rfl))
    | (apply wo_eff (hg := rfl) (hc := rfl) (hd := rfl); (simp only [encL, List.isEmpty_nil, go_sem, reduceAdd, Nat.reduceBEq, reduceEqDiff, reduceLT, reduceLeDiff, reduceMul, reduceSub, reduceCtorEq, reduceIte] <;> rfl); (simp only [go_sem, reduceAdd, Nat.reduceBEq, reduceEqDiff, reduceLT, reduceLeDiff, reduceMul, reduceSub, reduceCtorEq, reduceIte] <;> rfl))
    | (apply wo_gT (hg := rfl); (simp only [encL, List.isEmpty_nil, go_sem, reduceAdd, Nat.reduceBEq, reduceEqDiff, reduceLT, reduceLeDiff, reduceMul, reduceSub, reduceCtorEq, reduceIte] <;> rfl))
    | (apply wo_gU (hg := rfl) (hd := rfl); (simp only [encL, List.isEmpty_nil, go_sem, reduceAdd, Nat.reduceBEq, reduceEqDiff, reduceLT, reduceLeDiff, reduceMul, reduceSub, reduceCtorEq, reduceIte] <;> rfl); (simp only [go_sem, reduceAdd, Nat.reduceBEq, reduceEqDiff, reduceLT, reduceLeDiff, reduceMul, reduceSub, reduceCtorEq, reduceIte] <;> rfl))
    | (apply wo_gF (hg := rfl) (hd := rfl); (simp only [encL, List.isEmpty_nil, go_sem, reduceAdd, Nat.reduceBEq, reduceEqDiff, reduceLT, reduceLeDiff, reduceMul, reduceSub, reduceCtorEq, reduceIte] <;> rfl); (simp only [go_sem, reduceAdd, Nat.reduceBEq, reduceEqDiff, reduceLT, reduceLeDiff, reduceMul, reduceSub, reduceCtorEq, reduceIte] <;> rfl))
    | exact wo_nil rfl)) ?_
          refine blk_normal ?_
          refine wc_last (by simp only [go_sem, reduceAdd, Nat.reduceBEq, reduceEqDiff, reduceLT, reduceLeDiff, reduceMul, reduceSub, reduceCtorEq, reduceIte] <;> rfl) ?_
          refine loop_next (m - 1) (by omega) (gh_keep [5, 1, 8, 9, 10] [27] rfl rfl) ⟨j + 1, A, by omega, hnx.symm, .inr (.inl ⟨hA0, ?_⟩)⟩
          simp only [hw]
          rfl
        · (repeat refine wc_assoc ?_); refine wc_then (by simp only [d1, go_sem, reduceAdd, Nat.reduceBEq, reduceEqDiff, reduceLT, reduceLeDiff, reduceMul, reduceSub, reduceCtorEq, reduceIte] <;> rfl) ?_
          (repeat refine wc_assoc ?_); refine wc_condThen (by simp only [go_sem, reduceAdd, Nat.reduceBEq, reduceEqDiff, reduceLT, reduceLeDiff, reduceMul, reduceSub, reduceCtorEq, reduceIte] <;> rfl) (fun hc => ?_) (fun hc => ?_)
          rotate_left
          · cases hc
          refine wc_skip ?_
          refine wc_blockThen ?_
          (repeat refine wc_assoc ?_); refine wc_then (by simp only [g1, Nat.le_refl, Int.toNat_natCast, Int.natCast_nonneg, go_sem, reduceAdd, Nat.reduceBEq, reduceEqDiff, reduceLT, reduceLeDiff, reduceMul, reduceSub, reduceCtorEq, reduceIte] <;> rfl) ?_
          (repeat refine wc_assoc ?_);  refine wc_then (by repeat (first
    | (apply wo_op (hg := rfl) (hc := rfl) (hd := rfl); (simp only [hd1, hd2, go_sem, reduceAdd, Nat.reduceBEq, reduceEqDiff, reduceLT, reduceLeDiff, reduceMul, reduceSub, reduceCtorEq, reduceIte] <;> rfl); (simp only [go_sem, reduceAdd, Nat.reduceBEq, reduceEqDiff, reduceLT, reduceLeDiff, reduceMul, reduceSub, reduceCtorEq, reduceIte] <;> rfl))
    | (apply wo_eff (hg := rfl) (hc := rfl) (hd := rfl); (simp only [hd1, hd2, go_sem, reduceAdd, Nat.reduceBEq, reduceEqDiff, reduceLT, reduceLeDiff, reduceMul, reduceSub, reduceCtorEq, reduceIte] <;> rfl); (simp only [go_sem, reduceAdd, Nat.reduceBEq, reduceEqDiff, reduceLT, reduceLeDiff, reduceMul, reduceSub, reduceCtorEq, reduceIte] <;> rfl))
    | (apply wo_gT (hg := rfl); (simp only [hd1, hd2, go_sem, reduceAdd, Nat.reduceBEq, reduceEqDiff, reduceLT, reduceLeDiff, reduceMul, reduceSub, reduceCtorEq, reduceIte] <;> rfl))
    | (apply wo_gU (hg := rfl) (hd := rfl); (simp only [hd1, hd2, go_sem, reduceAdd, Nat.reduceBEq, reduceEqDiff, reduceLT, reduceLeDiff, reduceMul, reduceSub, reduceCtorEq, reduceIte] <;> rfl); (simp only [go_sem, reduceAdd, Nat.reduceBEq, reduceEqDiff, reduceLT, reduceLeDiff, reduceMul, reduceSub, reduceCtorEq, reduceIte] <;> rfl))
    | (apply wo_gF (hg := rfl) (hd := rfl); (simp only [hd1, hd2, go_sem, reduceAdd, Nat.reduceBEq, reduceEqDiff, reduceLT, reduceLeDiff, reduceMul, reduceSub, reduceCtorEq, reduceIte] <;> rfl); (simp only [go_sem, reduceAdd, Nat.reduceBEq, reduceEqDiff, reduceLT, reduceLeDiff, reduceMul, reduceSub, reduceCtorEq, reduceIte] <;> rfl))
    | exact wo_nil rfl)) ?_
          refine wc_cond (t := true) (by rfl) (fun hc => ?_) (fun hc => by cases hc)
          refine wc_last (by
            repeat (first
    | (apply wo_op (hg := rfl) (hc := rfl) (hd := rfl); (simp only [hdw, go_sem, reduceAdd, Nat.reduceBEq, reduceEqDiff, reduceLT, reduceLeDiff, reduceMul, reduceSub, reduceCtorEq, reduceIte] <;> rfl); (simp only [go_sem, reduceAdd, Nat.reduceBEq, reduceEqDiff, reduceLT, reduceLeDiff, reduceMul, reduceSub, reduceCtorEq, reduceIte] <;> rfl))
    | (apply wo_eff (hg := rfl) (hc := rfl) (hd := rfl); (simp only [hdw, go_sem, reduceAdd, Nat.reduceBEq, reduceEqDiff, reduceLT, reduceLeDiff, reduceMul, reduceSub, reduceCtorEq, reduceIte] <;> rfl); (simp only [go_sem, reduceAdd, Nat.reduceBEq, reduceEqDiff, reduceLT, reduceLeDiff, reduceMul, reduceSub, reduceCtorEq, reduceIte] <;> rfl))
    | (apply wo_gT (hg := rfl); (simp only [hdw, go_sem, reduceAdd, Nat.reduceBEq, reduceEqDiff, reduceLT, reduceLeDiff, reduceMul, reduceSub, reduceCtorEq, reduceIte] <;> rfl))
    | (apply wo_gU (hg := rfl) (hd := rfl); (simp only [hdw, go_sem, reduceAdd, Nat.reduceBEq, reduceEqDiff, reduceLT, reduceLeDiff, reduceMul, reduceSub, reduceCtorEq, reduceIte] <;> rfl); (simp only [go_sem, reduceAdd, Nat.reduceBEq, reduceEqDiff, reduceLT, reduceLeDiff, reduceMul, reduceSub, reduceCtorEq, reduceIte] <;> rfl))
    | (apply wo_gF (hg := rfl) (hd := rfl); (simp only [hdw, go_sem, reduceAdd, Nat.reduceBEq, reduceEqDiff, reduceLT, reduceLeDiff, reduceMul, reduceSub, reduceCtorEq, reduceIte] <;> rfl); (simp only [go_sem, reduceAdd, Nat.reduceBEq, reduceEqDiff, reduceLT, reduceLeDiff, reduceMul, reduceSub, reduceCtorEq, reduceIte] <;> rfl))
    | exact wo_nil rfl)
            refine wo_call rfl rfl (by simp only [go_sem, reduceAdd, Nat.reduceBEq, reduceEqDiff, reduceLT, reduceLeDiff, reduceMul, reduceSub, reduceCtorEq, reduceIte] <;> rfl) (by simp only [go_sem, reduceAdd, Nat.reduceBEq, reduceEqDiff, reduceLT, reduceLeDiff, reduceMul, reduceSub, reduceCtorEq, reduceIte] <;> rfl) (.refl _) ((hsp)) rfl (by simp only [go_sem, reduceAdd, Nat.reduceBEq, reduceEqDiff, reduceLT, reduceLeDiff, reduceMul, reduceSub, reduceCtorEq, reduceIte] <;> rfl) ?_
            repeat (first
    | (apply wo_op (hg := rfl) (hc := rfl) (hd := rfl); (simp only [encL, List.isEmpty_nil, go_sem, reduceAdd, Nat.reduceBEq, reduceEqDiff, reduceLT, reduceLeDiff, reduceMul, reduceSub, reduceCtorEq, reduceIte] <;> rfl); (simp only [go_sem, reduceAdd, Nat.reduceBEq, reduceEqDiff, reduceLT, reduceLeDiff, reduceMul, reduceSub, reduceCtorEq, reduceIte] <;> rfl))
    | (apply wo_eff (hg := rfl) (hc := rfl) (hd := rfl); (simp only [encL, List.isEmpty_nil, go_sem, reduceAdd, Nat.reduceBEq, reduceEqDiff, reduceLT, reduceLeDiff, reduceMul, reduceSub, reduceCtorEq, reduceIte] <;> rfl); (simp only [go_sem, reduceAdd, Nat.reduceBEq, reduceEqDiff, reduceLT, reduceLeDiff, reduceMul, reduceSub, reduceCtorEq, reduceIte] <;> rfl))
    | (apply wo_gT (hg := rfl); (simp only [encL, List.isEmpty_nil, go_sem, reduceAdd, Nat.reduceBEq, reduceEqDiff, reduceLT, reduceLeDiff, reduceMul, reduceSub, reduceCtorEq, reduceIte] <;> rfl))
    | (apply wo_gU (hg := rfl) (hd := rfl); (simp only [encL, List.isEmpty_nil, go_sem, reduceAdd, Nat.reduceBEq, reduceEqDiff, reduceLT, reduceLeDiff, reduceMul, reduceSub, reduceCtorEq, reduceIte] <;> rfl); (simp only [go_sem, reduceAdd, Nat.reduceBEq, reduceEqDiff, reduceLT, reduceLeDiff, reduceMul, reduceSub, reduceCtorEq, reduceIte] <;> rfl))
    | (apply wo_gF (hg := rfl) (hd := rfl); (simp only [encL, List.isEmpty_nil, go_sem, reduceAdd, Nat.reduceBEq, reduceEqDiff, reduceLT, reduceLeDiff, reduceMul, reduceSub, reduceCtorEq, reduceIte] <;> rfl); (simp only [go_sem, reduceAdd, Nat.reduceBEq, reduceEqDiff, reduceLT, reduceLeDiff, reduceMul, reduceSub, reduceCtorEq, reduceIte] <;> rfl))
    | exact wo_nil rfl)) ?_
          refine blk_normal ?_
          refine wc_last (by simp only [go_sem, reduceAdd, Nat.reduceBEq, reduceEqDiff, reduceLT, reduceLeDiff, reduceMul, reduceSub, reduceCtorEq, reduceIte] <;> rfl) ?_
          refine loop_next (m - 1) (by omega) (gh_keep [5, 1, 8, 9, 10] [31] rfl rfl) ⟨j + 1, A, by omega, hnx.symm, .inr (.inr ⟨hA0, ?_⟩)⟩
          simp only [hw]
          rfl
      · have heB' : B.isEmpty = false := by cases B with
          | nil => exact absurd rfl hB
          | cons => rfl
        have hsB := hsz B
        have heB := hem B
        have hlB := encL_length B
        have heAB : encL A ++ encL B = encL (A ++ B) := by simp [encL_map]
        have c1 : (A.length + B.length) * 80 ≤ 140737488355328 := by omega
        have c2 : A.length + B.length ≤ 140737488355328 := by omega
        have c3 : B.length * 80 ≤ 140737488355328 := by omega
        have c4 : B.length ≤ 140737488355328 := by omega
        rcases hσ with ⟨hA0, rfl⟩ | ⟨hA0, rfl⟩ | ⟨hA0, rfl⟩
        · (repeat refine wc_assoc ?_); refine wc_then (by simp only [d1, go_sem, reduceAdd, Nat.reduceBEq, reduceEqDiff, reduceLT, reduceLeDiff, reduceMul, reduceSub, reduceCtorEq, reduceIte] <;> rfl) ?_
          (repeat refine wc_assoc ?_); refine wc_condThen (by simp only [go_sem, reduceAdd, Nat.reduceBEq, reduceEqDiff, reduceLT, reduceLeDiff, reduceMul, reduceSub, reduceCtorEq, reduceIte] <;> rfl) (fun hc => ?_) (fun hc => ?_)
          rotate_left
          · cases hc
          refine wc_skip ?_
          refine wc_blockThen ?_
          (repeat refine wc_assoc ?_); refine wc_then (by simp only [g1, Nat.le_refl, Int.toNat_natCast, Int.natCast_nonneg, go_sem, reduceAdd, Nat.reduceBEq, reduceEqDiff, reduceLT, reduceLeDiff, reduceMul, reduceSub, reduceCtorEq, reduceIte] <;> rfl) ?_
          (repeat refine wc_assoc ?_);  refine wc_then (by repeat (first
    | (apply wo_op (hg := rfl) (hc := rfl) (hd := rfl); (simp only [hd1, hd2, go_sem, reduceAdd, Nat.reduceBEq, reduceEqDiff, reduceLT, reduceLeDiff, reduceMul, reduceSub, reduceCtorEq, reduceIte] <;> rfl); (simp only [go_sem, reduceAdd, Nat.reduceBEq, reduceEqDiff, reduceLT, reduceLeDiff, reduceMul, reduceSub, reduceCtorEq, reduceIte] <;> rfl))
    | (apply wo_eff (hg := rfl) (hc := rfl) (hd := rfl); (simp only [hd1, hd2, go_sem, reduceAdd, Nat.reduceBEq, reduceEqDiff, reduceLT, reduceLeDiff, reduceMul, reduceSub, reduceCtorEq, reduceIte] <;> rfl); (simp only [go_sem, reduceAdd, Nat.reduceBEq, reduceEqDiff, reduceLT, reduceLeDiff, reduceMul, reduceSub, reduceCtorEq, reduceIte] <;> rfl))
    | (apply wo_gT (hg := rfl); (simp only [hd1, hd2, go_sem, reduceAdd, Nat.reduceBEq, reduceEqDiff, reduceLT, reduceLeDiff, reduceMul, reduceSub, reduceCtorEq, reduceIte] <;> rfl))
    | (apply wo_gU (hg := rfl) (hd := rfl); (simp only [hd1, hd2, go_sem, reduceAdd, Nat.reduceBEq, reduceEqDiff, reduceLT, reduceLeDiff, reduceMul, reduceSub, reduceCtorEq, reduceIte] <;> rfl); (simp only [go_sem, reduceAdd, Nat.reduceBEq, reduceEqDiff, reduceLT, reduceLeDiff, reduceMul, reduceSub, reduceCtorEq, reduceIte] <;> rfl))
    | (apply wo_gF (hg := rfl) (hd := rfl); (simp only [hd1, hd2, go_sem, reduceAdd, Nat.reduceBEq, reduceEqDiff, reduceLT, reduceLeDiff, reduceMul, reduceSub, reduceCtorEq, reduceIte] <;> rfl); (simp only [go_sem, reduceAdd, Nat.reduceBEq, reduceEqDiff, reduceLT, reduceLeDiff, reduceMul, reduceSub, reduceCtorEq, reduceIte] <;> rfl))
    | exact wo_nil rfl)) ?_
          refine wc_cond (t := true) (by rfl) (fun hc => ?_) (fun hc => by cases hc)
          refine wc_last (by
            repeat (first
    | (apply wo_op (hg := rfl) (hc := rfl) (hd := rfl); (simp only [hdw, go_sem, reduceAdd, Nat.reduceBEq, reduceEqDiff, reduceLT, reduceLeDiff, reduceMul, reduceSub, reduceCtorEq, reduceIte] <;> rfl); (simp only [go_sem, reduceAdd, Nat.reduceBEq, reduceEqDiff, reduceLT, reduceLeDiff, reduceMul, reduceSub, reduceCtorEq, reduceIte] <;> rfl))
    | (apply wo_eff (hg := rfl) (hc := rfl) (hd := rfl); (simp only [hdw, go_sem, reduceAdd, Nat.reduceBEq, reduceEqDiff, reduceLT, reduceLeDiff, reduceMul, reduceSub, reduceCtorEq, reduceIte] <;> rfl); (simp only [go_sem, reduceAdd, Nat.reduceBEq, reduceEqDiff, reduceLT, reduceLeDiff, reduceMul, reduceSub, reduceCtorEq, reduceIte] <;> rfl))
    | (apply wo_gT (hg := rfl); (simp only [hdw, go_sem, reduceAdd, Nat.reduceBEq, reduceEqDiff, reduceLT, reduceLeDiff, reduceMul, reduceSub, reduceCtorEq, reduceIte] <;> rfl))
    | (apply wo_gU (hg := rfl) (hd := rfl); (simp only [hdw, go_sem, reduceAdd, Nat.reduceBEq, reduceEqDiff, reduceLT, reduceLeDiff, reduceMul, reduceSub, reduceCtorEq, reduceIte] <;> rfl); (simp only [go_sem, reduceAdd, Nat.reduceBEq, reduceEqDiff, reduceLT, reduceLeDiff, reduceMul, reduceSub, reduceCtorEq, reduceIte] <;> rfl))
    | (apply wo_gF (hg := rfl) (hd := rfl); (simp only [hdw, go_sem, reduceAdd, Nat.reduceBEq, reduceEqDiff, reduceLT, reduceLeDiff, reduceMul, reduceSub, reduceCtorEq, reduceIte] <;> rfl); (simp only [go_sem, reduceAdd, Nat.reduceBEq, reduceEqDiff, reduceLT, reduceLeDiff, reduceMul, reduceSub, reduceCtorEq, reduceIte] <;> rfl))
    | exact wo_nil rfl)
            refine wo_call rfl rfl (by simp only [go_sem, reduceAdd, Nat.reduceBEq, reduceEqDiff, reduceLT, reduceLeDiff, reduceMul, reduceSub, reduceCtorEq, reduceIte] <;> rfl) (by simp only [go_sem, reduceAdd, Nat.reduceBEq, reduceEqDiff, reduceLT, reduceLeDiff, reduceMul, reduceSub, reduceCtorEq, reduceIte] <;> rfl) (.refl _) ((hsp)) rfl (by simp only [go_sem, reduceAdd, Nat.reduceBEq, reduceEqDiff, reduceLT, reduceLeDiff, reduceMul, reduceSub, reduceCtorEq, reduceIte] <;> rfl) ?_
            repeat (first
    | (apply wo_op (hg := rfl) (hc := rfl) (hd := rfl); (simp only [heB, heB', hsB, hlB, hlA, c1, c2, c3, c4, heAB, go_sem, reduceAdd, Nat.reduceBEq, reduceEqDiff, reduceLT, reduceLeDiff, reduceMul, reduceSub, reduceCtorEq, reduceIte] <;> rfl); (simp only [go_sem, reduceAdd, Nat.reduceBEq, reduceEqDiff, reduceLT, reduceLeDiff, reduceMul, reduceSub, reduceCtorEq, reduceIte] <;> rfl))
    | (apply wo_eff (hg := rfl) (hc := rfl) (hd := rfl); (simp only [heB, heB', hsB, hlB, hlA, c1, c2, c3, c4, heAB, go_sem, reduceAdd, Nat.reduceBEq, reduceEqDiff, reduceLT, reduceLeDiff, reduceMul, reduceSub, reduceCtorEq, reduceIte] <;> rfl); (simp only [go_sem, reduceAdd, Nat.reduceBEq, reduceEqDiff, reduceLT, reduceLeDiff, reduceMul, reduceSub, reduceCtorEq, reduceIte] <;> rfl))
    | (apply wo_gT (hg := rfl); (simp only [heB, heB', hsB, hlB, hlA, c1, c2, c3, c4, heAB, go_sem, reduceAdd, Nat.reduceBEq, reduceEqDiff, reduceLT, reduceLeDiff, reduceMul, reduceSub, reduceCtorEq, reduceIte] <;> rfl))
    | (apply wo_gU (hg := rfl) (hd := rfl); (simp only [heB, heB', hsB, hlB, hlA, c1, c2, c3, c4, heAB, go_sem, reduceAdd, Nat.reduceBEq, reduceEqDiff, reduceLT, reduceLeDiff, reduceMul, reduceSub, reduceCtorEq, reduceIte] <;> rfl); (simp only [go_sem, reduceAdd, Nat.reduceBEq, reduceEqDiff, reduceLT, reduceLeDiff, reduceMul, reduceSub, reduceCtorEq, reduceIte] <;> rfl))
    | (apply wo_gF (hg := rfl) (hd := rfl); (simp only [heB, heB', hsB, hlB, hlA, c1, c2, c3, c4, heAB, go_sem, reduceAdd, Nat.reduceBEq, reduceEqDiff, reduceLT, reduceLeDiff, reduceMul, reduceSub, reduceCtorEq, reduceIte] <;> rfl); (simp only [go_sem, reduceAdd, Nat.reduceBEq, reduceEqDiff, reduceLT, reduceLeDiff, reduceMul, reduceSub, reduceCtorEq, reduceIte] <;> rfl))
    | exact wo_nil rfl)) ?_
          refine blk_normal ?_
          refine wc_last (by simp only [go_sem, reduceAdd, Nat.reduceBEq, reduceEqDiff, reduceLT, reduceLeDiff, reduceMul, reduceSub, reduceCtorEq, reduceIte] <;> rfl) ?_
          refine loop_next (m - 1) (by omega) (gh_keep [5, 1, 8, 9, 10] [27] rfl rfl) ⟨j + 1, A ++ B, by omega, hnx.symm, .inr (.inl ⟨by simp [hB], ?_⟩)⟩
          subst hA0
          simp only [hw, List.nil_append]
          rfl
        · (repeat refine wc_assoc ?_); refine wc_then (by simp only [d1, go_sem, reduceAdd, Nat.reduceBEq, reduceEqDiff, reduceLT, reduceLeDiff, reduceMul, reduceSub, reduceCtorEq, reduceIte] <;> rfl) ?_
          (repeat refine wc_assoc ?_); refine wc_condThen (by simp only [go_sem, reduceAdd, Nat.reduceBEq, reduceEqDiff, reduceLT, reduceLeDiff, reduceMul, reduceSub, reduceCtorEq, reduceIte] <;> rfl) (fun hc => ?_) (fun hc => ?_)
          rotate_left
          · cases hc
          refine wc_skip ?_
          refine wc_blockThen ?_
          (repeat refine wc_assoc ?_); refine wc_then (by simp only [g1, Nat.le_refl, Int.toNat_natCast, Int.natCast_nonneg, go_sem, reduceAdd, Nat.reduceBEq, reduceEqDiff, reduceLT, reduceLeDiff, reduceMul, reduceSub, reduceCtorEq, reduceIte] <;> rfl) ?_
          (repeat refine wc_assoc ?_);  refine wc_then (by repeat (first
    | (apply wo_op (hg := rfl) (hc := rfl) (hd := rfl); (simp only [hd1, hd2, go_sem, reduceAdd, Nat.reduceBEq, reduceEqDiff, reduceLT, reduceLeDiff, reduceMul, reduceSub, reduceCtorEq, reduceIte] <;> rfl); (simp only [go_sem, reduceAdd, Nat.reduceBEq, reduceEqDiff, reduceLT, reduceLeDiff, reduceMul, reduceSub, reduceCtorEq, reduceIte] <;> rfl))
    | (apply wo_eff (hg := rfl) (hc := rfl) (hd := rfl); (simp only [hd1, hd2, go_sem, reduceAdd, Nat.reduceBEq, reduceEqDiff, reduceLT, reduceLeDiff, reduceMul, reduceSub, reduceCtorEq, reduceIte] <;> rfl); (simp only [go_sem, reduceAdd, Nat.reduceBEq, reduceEqDiff, reduceLT, reduceLeDiff, reduceMul, reduceSub, reduceCtorEq, reduceIte] <;> rfl))
    | (apply wo_gT (hg := rfl); (simp only [hd1, hd2, go_sem, reduceAdd, Nat.reduceBEq, reduceEqDiff, reduceLT, reduceLeDiff, reduceMul, reduceSub, reduceCtorEq, reduceIte] <;> rfl))
    | (apply wo_gU (hg := rfl) (hd := rfl); (simp only [hd1, hd2, go_sem, reduceAdd, Nat.reduceBEq, reduceEqDiff, reduceLT, reduceLeDiff, reduceMul, reduceSub, reduceCtorEq, reduceIte] <;> rfl); (simp only [go_sem, reduceAdd, Nat.reduceBEq, reduceEqDiff, reduceLT, reduceLeDiff, reduceMul, reduceSub, reduceCtorEq, reduceIte] <;> rfl))
    | (apply wo_gF (hg := rfl) (hd := rfl); (simp only [hd1, hd2, go_sem, reduceAdd, Nat.reduceBEq, reduceEqDiff, reduceLT, reduceLeDiff, reduceMul, reduceSub, reduceCtorEq, reduceIte] <;> rfl); (simp only [go_sem, reduceAdd, Nat.reduceBEq, reduceEqDiff, reduceLT, reduceLeDiff, reduceMul, reduceSub, reduceCtorEq, reduceIte] <;> rfl))
    | exact wo_nil rfl)) ?_
          refine wc_cond (t := true) (by rfl) (fun hc => ?_) (fun hc => by cases hc)
          refine wc_last (by
            repeat (first
    | (apply wo_op (hg := rfl) (hc := rfl) (hd := rfl); (simp only [hdw, go_sem, reduceAdd, Nat.reduceBEq, reduceEqDiff, reduceLT, reduceLeDiff, reduceMul, reduceSub, reduceCtorEq, reduceIte] <;> rfl); (simp only [go_sem, reduceAdd, Nat.reduceBEq, reduceEqDiff, reduceLT, reduceLeDiff, reduceMul, reduceSub, reduceCtorEq, reduceIte] <;> rfl))
    | (apply wo_eff (hg := rfl) (hc := rfl) (hd := rfl); (simp only [hdw, go_sem, reduceAdd, Nat.reduceBEq, reduceEqDiff, reduceLT, reduceLeDiff, reduceMul, reduceSub, reduceCtorEq, reduceIte] <;> rfl); (simp only [go_sem, reduceAdd, Nat.reduceBEq, reduceEqDiff, reduceLT, reduceLeDiff, reduceMul, reduceSub, reduceCtorEq, reduceIte] <;> rfl))
    | (apply wo_gT (hg := rfl); (simp only [hdw, go_sem, reduceAdd, Nat.reduceBEq, reduceEqDiff, reduceLT, reduceLeDiff, reduceMul, reduceSub, reduceCtorEq, reduceIte] <;> rfl))
    | (apply wo_gU (hg := rfl) (hd := rfl); (simp only [hdw, go_sem, reduceAdd, Nat.reduceBEq, reduceEqDiff, reduceLT, reduceLeDiff, reduceMul, reduceSub, reduceCtorEq, reduceIte] <;> rfl); (simp only [go_sem, reduceAdd, Nat.reduceBEq, reduceEqDiff, reduceLT, reduceLeDiff, reduceMul, reduceSub, reduceCtorEq, reduceIte] <;> rfl))
    | (apply wo_gF (hg := rfl) (hd := rfl); (simp only [hdw, go_sem, reduceAdd, Nat.reduceBEq, reduceEqDiff, reduceLT, reduceLeDiff, reduceMul, reduceSub, reduceCtorEq, reduceIte] <;> rfl); (simp only [go_sem, reduceAdd, Nat.reduceBEq, reduceEqDiff, reduceLT, reduceLeDiff, reduceMul, reduceSub, reduceCtorEq, reduceIte] <;> rfl))
    | exact wo_nil rfl)
            refine wo_call rfl rfl (by simp only [go_sem, reduceAdd, Nat.reduceBEq, reduceEqDiff, reduceLT, reduceLeDiff, reduceMul, reduceSub, reduceCtorEq, reduceIte] <;> rfl) (by simp only [go_sem, reduceAdd, Nat.reduceBEq, reduceEqDiff, reduceLT, reduceLeDiff, reduceMul, reduceSub, reduceCtorEq, reduceIte] <;> rfl) (.refl _) ((hsp)) rfl (by simp only [go_sem, reduceAdd, Nat.reduceBEq, reduceEqDiff, reduceLT, reduceLeDiff, reduceMul, reduceSub, reduceCtorEq, reduceIte] <;> rfl) ?_
            repeat (first
    | (apply wo_op (hg := rfl) (hc := rfl) (hd := rfl); (simp only [heB, heB', hsB, hlB, hlA, c1, c2, c3, c4, heAB, go_sem, reduceAdd, Nat.reduceBEq, reduceEqDiff, reduceLT, reduceLeDiff, reduceMul, reduceSub, reduceCtorEq, reduceIte] <;> rfl); (simp only [go_sem, reduceAdd, Nat.reduceBEq, reduceEqDiff, reduceLT, reduceLeDiff, reduceMul, reduceSub, reduceCtorEq, reduceIte] <;> rfl))
    | (apply wo_eff (hg := rfl) (hc := rfl) (hd := rfl); (simp only [heB, heB', hsB, hlB, hlA, c1, c2, c3, c4, heAB, go_sem, reduceAdd, Nat.reduceBEq, reduceEqDiff, reduceLT, reduceLeDiff, reduceMul, reduceSub, reduceCtorEq, reduceIte] <;> rfl); (simp only [go_sem, reduceAdd, Nat.reduceBEq, reduceEqDiff, reduceLT, reduceLeDiff, reduceMul, reduceSub, reduceCtorEq, reduceIte] <;> rfl))
    | (apply wo_gT (hg := rfl); (simp only [heB, heB', hsB, hlB, hlA, c1, c2, c3, c4, heAB, go_sem, reduceAdd, Nat.reduceBEq, reduceEqDiff, reduceLT, reduceLeDiff, reduceMul, reduceSub, reduceCtorEq, reduceIte] <;> rfl))
    | (apply wo_gU (hg := rfl) (hd := rfl); (simp only [heB, heB', hsB, hlB, hlA, c1, c2, c3, c4, heAB, go_sem, reduceAdd, Nat.reduceBEq, reduceEqDiff, reduceLT, reduceLeDiff, reduceMul, reduceSub, reduceCtorEq, reduceIte] <;> rfl); (simp only [go_sem, reduceAdd, Nat.reduceBEq, reduceEqDiff, reduceLT, reduceLeDiff, reduceMul, reduceSub, reduceCtorEq, reduceIte] <;> rfl))
    | (apply wo_gF (hg := rfl) (hd := rfl); (simp only [heB, heB', hsB, hlB, hlA, c1, c2, c3, c4, heAB, go_sem, reduceAdd, Nat.reduceBEq, reduceEqDiff, reduceLT, reduceLeDiff, reduceMul, reduceSub, reduceCtorEq, reduceIte] <;> rfl); (simp only [go_sem, reduceAdd, Nat.reduceBEq, reduceEqDiff, reduceLT, reduceLeDiff, reduceMul, reduceSub, reduceCtorEq, reduceIte] <;> rfl))
    | exact wo_nil rfl)) ?_
          refine blk_normal ?_
          refine wc_last (by simp only [go_sem, reduceAdd, Nat.reduceBEq, reduceEqDiff, reduceLT, reduceLeDiff, reduceMul, reduceSub, reduceCtorEq, reduceIte] <;> rfl) ?_
          refine loop_next (m - 1) (by omega) (gh_keep [5, 1, 8, 9, 10] [27] rfl rfl) ⟨j + 1, A ++ B, by omega, hnx.symm, .inr (.inl ⟨by simp [hB], ?_⟩)⟩
          simp only [hw, List.length_append]
          rfl
        · (repeat refine wc_assoc ?_); refine wc_then (by simp only [d1, go_sem, reduceAdd, Nat.reduceBEq, reduceEqDiff, reduceLT, reduceLeDiff, reduceMul, reduceSub, reduceCtorEq, reduceIte] <;> rfl) ?_
          (repeat refine wc_assoc ?_); refine wc_condThen (by simp only [go_sem, reduceAdd, Nat.reduceBEq, reduceEqDiff, reduceLT, reduceLeDiff, reduceMul, reduceSub, reduceCtorEq, reduceIte] <;> rfl) (fun hc => ?_) (fun hc => ?_)
          rotate_left
          · cases hc
          refine wc_skip ?_
          refine wc_blockThen ?_
          (repeat refine wc_assoc ?_); refine wc_then (by simp only [g1, Nat.le_refl, Int.toNat_natCast, Int.natCast_nonneg, go_sem, reduceAdd, Nat.reduceBEq, reduceEqDiff, reduceLT, reduceLeDiff, reduceMul, reduceSub, reduceCtorEq, reduceIte] <;> rfl) ?_
          (repeat refine wc_assoc ?_);  refine wc_then (by repeat (first
    | (apply wo_op (hg := rfl) (hc := rfl) (hd := rfl); (simp only [hd1, hd2, go_sem, reduceAdd, Nat.reduceBEq, reduceEqDiff, reduceLT, reduceLeDiff, reduceMul, reduceSub, reduceCtorEq, reduceIte] <;> rfl); (simp only [go_sem, reduceAdd, Nat.reduceBEq, reduceEqDiff, reduceLT, reduceLeDiff, reduceMul, reduceSub, reduceCtorEq, reduceIte] <;> rfl))
    | (apply wo_eff (hg := rfl) (hc := rfl) (hd := rfl); (simp only [hd1, hd2, go_sem, reduceAdd, Nat.reduceBEq, reduceEqDiff, reduceLT, reduceLeDiff, reduceMul, reduceSub, reduceCtorEq, reduceIte] <;> rfl); (simp only [go_sem, reduceAdd, Nat.reduceBEq, reduceEqDiff, reduceLT, reduceLeDiff, reduceMul, reduceSub, reduceCtorEq, reduceIte] <;> rfl))
    | (apply wo_gT (hg := rfl); (simp only [hd1, hd2, go_sem, reduceAdd, Nat.reduceBEq, reduceEqDiff, reduceLT, reduceLeDiff, reduceMul, reduceSub, reduceCtorEq, reduceIte] <;> rfl))
    | (apply wo_gU (hg := rfl) (hd := rfl); (simp only [hd1, hd2, go_sem, reduceAdd, Nat.reduceBEq, reduceEqDiff, reduceLT, reduceLeDiff, reduceMul, reduceSub, reduceCtorEq, reduceIte] <;> rfl); (simp only [go_sem, reduceAdd, Nat.reduceBEq, reduceEqDiff, reduceLT, reduceLeDiff, reduceMul, reduceSub, reduceCtorEq, reduceIte] <;> rfl))
    | (apply wo_gF (hg := rfl) (hd := rfl); (simp only [hd1, hd2, go_sem, reduceAdd, Nat.reduceBEq, reduceEqDiff, reduceLT, reduceLeDiff, reduceMul, reduceSub, reduceCtorEq, reduceIte] <;> rfl); (simp only [go_sem, reduceAdd, Nat.reduceBEq, reduceEqDiff, reduceLT, reduceLeDiff, reduceMul, reduceSub, reduceCtorEq, reduceIte] <;> rfl))
    | exact wo_nil rfl)) ?_
          refine wc_cond (t := true) (by rfl) (fun hc => ?_) (fun hc => by cases hc)
          refine wc_last (by
            repeat (first
    | (apply wo_op (hg := rfl) (hc := rfl) (hd := rfl); (simp only [hdw, go_sem, reduceAdd, Nat.reduceBEq, reduceEqDiff, reduceLT, reduceLeDiff, reduceMul, reduceSub, reduceCtorEq, reduceIte] <;> rfl); (simp only [go_sem, reduceAdd, Nat.reduceBEq, reduceEqDiff, reduceLT, reduceLeDiff, reduceMul, reduceSub, reduceCtorEq, reduceIte] <;> rfl))
    | (apply wo_eff (hg := rfl) (hc := rfl) (hd := rfl); (simp only [hdw, go_sem, reduceAdd, Nat.reduceBEq, reduceEqDiff, reduceLT, reduceLeDiff, reduceMul, reduceSub, reduceCtorEq, reduceIte] <;> rfl); (simp only [go_sem, reduceAdd, Nat.reduceBEq, reduceEqDiff, reduceLT, reduceLeDiff, reduceMul, reduceSub, reduceCtorEq, reduceIte] <;> rfl))
    | (apply wo_gT (hg := rfl); (simp only [hdw, go_sem, reduceAdd, Nat.reduceBEq, reduceEqDiff, reduceLT, reduceLeDiff, reduceMul, reduceSub, reduceCtorEq, reduceIte] <;> rfl))
    | (apply wo_gU (hg := rfl) (hd := rfl); (simp only [hdw, go_sem, reduceAdd, Nat.reduceBEq, reduceEqDiff, reduceLT, reduceLeDiff, reduceMul, reduceSub, reduceCtorEq, reduceIte] <;> rfl); (simp only [go_sem, reduceAdd, Nat.reduceBEq, reduceEqDiff, reduceLT, reduceLeDiff, reduceMul, reduceSub, reduceCtorEq, reduceIte] <;> rfl))
    | (apply wo_gF (hg := rfl) (hd := rfl); (simp only [hdw, go_sem, reduceAdd, Nat.reduceBEq, reduceEqDiff, reduceLT, reduceLeDiff, reduceMul, reduceSub, reduceCtorEq, reduceIte] <;> rfl); (simp only [go_sem, reduceAdd, Nat.reduceBEq, reduceEqDiff, reduceLT, reduceLeDiff, reduceMul, reduceSub, reduceCtorEq, reduceIte] <;> rfl))
    | exact wo_nil rfl)
            refine wo_call rfl rfl (by simp only [go_sem, reduceAdd, Nat.reduceBEq, reduceEqDiff, reduceLT, reduceLeDiff, reduceMul, reduceSub, reduceCtorEq, reduceIte] <;> rfl) (by simp only [go_sem, reduceAdd, Nat.reduceBEq, reduceEqDiff, reduceLT, reduceLeDiff, reduceMul, reduceSub, reduceCtorEq, reduceIte] <;> rfl) (.refl _) ((hsp)) rfl (by simp only [go_sem, reduceAdd, Nat.reduceBEq, reduceEqDiff, reduceLT, reduceLeDiff, reduceMul, reduceSub, reduceCtorEq, reduceIte] <;> rfl) ?_
            repeat (first
    | (apply wo_op (hg := rfl) (hc := rfl) (hd := rfl); (simp only [heB, heB', hsB, hlB, hlA, c1, c2, c3, c4, heAB, go_sem, reduceAdd, Nat.reduceBEq, reduceEqDiff, reduceLT, reduceLeDiff, reduceMul, reduceSub, reduceCtorEq, reduceIte] <;> rfl); (simp only [go_sem, reduceAdd, Nat.reduceBEq, reduceEqDiff, reduceLT, reduceLeDiff, reduceMul, reduceSub, reduceCtorEq, reduceIte] <;> rfl))
    | (apply wo_eff (hg := rfl) (hc := rfl) (hd := rfl); (simp only [heB, heB', hsB, hlB, hlA, c1, c2, c3, c4, heAB, go_sem, reduceAdd, Nat.reduceBEq, reduceEqDiff, reduceLT, reduceLeDiff, reduceMul, reduceSub, reduceCtorEq, reduceIte] <;> rfl); (simp only [go_sem, reduceAdd, Nat.reduceBEq, reduceEqDiff, reduceLT, reduceLeDiff, reduceMul, reduceSub, reduceCtorEq, reduceIte] <;> rfl))
    | (apply wo_gT (hg := rfl); (simp only [heB, heB', hsB, hlB, hlA, c1, c2, c3, c4, heAB, go_sem, reduceAdd, Nat.reduceBEq, reduceEqDiff, reduceLT, reduceLeDiff, reduceMul, reduceSub, reduceCtorEq, reduceIte] <;> rfl))
    | (apply wo_gU (hg := rfl) (hd := rfl); (simp only [heB, heB', hsB, hlB, hlA, c1, c2, c3, c4, heAB, go_sem, reduceAdd, Nat.reduceBEq, reduceEqDiff, reduceLT, reduceLeDiff, reduceMul, reduceSub, reduceCtorEq, reduceIte] <;> rfl); (simp only [go_sem, reduceAdd, Nat.reduceBEq, reduceEqDiff, reduceLT, reduceLeDiff, reduceMul, reduceSub, reduceCtorEq, reduceIte] <;> rfl))
    | (apply wo_gF (hg := rfl) (hd := rfl); (simp only [heB, heB', hsB, hlB, hlA, c1, c2, c3, c4, heAB, go_sem, reduceAdd, Nat.reduceBEq, reduceEqDiff, reduceLT, reduceLeDiff, reduceMul, reduceSub, reduceCtorEq, reduceIte] <;> rfl); (simp only [go_sem, reduceAdd, Nat.reduceBEq, reduceEqDiff, reduceLT, reduceLeDiff, reduceMul, reduceSub, reduceCtorEq, reduceIte] <;> rfl))
    | exact wo_nil rfl)) ?_
          refine blk_normal ?_
          refine wc_last (by simp only [go_sem, reduceAdd, Nat.reduceBEq, reduceEqDiff, reduceLT, reduceLeDiff, reduceMul, reduceSub, reduceCtorEq, reduceIte] <;> rfl) ?_
          refine loop_next (m - 1) (by omega) (gh_keep [5, 1, 8, 9, 10] [31] rfl rfl) ⟨j + 1, A ++ B, by omega, hnx.symm, .inr (.inr ⟨by simp [hB], ?_⟩)⟩
          simp only [hw, List.length_append]
          rfl
    · have hbf : (b1 && b2) = false := by simpa using hbb
      rw [if_neg hbb] at hnx hAl
      have heA1 : encL (A ++ [V.mk k i s ks es]) = encL A ++ [.agg [.int .i64 k, .int .i64 i, .str s, .slice (ks.map .str), .slice (encL es)]] := by simp [encL_map, V.enc]
      simp only [List.length_cons, List.length_nil] at hAl
      have c1 : (A.length + 1) * 80 ≤ 140737488355328 := by omega
      have c2 : A.length + 1 ≤ 140737488355328 := by omega
      rcases hσ with ⟨hA0, rfl⟩ | ⟨hA0, rfl⟩ | ⟨hA0, rfl⟩
      · (repeat refine wc_assoc ?_); refine wc_then (by simp only [d1, go_sem, reduceAdd, Nat.reduceBEq, reduceEqDiff, reduceLT, reduceLeDiff, reduceMul, reduceSub, reduceCtorEq, reduceIte] <;> rfl) ?_
        (repeat refine wc_assoc ?_); refine wc_condThen (by simp only [go_sem, reduceAdd, Nat.reduceBEq, reduceEqDiff, reduceLT, reduceLeDiff, reduceMul, reduceSub, reduceCtorEq, reduceIte] <;> rfl) (fun hc => ?_) (fun hc => ?_)
        rotate_left
        · cases hc
        refine wc_skip ?_
        refine wc_blockThen ?_
        (repeat refine wc_assoc ?_); refine wc_then (by simp only [g1, Nat.le_refl, Int.toNat_natCast, Int.natCast_nonneg, go_sem, reduceAdd, Nat.reduceBEq, reduceEqDiff, reduceLT, reduceLeDiff, reduceMul, reduceSub, reduceCtorEq, reduceIte] <;> rfl) ?_
        refine wc_regCondEnd (b1 && b2) ⟨[(5, .d .nil), (7, .obj 7 0 0), (1, .d (.int .i64 d)), (8, .d (.slice (encL l))), (9, .d (.int .i64 (l.length : Nat))), (10, .d (.int .i64 (j : Nat)))], [(7, .box 0 [.d (.int .i64 k), .d (.int .i64 i), .d (.str s), .d (.slice (ks.map .str)), .d (.slice (encL es))])]⟩ (.refl _) (by
          clear hbb hbf
          repeat' (first | (apply wo_op (hg := rfl) (hc := rfl) (hd := rfl); (simp only [hd1, hd2, go_sem, reduceAdd, Nat.reduceBEq, reduceEqDiff, reduceLT, reduceLeDiff, reduceMul, reduceSub, reduceCtorEq, reduceIte] <;> rfl); (simp only [go_sem, reduceAdd, Nat.reduceBEq, reduceEqDiff, reduceLT, reduceLeDiff, reduceMul, reduceSub, reduceCtorEq, reduceIte] <;> rfl)) | (apply wo_eff (hg := rfl) (hc := rfl) (hd := rfl); (simp only [hd1, hd2, go_sem, reduceAdd, Nat.reduceBEq, reduceEqDiff, reduceLT, reduceLeDiff, reduceMul, reduceSub, reduceCtorEq, reduceIte] <;> rfl); (simp only [go_sem, reduceAdd, Nat.reduceBEq, reduceEqDiff, reduceLT, reduceLeDiff, reduceMul, reduceSub, reduceCtorEq, reduceIte] <;> rfl)) | (apply wo_gT (hg := rfl); (simp only [hd1, hd2, go_sem, reduceAdd, Nat.reduceBEq, reduceEqDiff, reduceLT, reduceLeDiff, reduceMul, reduceSub, reduceCtorEq, reduceIte] <;> rfl)) | (apply wo_gU (hg := rfl) (hd := rfl); (simp only [hd1, hd2, go_sem, reduceAdd, Nat.reduceBEq, reduceEqDiff, reduceLT, reduceLeDiff, reduceMul, reduceSub, reduceCtorEq, reduceIte] <;> rfl); (simp only [go_sem, reduceAdd, Nat.reduceBEq, reduceEqDiff, reduceLT, reduceLeDiff, reduceMul, reduceSub, reduceCtorEq, reduceIte] <;> rfl)) | (apply wo_gF (hg := rfl) (hd := rfl); (simp only [hd1, hd2, go_sem, reduceAdd, Nat.reduceBEq, reduceEqDiff, reduceLT, reduceLeDiff, reduceMul, reduceSub, reduceCtorEq, reduceIte] <;> rfl); (simp only [go_sem, reduceAdd, Nat.reduceBEq, reduceEqDiff, reduceLT, reduceLeDiff, reduceMul, reduceSub, reduceCtorEq, reduceIte] <;> rfl)) | (refine wo_gST rfl (by simp only [hd1, hd2, go_sem, reduceAdd, Nat.reduceBEq, reduceEqDiff, reduceLT, reduceLeDiff, reduceMul, reduceSub, reduceCtorEq, reduceIte] <;> rfl) rfl (fun hb => ?_) (fun hb => ?_) <;> (first | subst hb | (rw [Bool.not_eq_true'] at hb; subst hb) | (rw [Bool.not_eq_false'] at hb; subst hb))) | (refine wo_gSF rfl (by simp only [hd1, hd2, go_sem, reduceAdd, Nat.reduceBEq, reduceEqDiff, reduceLT, reduceLeDiff, reduceMul, reduceSub, reduceCtorEq, reduceIte] <;> rfl) rfl (fun hb => ?_) (fun hb => ?_) <;> (first | subst hb | (rw [Bool.not_eq_true'] at hb; subst hb) | (rw [Bool.not_eq_false'] at hb; subst hb))) | refine wo_nil ?_)
          all_goals exact ⟨rfl, gh_keep [5, 7, 1, 8, 9, 10] [7] rfl rfl⟩) (fun hc σ' hg => by rw [hbf] at hc; cases hc) (fun hc σ' hg => ?_)
        refine wc_lastG hg (by repeat (first
    | (apply wo_op (hg := rfl) (hc := rfl) (hd := rfl); (simp only [List.isEmpty_cons, hlA, c1, c2, go_sem, reduceAdd, Nat.reduceBEq, reduceEqDiff, reduceLT, reduceLeDiff, reduceMul, reduceSub, reduceCtorEq, reduceIte] <;> rfl); (simp only [go_sem, reduceAdd, Nat.reduceBEq, reduceEqDiff, reduceLT, reduceLeDiff, reduceMul, reduceSub, reduceCtorEq, reduceIte] <;> rfl))
    | (apply wo_eff (hg := rfl) (hc := rfl) (hd := rfl); (simp only [List.isEmpty_cons, hlA, c1, c2, go_sem, reduceAdd, Nat.reduceBEq, reduceEqDiff, reduceLT, reduceLeDiff, reduceMul, reduceSub, reduceCtorEq, reduceIte] <;> rfl); (simp only [go_sem, reduceAdd, Nat.reduceBEq, reduceEqDiff, reduceLT, reduceLeDiff, reduceMul, reduceSub, reduceCtorEq, reduceIte] <;> rfl))
    | (apply wo_gT (hg := rfl); (simp only [List.isEmpty_cons, hlA, c1, c2, go_sem, reduceAdd, Nat.reduceBEq, reduceEqDiff, reduceLT, reduceLeDiff, reduceMul, reduceSub, reduceCtorEq, reduceIte] <;> rfl))
    | (apply wo_gU (hg := rfl) (hd := rfl); (simp only [List.isEmpty_cons, hlA, c1, c2, go_sem, reduceAdd, Nat.reduceBEq, reduceEqDiff, reduceLT, reduceLeDiff, reduceMul, reduceSub, reduceCtorEq, reduceIte] <;> rfl); (simp only [go_sem, reduceAdd, Nat.reduceBEq, reduceEqDiff, reduceLT, reduceLeDiff, reduceMul, reduceSub, reduceCtorEq, reduceIte] <;> rfl))
    | (apply wo_gF (hg := rfl) (hd := rfl); (simp only [List.isEmpty_cons, hlA, c1, c2, go_sem, reduceAdd, Nat.reduceBEq, reduceEqDiff, reduceLT, reduceLeDiff, reduceMul, reduceSub, reduceCtorEq, reduceIte] <;> rfl); (simp only [go_sem, reduceAdd, Nat.reduceBEq, reduceEqDiff, reduceLT, reduceLeDiff, reduceMul, reduceSub, reduceCtorEq, reduceIte] <;> rfl))
    | exact wo_nil rfl)) ?_
        refine blk_normal ?_
        refine wc_last (by simp only [go_sem, reduceAdd, Nat.reduceBEq, reduceEqDiff, reduceLT, reduceLeDiff, reduceMul, reduceSub, reduceCtorEq, reduceIte] <;> rfl) ?_
        refine loop_next (m - 1) (by omega) (gh_keep [5, 1, 8, 9, 10] [31] rfl rfl) ⟨j + 1, _, by omega, hnx.symm, .inr (.inr ⟨by simp, ?_⟩)⟩
        simp only [hw, heA1, List.length_append, List.length_cons, List.length_nil]
        subst hA0
        rfl
      · (repeat refine wc_assoc ?_); refine wc_then (by simp only [d1, go_sem, reduceAdd, Nat.reduceBEq, reduceEqDiff, reduceLT, reduceLeDiff, reduceMul, reduceSub, reduceCtorEq, reduceIte] <;> rfl) ?_
        (repeat refine wc_assoc ?_); refine wc_condThen (by simp only [go_sem, reduceAdd, Nat.reduceBEq, reduceEqDiff, reduceLT, reduceLeDiff, reduceMul, reduceSub, reduceCtorEq, reduceIte] <;> rfl) (fun hc => ?_) (fun hc => ?_)
        rotate_left
        · cases hc
        refine wc_skip ?_
        refine wc_blockThen ?_
        (repeat refine wc_assoc ?_); refine wc_then (by simp only [g1, Nat.le_refl, Int.toNat_natCast, Int.natCast_nonneg, go_sem, reduceAdd, Nat.reduceBEq, reduceEqDiff, reduceLT, reduceLeDiff, reduceMul, reduceSub, reduceCtorEq, reduceIte] <;> rfl) ?_
        refine wc_regCondEnd (b1 && b2) ⟨[(5, .own 27 (encL A)), (7, .obj 7 0 0), (1, .d (.int .i64 d)), (8, .d (.slice (encL l))), (9, .d (.int .i64 (l.length : Nat))), (10, .d (.int .i64 (j : Nat)))], [(7, .box 0 [.d (.int .i64 k), .d (.int .i64 i), .d (.str s), .d (.slice (ks.map .str)), .d (.slice (encL es))]), (27, .tok 27 5 A.length)]⟩ (.refl _) (by
          clear hbb hbf
          repeat' (first | (apply wo_op (hg := rfl) (hc := rfl) (hd := rfl); (simp only [hd1, hd2, go_sem, reduceAdd, Nat.reduceBEq, reduceEqDiff, reduceLT, reduceLeDiff, reduceMul, reduceSub, reduceCtorEq, reduceIte] <;> rfl); (simp only [go_sem, reduceAdd, Nat.reduceBEq, reduceEqDiff, reduceLT, reduceLeDiff, reduceMul, reduceSub, reduceCtorEq, reduceIte] <;> rfl)) | (apply wo_eff (hg := rfl) (hc := rfl) (hd := rfl); (simp only [hd1, hd2, go_sem, reduceAdd, Nat.reduceBEq, reduceEqDiff, reduceLT, reduceLeDiff, reduceMul, reduceSub, reduceCtorEq, reduceIte] <;> rfl); (simp only [go_sem, reduceAdd, Nat.reduceBEq, reduceEqDiff, reduceLT, reduceLeDiff, reduceMul, reduceSub, reduceCtorEq, reduceIte] <;> rfl)) | (apply wo_gT (hg := rfl); (simp only [hd1, hd2, go_sem, reduceAdd, Nat.reduceBEq, reduceEqDiff, reduceLT, reduceLeDiff, reduceMul, reduceSub, reduceCtorEq, reduceIte] <;> rfl)) | (apply wo_gU (hg := rfl) (hd := rfl); (simp only [hd1, hd2, go_sem, reduceAdd, Nat.reduceBEq, reduceEqDiff, reduceLT, reduceLeDiff, reduceMul, reduceSub, reduceCtorEq, reduceIte] <;> rfl); (simp only [go_sem, reduceAdd, Nat.reduceBEq, reduceEqDiff, reduceLT, reduceLeDiff, reduceMul, reduceSub, reduceCtorEq, reduceIte] <;> rfl)) | (apply wo_gF (hg := rfl) (hd := rfl); (simp only [hd1, hd2, go_sem, reduceAdd, Nat.reduceBEq, reduceEqDiff, reduceLT, reduceLeDiff, reduceMul, reduceSub, reduceCtorEq, reduceIte] <;> rfl); (simp only [go_sem, reduceAdd, Nat.reduceBEq, reduceEqDiff, reduceLT, reduceLeDiff, reduceMul, reduceSub, reduceCtorEq, reduceIte] <;> rfl)) | (refine wo_gST rfl (by simp only [hd1, hd2, go_sem, reduceAdd, Nat.reduceBEq, reduceEqDiff, reduceLT, reduceLeDiff, reduceMul, reduceSub, reduceCtorEq, reduceIte] <;> rfl) rfl (fun hb => ?_) (fun hb => ?_) <;> (first | subst hb | (rw [Bool.not_eq_true'] at hb; subst hb) | (rw [Bool.not_eq_false'] at hb; subst hb))) | (refine wo_gSF rfl (by simp only [hd1, hd2, go_sem, reduceAdd, Nat.reduceBEq, reduceEqDiff, reduceLT, reduceLeDiff, reduceMul, reduceSub, reduceCtorEq, reduceIte] <;> rfl) rfl (fun hb => ?_) (fun hb => ?_) <;> (first | subst hb | (rw [Bool.not_eq_true'] at hb; subst hb) | (rw [Bool.not_eq_false'] at hb; subst hb))) | refine wo_nil ?_)
          all_goals exact ⟨rfl, gh_keep [5, 7, 1, 8, 9, 10] [7, 27] rfl rfl⟩) (fun hc σ' hg => by rw [hbf] at hc; cases hc) (fun hc σ' hg => ?_)
        refine wc_lastG hg (by repeat (first
    | (apply wo_op (hg := rfl) (hc := rfl) (hd := rfl); (simp only [List.isEmpty_cons, hlA, c1, c2, go_sem, reduceAdd, Nat.reduceBEq, reduceEqDiff, reduceLT, reduceLeDiff, reduceMul, reduceSub, reduceCtorEq, reduceIte] <;> rfl); (simp only [go_sem, reduceAdd, Nat.reduceBEq, reduceEqDiff, reduceLT, reduceLeDiff, reduceMul, reduceSub, reduceCtorEq, reduceIte] <;> rfl))
    | (apply wo_eff (hg := rfl) (hc := rfl) (hd := rfl); (simp only [List.isEmpty_cons, hlA, c1, c2, go_sem, reduceAdd, Nat.reduceBEq, reduceEqDiff, reduceLT, reduceLeDiff, reduceMul, reduceSub, reduceCtorEq, reduceIte] <;> rfl); (simp only [go_sem, reduceAdd, Nat.reduceBEq, reduceEqDiff, reduceLT, reduceLeDiff, reduceMul, reduceSub, reduceCtorEq, reduceIte] <;> rfl))
    | (apply wo_gT (hg := rfl); (simp only [List.isEmpty_cons, hlA, c1, c2, go_sem, reduceAdd, Nat.reduceBEq, reduceEqDiff, reduceLT, reduceLeDiff, reduceMul, reduceSub, reduceCtorEq, reduceIte] <;> rfl))
    | (apply wo_gU (hg := rfl) (hd := rfl); (simp only [List.isEmpty_cons, hlA, c1, c2, go_sem, reduceAdd, Nat.reduceBEq, reduceEqDiff, reduceLT, reduceLeDiff, reduceMul, reduceSub, reduceCtorEq, reduceIte] <;> rfl); (simp only [go_sem, reduceAdd, Nat.reduceBEq, reduceEqDiff, reduceLT, reduceLeDiff, reduceMul, reduceSub, reduceCtorEq, reduceIte] <;> rfl))
    | (apply wo_gF (hg := rfl) (hd := rfl); (simp only [List.isEmpty_cons, hlA, c1, c2, go_sem, reduceAdd, Nat.reduceBEq, reduceEqDiff, reduceLT, reduceLeDiff, reduceMul, reduceSub, reduceCtorEq, reduceIte] <;> rfl); (simp only [go_sem, reduceAdd, Nat.reduceBEq, reduceEqDiff, reduceLT, reduceLeDiff, reduceMul, reduceSub, reduceCtorEq, reduceIte] <;> rfl))
    | exact wo_nil rfl)) ?_
        refine blk_normal ?_
        refine wc_last (by simp only [go_sem, reduceAdd, Nat.reduceBEq, reduceEqDiff, reduceLT, reduceLeDiff, reduceMul, reduceSub, reduceCtorEq, reduceIte] <;> rfl) ?_
        refine loop_next (m - 1) (by omega) (gh_keep [5, 1, 8, 9, 10] [27] rfl rfl) ⟨j + 1, _, by omega, hnx.symm, .inr (.inl ⟨by simp, ?_⟩)⟩
        simp only [hw, heA1, List.length_append, List.length_cons, List.length_nil]
        rfl
      · (repeat refine wc_assoc ?_); refine wc_then (by simp only [d1, go_sem, reduceAdd, Nat.reduceBEq, reduceEqDiff, reduceLT, reduceLeDiff, reduceMul, reduceSub, reduceCtorEq, reduceIte] <;> rfl) ?_
        (repeat refine wc_assoc ?_); refine wc_condThen (by simp only [go_sem, reduceAdd, Nat.reduceBEq, reduceEqDiff, reduceLT, reduceLeDiff, reduceMul, reduceSub, reduceCtorEq, reduceIte] <;> rfl) (fun hc => ?_) (fun hc => ?_)
        rotate_left
        · cases hc
        refine wc_skip ?_
        refine wc_blockThen ?_
        (repeat refine wc_assoc ?_); refine wc_then (by simp only [g1, Nat.le_refl, Int.toNat_natCast, Int.natCast_nonneg, go_sem, reduceAdd, Nat.reduceBEq, reduceEqDiff, reduceLT, reduceLeDiff, reduceMul, reduceSub, reduceCtorEq, reduceIte] <;> rfl) ?_
        refine wc_regCondEnd (b1 && b2) ⟨[(5, .own 31 (encL A)), (7, .obj 7 0 0), (1, .d (.int .i64 d)), (8, .d (.slice (encL l))), (9, .d (.int .i64 (l.length : Nat))), (10, .d (.int .i64 (j : Nat)))], [(7, .box 0 [.d (.int .i64 k), .d (.int .i64 i), .d (.str s), .d (.slice (ks.map .str)), .d (.slice (encL es))]), (31, .tok 27 5 A.length)]⟩ (.refl _) (by
          clear hbb hbf
          repeat' (first | (apply wo_op (hg := rfl) (hc := rfl) (hd := rfl); (simp only [hd1, hd2, go_sem, reduceAdd, Nat.reduceBEq, reduceEqDiff, reduceLT, reduceLeDiff, reduceMul, reduceSub, reduceCtorEq, reduceIte] <;> rfl); (simp only [go_sem, reduceAdd, Nat.reduceBEq, reduceEqDiff, reduceLT, reduceLeDiff, reduceMul, reduceSub, reduceCtorEq, reduceIte] <;> rfl)) | (apply wo_eff (hg := rfl) (hc := rfl) (hd := rfl); (simp only [hd1, hd2, go_sem, reduceAdd, Nat.reduceBEq, reduceEqDiff, reduceLT, reduceLeDiff, reduceMul, reduceSub, reduceCtorEq, reduceIte] <;> rfl); (simp only [go_sem, reduceAdd, Nat.reduceBEq, reduceEqDiff, reduceLT, reduceLeDiff, reduceMul, reduceSub, reduceCtorEq, reduceIte] <;> rfl)) | (apply wo_gT (hg := rfl); (simp only [hd1, hd2, go_sem, reduceAdd, Nat.reduceBEq, reduceEqDiff, reduceLT, reduceLeDiff, reduceMul, reduceSub, reduceCtorEq, reduceIte] <;> rfl)) | (apply wo_gU (hg := rfl) (hd := rfl); (simp only [hd1, hd2, go_sem, reduceAdd, Nat.reduceBEq, reduceEqDiff, reduceLT, reduceLeDiff, reduceMul, reduceSub, reduceCtorEq, reduceIte] <;> rfl); (simp only [go_sem, reduceAdd, Nat.reduceBEq, reduceEqDiff, reduceLT, reduceLeDiff, reduceMul, reduceSub, reduceCtorEq, reduceIte] <;> rfl)) | (apply wo_gF (hg := rfl) (hd := rfl); (simp only [hd1, hd2, go_sem, reduceAdd, Nat.reduceBEq, reduceEqDiff, reduceLT, reduceLeDiff, reduceMul, reduceSub, reduceCtorEq, reduceIte] <;> rfl); (simp only [go_sem, reduceAdd, Nat.reduceBEq, reduceEqDiff, reduceLT, reduceLeDiff, reduceMul, reduceSub, reduceCtorEq, reduceIte] <;> rfl)) | (refine wo_gST rfl (by simp only [hd1, hd2, go_sem, reduceAdd, Nat.reduceBEq, reduceEqDiff, reduceLT, reduceLeDiff, reduceMul, reduceSub, reduceCtorEq, reduceIte] <;> rfl) rfl (fun hb => ?_) (fun hb => ?_) <;> (first | subst hb | (rw [Bool.not_eq_true'] at hb; subst hb) | (rw [Bool.not_eq_false'] at hb; subst hb))) | (refine wo_gSF rfl (by simp only [hd1, hd2, go_sem, reduceAdd, Nat.reduceBEq, reduceEqDiff, reduceLT, reduceLeDiff, reduceMul, reduceSub, reduceCtorEq, reduceIte] <;> rfl) rfl (fun hb => ?_) (fun hb => ?_) <;> (first | subst hb | (rw [Bool.not_eq_true'] at hb; subst hb) | (rw [Bool.not_eq_false'] at hb; subst hb))) | refine wo_nil ?_)
          all_goals exact ⟨rfl, gh_keep [5, 7, 1, 8, 9, 10] [7, 31] rfl rfl⟩) (fun hc σ' hg => by rw [hbf] at hc; cases hc) (fun hc σ' hg => ?_)
        refine wc_lastG hg (by repeat (first
    | (apply wo_op (hg := rfl) (hc := rfl) (hd := rfl); (simp only [List.isEmpty_cons, hlA, c1, c2, go_sem, reduceAdd, Nat.reduceBEq, reduceEqDiff, reduceLT, reduceLeDiff, reduceMul, reduceSub, reduceCtorEq, reduceIte] <;> rfl); (simp only [go_sem, reduceAdd, Nat.reduceBEq, reduceEqDiff, reduceLT, reduceLeDiff, reduceMul, reduceSub, reduceCtorEq, reduceIte] <;> rfl))
    | (apply wo_eff (hg := rfl) (hc := rfl) (hd := rfl); (simp only [List.isEmpty_cons, hlA, c1, c2, go_sem, reduceAdd, Nat.reduceBEq, reduceEqDiff, reduceLT, reduceLeDiff, reduceMul, reduceSub, reduceCtorEq, reduceIte] <;> rfl); (simp only [go_sem, reduceAdd, Nat.reduceBEq, reduceEqDiff, reduceLT, reduceLeDiff, reduceMul, reduceSub, reduceCtorEq, reduceIte] <;> rfl))
    | (apply wo_gT (hg := rfl); (simp only [List.isEmpty_cons, hlA, c1, c2, go_sem, reduceAdd, Nat.reduceBEq, reduceEqDiff, reduceLT, reduceLeDiff, reduceMul, reduceSub, reduceCtorEq, reduceIte] <;> rfl))
    | (apply wo_gU (hg := rfl) (hd := rfl); (simp only [List.isEmpty_cons, hlA, c1, c2, go_sem, reduceAdd, Nat.reduceBEq, reduceEqDiff, reduceLT, reduceLeDiff, reduceMul, reduceSub, reduceCtorEq, reduceIte] <;> rfl); (simp only [go_sem, reduceAdd, Nat.reduceBEq, reduceEqDiff, reduceLT, reduceLeDiff, reduceMul, reduceSub, reduceCtorEq, reduceIte] <;> rfl))
    | (apply wo_gF (hg := rfl) (hd := rfl); (simp only [List.isEmpty_cons, hlA, c1, c2, go_sem, reduceAdd, Nat.reduceBEq, reduceEqDiff, reduceLT, reduceLeDiff, reduceMul, reduceSub, reduceCtorEq, reduceIte] <;> rfl); (simp only [go_sem, reduceAdd, Nat.reduceBEq, reduceEqDiff, reduceLT, reduceLeDiff, reduceMul, reduceSub, reduceCtorEq, reduceIte] <;> rfl))
    | exact wo_nil rfl)) ?_
        refine blk_normal ?_
        refine wc_last (by simp only [go_sem, reduceAdd, Nat.reduceBEq, reduceEqDiff, reduceLT, reduceLeDiff, reduceMul, reduceSub, reduceCtorEq, reduceIte] <;> rfl) ?_
        refine loop_next (m - 1) (by omega) (gh_keep [5, 1, 8, 9, 10] [31] rfl rfl) ⟨j + 1, _, by omega, hnx.symm, .inr (.inr ⟨by simp, ?_⟩)⟩
        simp only [hw, heA1, List.length_append, List.length_cons, List.length_nil]
        rfl
  · have hj : j = l.length := by omega
    have d1 : decide ((j : Int) < (l.length : Int)) = false := by simp; omega
    rw [hj, List.take_length] at hA
    rw [← hA]
    rcases hσ with ⟨hA0, rfl⟩ | ⟨hA0, rfl⟩ | ⟨hA0, rfl⟩
    · (repeat refine wc_assoc ?_); refine wc_then (by simp only [d1, go_sem, reduceAdd, Nat.reduceBEq, reduceEqDiff, reduceLT, reduceLeDiff, reduceMul, reduceSub, reduceCtorEq, reduceIte] <;> rfl) ?_
      (repeat refine wc_assoc ?_); refine wc_condThen (by simp only [go_sem, reduceAdd, Nat.reduceBEq, reduceEqDiff, reduceLT, reduceLeDiff, reduceMul, reduceSub, reduceCtorEq, reduceIte] <;> rfl) (fun hc => ?_) (fun hc => ?_)
      · cases hc
      refine wc_exitThen (loop_exit ?_)
      (repeat refine wc_assoc ?_); refine wc_then (by simp only [go_sem, reduceAdd, Nat.reduceBEq, reduceEqDiff, reduceLT, reduceLeDiff, reduceMul, reduceSub, reduceCtorEq, reduceIte] <;> rfl) ?_
      refine wc_ret ⟨.inr rfl, _, (by simp only [Try.f70, go_sem, reduceAdd, Nat.reduceBEq, reduceEqDiff, reduceLT, reduceLeDiff, reduceMul, reduceSub, reduceCtorEq, reduceIte] <;> rfl), ?_⟩
      rw [hA0]
      exact .cons D.nil_le .nil
    · (repeat refine wc_assoc ?_); refine wc_then (by simp only [d1, go_sem, reduceAdd, Nat.reduceBEq, reduceEqDiff, reduceLT, reduceLeDiff, reduceMul, reduceSub, reduceCtorEq, reduceIte] <;> rfl) ?_
      (repeat refine wc_assoc ?_); refine wc_condThen (by simp only [go_sem, reduceAdd, Nat.reduceBEq, reduceEqDiff, reduceLT, reduceLeDiff, reduceMul, reduceSub, reduceCtorEq, reduceIte] <;> rfl) (fun hc => ?_) (fun hc => ?_)
      · cases hc
      refine wc_exitThen (loop_exit ?_)
      (repeat refine wc_assoc ?_); refine wc_then (by simp only [go_sem, reduceAdd, Nat.reduceBEq, reduceEqDiff, reduceLT, reduceLeDiff, reduceMul, reduceSub, reduceCtorEq, reduceIte] <;> rfl) ?_
      refine wc_ret ⟨.inr rfl, _, (by simp only [Try.f70, go_sem, reduceAdd, Nat.reduceBEq, reduceEqDiff, reduceLT, reduceLeDiff, reduceMul, reduceSub, reduceCtorEq, reduceIte] <;> rfl), ?_⟩
      exact .refl _
    · (repeat refine wc_assoc ?_); refine wc_then (by simp only [d1, go_sem, reduceAdd, Nat.reduceBEq, reduceEqDiff, reduceLT, reduceLeDiff, reduceMul, reduceSub, reduceCtorEq, reduceIte] <;> rfl) ?_
      (repeat refine wc_assoc ?_); refine wc_condThen (by simp only [go_sem, reduceAdd, Nat.reduceBEq, reduceEqDiff, reduceLT, reduceLeDiff, reduceMul, reduceSub, reduceCtorEq, reduceIte] <;> rfl) (fun hc => ?_) (fun hc => ?_)
      · cases hc
      refine wc_exitThen (loop_exit ?_)
      (repeat refine wc_assoc ?_); refine wc_then (by simp only [go_sem, reduceAdd, Nat.reduceBEq, reduceEqDiff, reduceLT, reduceLeDiff, reduceMul, reduceSub, reduceCtorEq, reduceIte] <;> rfl) ?_
      refine wc_ret ⟨.inr rfl, _, (by simp only [Try.f70, go_sem, reduceAdd, Nat.reduceBEq, reduceEqDiff, reduceLT, reduceLeDiff, reduceMul, reduceSub, reduceCtorEq, reduceIte] <;> rfl), ?_⟩
      exact .refl _
mutual
theorem flat_spec : ∀ v : V, FlatOK v.els
  | .mk k i s ks es => flat_step es (flat_all es)
theorem flat_all : ∀ l : List V, ∀ v ∈ l, FlatOK v.els
  | [], v, h => by simp at h
  | w :: l, v, h => by
    rcases List.mem_cons.1 h with e | h
    · exact e ▸ flat_spec w
    · exact flat_all l v h
end
theorem flatten_spec (l : List V) : FlatOK l := flat_step l (flat_all l)
end Go.Proofs.Ytnkknmdpakebhaa
