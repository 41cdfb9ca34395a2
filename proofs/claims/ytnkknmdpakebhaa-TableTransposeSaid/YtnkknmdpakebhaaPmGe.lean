/- vals: fits. -/
import Derived.Test.YtnkknmdpakebhaaPmGd
set_option linter.unusedSimpArgs false
set_option linter.unusedVariables false
set_option maxHeartbeats 4000000
namespace Go.Proofs.Ytnkknmdpakebhaa
open Go Go.Pm
attribute [local irreducible] WC WOps WOpsG
attribute [local go_sem] WOps WOp callOf gtmp gval gvalT evOp evBuiltin binT St.ev constT St.m envOf Go.Pm.look St.upd St.putO St.put St.set allT allP T.toD unD1 T.cells T.asSlice D.cells D.sz eqTy binD unD cvD cv2 fillD ldT ldD TyI.agg allD splice isSome' cut bnd resT resOf Done Option.all_some Option.all_none Option.getD_some Option.getD_none Option.bind_some Option.bind_none Option.map_some Option.map_none List.map List.map_cons List.map_nil List.cons_append List.nil_append List.append_nil List.take_succ_cons List.drop_succ_cons List.take_zero List.drop_zero List.take_nil List.drop_nil List.head?_cons List.length_cons List.length_nil List.getElem?_cons_zero List.getElem?_cons_succ List.getElem?_toArray List.all_cons List.all_nil ite_true ite_false if_true if_false Bool.not_false Bool.not_true decide_true decide_false and_true true_and and_self false_and and_false Bool.and_true Bool.true_and Bool.or_true Bool.true_or List.size_toArray seqFrom beq_self_eq_true BEq.rfl eq_self Nat.succ_ne_self false_or or_false Nat.zero_add Nat.add_zero Nat.not_lt_zero Nat.one_ne_zero tab1_2 tab1_3 tab1_4 tab1_5 tab1_9 tab1_22 tab1_24 tab1_25 tab1_27 tab1_30 tab1_54 tab1_57 tab1_78 tab1_85
def keySum (b : Int) (ks : List ByteArray) : Int := ks.foldl (fun b k => IntKind.i64.wrap (b + k.size)) b
mutual
def V.fits : V → Int → Bool → Int → Int → Bool × Int × Int
  | .mk k i s ks es, ar, form, n, b =>
    if ((decide (IntKind.i64.wrap (n + 1) > 4096) || decide (k < 0)) || decide (k > 6)) = true then (false, IntKind.i64.wrap (n + 1), b)
    else if (((k == 4) && decide ((s.size : Int) > 4096)) || (form && !(V.mk k i s ks es).formed)) = true then (false, IntKind.i64.wrap (n + 1), b)
    else if keySum (IntKind.i64.wrap (b + s.size)) ks > 65536 then (false, IntKind.i64.wrap (n + 1), keySum (IntKind.i64.wrap (b + s.size)) ks)
    else if k < 5 then (true, IntKind.i64.wrap (n + 1), keySum (IntKind.i64.wrap (b + s.size)) ks)
    else if (decide (ar ≥ 32) || decide ((es.length : Int) > 1024)) = true then (false, IntKind.i64.wrap (n + 1), keySum (IntKind.i64.wrap (b + s.size)) ks)
    else fitsL es (IntKind.i64.wrap (ar + 1)) form (IntKind.i64.wrap (n + 1)) (keySum (IntKind.i64.wrap (b + s.size)) ks)
def fitsL : List V → Int → Bool → Int → Int → Bool × Int × Int
  | [], _, _, n, b => (true, n, b)
  | v :: l, ar, form, n, b => if (v.fits ar form n b).1 = true then fitsL l ar form (v.fits ar form n b).2.1 (v.fits ar form n b).2.2 else (false, (v.fits ar form n b).2.1, (v.fits ar form n b).2.2)
end
def FitsOK (v : V) : Prop := ∀ (ar : Int) (form : Bool) (n b : Int), Pm.SpecR X0.P 52 [.obj 0 0, .d v.enc, .d (.int .i64 ar), .d (.bool form)] [[.int .i64 n, .int .i64 b]] [.d (.bool (v.fits ar form n b).1)] [[.int .i64 (v.fits ar form n b).2.1, .int .i64 (v.fits ar form n b).2.2]]
theorem keySum_take {b : Int} {ks : List ByteArray} {j : Nat} (h : j < ks.length) : keySum b (ks.take (j + 1)) = IntKind.i64.wrap (keySum b (ks.take j) + ks[j].size) := by
  unfold keySum
  rw [List.take_add_one, List.foldl_append]
  simp [h]
theorem fits_step (k i : Int) (s : ByteArray) (ks : List ByteArray) (es : List V) (hv : ∀ v ∈ es, FitsOK v) : FitsOK (.mk k i s ks es) := by
  intro ar form n b
  have hwf : wfL [(V.mk k i s ks es).enc] → (ks.length ≤ maxLen ∧ es.length ≤ maxLen) := by
    intro h
    simp only [V.enc, wfL, D.wf, List.length_map, encL_length] at h
    exact ⟨h.1.2.2.2.1.1, h.1.2.2.2.2.1.1⟩
  refine SpecR.wf ?_
  intro hwf0
  have hwf := hwf ⟨hwf0 _ (by simp), trivial⟩
  refine SpecR.of (x := X1) fn52 rfl rfl (by show 4 ≤ 110; decide) (.inl rfl) ?_
  show WC X1 110 _ _ _
  simp only [V.enc]
  have hF : (V.mk k i s ks es).fits ar form n b = _ := rfl
  conv at hF => rhs; rw [V.fits]
  generalize (V.mk k i s ks es).fits ar form n b = F at *
  obtain ⟨fr, fn, fb⟩ := F
  simp only []
  simp only [envA, memOf, A.t, oid, List.map_cons, List.map_nil, Nat.reduceAdd, Nat.zero_add]
  (repeat refine wc_assoc ?_); refine wc_then (by simp only [go_sem, Nat.reduceAdd, Nat.reduceBEq, Nat.reduceEqDiff, Nat.reduceLT, Nat.reduceLeDiff, Nat.reduceMul, Nat.reduceSub, reduceCtorEq, reduceIte] <;> rfl) ?_
  (repeat refine wc_assoc ?_); refine wc_then (by simp only [go_sem, Nat.reduceAdd, Nat.reduceBEq, Nat.reduceEqDiff, Nat.reduceLT, Nat.reduceLeDiff, Nat.reduceMul, Nat.reduceSub, reduceCtorEq, reduceIte] <;> rfl) ?_
  generalize hn1 : IntKind.i64.wrap (n + 1) = n1 at *
  generalize h1 : decide (n1 > 4096) = b1 at *
  generalize h2 : decide (k < 0) = b2 at *
  generalize h3 : decide (k > 6) = b3 at *
  refine wc_assoc (wc_regCond ((b1 || b2) || b3) ⟨[(0, .obj 900000 0 0), (2, .d (.int .i64 ar)), (3, .d (.bool form)), (5, .obj 5 0 0)], [(900000, .box 0 [.d (.int .i64 n1), .d (.int .i64 b)]), (5, .box 0 [.d (.int .i64 k), .d (.int .i64 i), .d (.str s), .d (.slice (ks.map .str)), .d (.slice (encL es))])]⟩ (gh_keep [0, 2, 3, 5] [900000, 5] rfl rfl) (by
    repeat' (first | (apply wo_op (hg := rfl) (hc := rfl) (hd := rfl); (simp only [h1, h2, h3, go_sem, Nat.reduceAdd, Nat.reduceBEq, Nat.reduceEqDiff, Nat.reduceLT, Nat.reduceLeDiff, Nat.reduceMul, Nat.reduceSub, reduceCtorEq, reduceIte] <;> rfl); (simp only [go_sem, Nat.reduceAdd, Nat.reduceBEq, Nat.reduceEqDiff, Nat.reduceLT, Nat.reduceLeDiff, Nat.reduceMul, Nat.reduceSub, reduceCtorEq, reduceIte] <;> rfl)) | (apply wo_eff (hg := rfl) (hc := rfl) (hd := rfl); (simp only [h1, h2, h3, go_sem, Nat.reduceAdd, Nat.reduceBEq, Nat.reduceEqDiff, Nat.reduceLT, Nat.reduceLeDiff, Nat.reduceMul, Nat.reduceSub, reduceCtorEq, reduceIte] <;> rfl); (simp only [go_sem, Nat.reduceAdd, Nat.reduceBEq, Nat.reduceEqDiff, Nat.reduceLT, Nat.reduceLeDiff, Nat.reduceMul, Nat.reduceSub, reduceCtorEq, reduceIte] <;> rfl)) | (apply wo_gT (hg := rfl); (simp only [h1, h2, h3, go_sem, Nat.reduceAdd, Nat.reduceBEq, Nat.reduceEqDiff, Nat.reduceLT, Nat.reduceLeDiff, Nat.reduceMul, Nat.reduceSub, reduceCtorEq, reduceIte] <;> rfl)) | (apply wo_gU (hg := rfl) (hd := rfl); (simp only [h1, h2, h3, go_sem, Nat.reduceAdd, Nat.reduceBEq, Nat.reduceEqDiff, Nat.reduceLT, Nat.reduceLeDiff, Nat.reduceMul, Nat.reduceSub, reduceCtorEq, reduceIte] <;> rfl); (simp only [go_sem, Nat.reduceAdd, Nat.reduceBEq, Nat.reduceEqDiff, Nat.reduceLT, Nat.reduceLeDiff, Nat.reduceMul, Nat.reduceSub, reduceCtorEq, reduceIte] <;> rfl)) | (apply wo_gF (hg := rfl) (hd := rfl); (simp only [h1, h2, h3, go_sem, Nat.reduceAdd, Nat.reduceBEq, Nat.reduceEqDiff, Nat.reduceLT, Nat.reduceLeDiff, Nat.reduceMul, Nat.reduceSub, reduceCtorEq, reduceIte] <;> rfl); (simp only [go_sem, Nat.reduceAdd, Nat.reduceBEq, Nat.reduceEqDiff, Nat.reduceLT, Nat.reduceLeDiff, Nat.reduceMul, Nat.reduceSub, reduceCtorEq, reduceIte] <;> rfl)) | (refine wo_gST rfl (by simp only [h1, h2, h3, go_sem, Nat.reduceAdd, Nat.reduceBEq, Nat.reduceEqDiff, Nat.reduceLT, Nat.reduceLeDiff, Nat.reduceMul, Nat.reduceSub, reduceCtorEq, reduceIte] <;> rfl) rfl (fun hb => ?_) (fun hb => ?_) <;> (first | subst hb | (rw [Bool.not_eq_true'] at hb; subst hb) | (rw [Bool.not_eq_false'] at hb; subst hb))) | (refine wo_gSF rfl (by simp only [h1, h2, h3, go_sem, Nat.reduceAdd, Nat.reduceBEq, Nat.reduceEqDiff, Nat.reduceLT, Nat.reduceLeDiff, Nat.reduceMul, Nat.reduceSub, reduceCtorEq, reduceIte] <;> rfl) rfl (fun hb => ?_) (fun hb => ?_) <;> (first | subst hb | (rw [Bool.not_eq_true'] at hb; subst hb) | (rw [Bool.not_eq_false'] at hb; subst hb))) | refine wo_nil ?_)
    all_goals exact ⟨rfl, gh_keep [0, 2, 3, 5] [900000, 5] rfl rfl⟩) (fun hc σ' hg => ?_) (fun hc σ' hg => ?_))
  · rw [if_pos hc] at hF
    simp only [Prod.mk.injEq] at hF
    obtain ⟨rfl, rfl, rfl⟩ := hF
    (repeat refine wc_assoc ?_); refine wc_ghost (hg) (by simp only [go_sem, Nat.reduceAdd, Nat.reduceBEq, Nat.reduceEqDiff, Nat.reduceLT, Nat.reduceLeDiff, Nat.reduceMul, Nat.reduceSub, reduceCtorEq, reduceIte] <;> rfl) ?_
    refine wc_retThen ⟨.inr rfl, ⟨_, (by rfl), LeR.refl _⟩, by rfl⟩
  rw [if_neg (by simp [hc])] at hF
  refine wc_skip ?_
  have hfo := fun h => formed_spec k i s ks es h
  generalize (V.mk k i s ks es).formed = fo at *
  simp only [V.enc] at hfo
  generalize h4 : (k == 4) = b4 at *
  generalize h5 : decide ((s.size : Int) > 4096) = b5 at *
  have hfo : (b4 && b5) = false → _ := fun h => hfo (by
    intro h44
    have e4 : b4 = true := by rw [← h4]; simp [h44]
    rw [e4, Bool.true_and, ← h5] at h
    simp at h
    omega)
  refine wc_assoc (wc_regCond ((b4 && b5) || (form && !fo)) ⟨[(0, .obj 900000 0 0), (2, .d (.int .i64 ar)), (3, .d (.bool form)), (5, .obj 5 0 0)], [(900000, .box 0 [.d (.int .i64 n1), .d (.int .i64 b)]), (5, .box 0 [.d (.int .i64 k), .d (.int .i64 i), .d (.str s), .d (.slice (ks.map .str)), .d (.slice (encL es))])]⟩ hg (by
    clear hF
    repeat' (first | (apply wo_op (hg := rfl) (hc := rfl) (hd := rfl); (simp only [h4, h5, go_sem, Nat.reduceAdd, Nat.reduceBEq, Nat.reduceEqDiff, Nat.reduceLT, Nat.reduceLeDiff, Nat.reduceMul, Nat.reduceSub, reduceCtorEq, reduceIte] <;> rfl); (simp only [go_sem, Nat.reduceAdd, Nat.reduceBEq, Nat.reduceEqDiff, Nat.reduceLT, Nat.reduceLeDiff, Nat.reduceMul, Nat.reduceSub, reduceCtorEq, reduceIte] <;> rfl)) | (apply wo_eff (hg := rfl) (hc := rfl) (hd := rfl); (simp only [h4, h5, go_sem, Nat.reduceAdd, Nat.reduceBEq, Nat.reduceEqDiff, Nat.reduceLT, Nat.reduceLeDiff, Nat.reduceMul, Nat.reduceSub, reduceCtorEq, reduceIte] <;> rfl); (simp only [go_sem, Nat.reduceAdd, Nat.reduceBEq, Nat.reduceEqDiff, Nat.reduceLT, Nat.reduceLeDiff, Nat.reduceMul, Nat.reduceSub, reduceCtorEq, reduceIte] <;> rfl)) | (apply wo_gT (hg := rfl); (simp only [h4, h5, go_sem, Nat.reduceAdd, Nat.reduceBEq, Nat.reduceEqDiff, Nat.reduceLT, Nat.reduceLeDiff, Nat.reduceMul, Nat.reduceSub, reduceCtorEq, reduceIte] <;> rfl)) | (apply wo_gU (hg := rfl) (hd := rfl); (simp only [h4, h5, go_sem, Nat.reduceAdd, Nat.reduceBEq, Nat.reduceEqDiff, Nat.reduceLT, Nat.reduceLeDiff, Nat.reduceMul, Nat.reduceSub, reduceCtorEq, reduceIte] <;> rfl); (simp only [go_sem, Nat.reduceAdd, Nat.reduceBEq, Nat.reduceEqDiff, Nat.reduceLT, Nat.reduceLeDiff, Nat.reduceMul, Nat.reduceSub, reduceCtorEq, reduceIte] <;> rfl)) | (apply wo_gF (hg := rfl) (hd := rfl); (simp only [h4, h5, go_sem, Nat.reduceAdd, Nat.reduceBEq, Nat.reduceEqDiff, Nat.reduceLT, Nat.reduceLeDiff, Nat.reduceMul, Nat.reduceSub, reduceCtorEq, reduceIte] <;> rfl); (simp only [go_sem, Nat.reduceAdd, Nat.reduceBEq, Nat.reduceEqDiff, Nat.reduceLT, Nat.reduceLeDiff, Nat.reduceMul, Nat.reduceSub, reduceCtorEq, reduceIte] <;> rfl)) | (refine wo_gST rfl (by simp only [h4, h5, go_sem, Nat.reduceAdd, Nat.reduceBEq, Nat.reduceEqDiff, Nat.reduceLT, Nat.reduceLeDiff, Nat.reduceMul, Nat.reduceSub, reduceCtorEq, reduceIte] <;> rfl) rfl (fun hb => ?_) (fun hb => ?_) <;> (first | subst hb | (rw [Bool.not_eq_true'] at hb; subst hb) | (rw [Bool.not_eq_false'] at hb; subst hb))) | (refine wo_gSF rfl (by simp only [h4, h5, go_sem, Nat.reduceAdd, Nat.reduceBEq, Nat.reduceEqDiff, Nat.reduceLT, Nat.reduceLeDiff, Nat.reduceMul, Nat.reduceSub, reduceCtorEq, reduceIte] <;> rfl) rfl (fun hb => ?_) (fun hb => ?_) <;> (first | subst hb | (rw [Bool.not_eq_true'] at hb; subst hb) | (rw [Bool.not_eq_false'] at hb; subst hb))) | (refine wo_call rfl rfl (by simp only [go_sem, Nat.reduceAdd, Nat.reduceBEq, Nat.reduceEqDiff, Nat.reduceLT, Nat.reduceLeDiff, Nat.reduceMul, Nat.reduceSub, reduceCtorEq, reduceIte] <;> rfl) (by simp only [go_sem, Nat.reduceAdd, Nat.reduceBEq, Nat.reduceEqDiff, Nat.reduceLT, Nat.reduceLeDiff, Nat.reduceMul, Nat.reduceSub, reduceCtorEq, reduceIte] <;> rfl) (.refl _) (up1 (hfo rfl)) rfl (by simp only [go_sem, Nat.reduceAdd, Nat.reduceBEq, Nat.reduceEqDiff, Nat.reduceLT, Nat.reduceLeDiff, Nat.reduceMul, Nat.reduceSub, reduceCtorEq, reduceIte] <;> rfl) ?_) | refine wo_nil ?_)
    all_goals exact ⟨rfl, gh_keep [0, 2, 3, 5] [900000, 5] rfl rfl⟩) (fun hc σ' hg => ?_) (fun hc σ' hg => ?_))
  · rw [if_pos hc] at hF
    simp only [Prod.mk.injEq] at hF
    obtain ⟨rfl, rfl, rfl⟩ := hF
    (repeat refine wc_assoc ?_); refine wc_ghost (hg) (by simp only [go_sem, Nat.reduceAdd, Nat.reduceBEq, Nat.reduceEqDiff, Nat.reduceLT, Nat.reduceLeDiff, Nat.reduceMul, Nat.reduceSub, reduceCtorEq, reduceIte] <;> rfl) ?_
    refine wc_retThen ⟨.inr rfl, ⟨_, (by rfl), LeR.refl _⟩, by rfl⟩
  rw [if_neg (by simp [hc])] at hF
  refine wc_skip ?_
  (repeat refine wc_assoc ?_); refine wc_ghostD (by rfl) (hg) (by simp only [go_sem, Nat.reduceAdd, Nat.reduceBEq, Nat.reduceEqDiff, Nat.reduceLT, Nat.reduceLeDiff, Nat.reduceMul, Nat.reduceSub, reduceCtorEq, reduceIte] <;> rfl) ?_
  (repeat refine wc_assoc ?_); refine wc_then (by simp only [List.length_map, go_sem, Nat.reduceAdd, Nat.reduceBEq, Nat.reduceEqDiff, Nat.reduceLT, Nat.reduceLeDiff, Nat.reduceMul, Nat.reduceSub, reduceCtorEq, reduceIte] <;> rfl) ?_
  generalize hb1 : IntKind.i64.wrap (b + s.size) = bb at *
  refine wc_loopThen (σ0 := ⟨[(0, .obj 900000 0 0), (2, .d (.int .i64 ar)), (3, .d (.bool form)), (5, .obj 5 0 0), (63, .d (.slice (ks.map .str))), (64, .d (.int .i64 (ks.length : Nat))), (65, .d (.int .i64 (0 : Nat)))], [(900000, .box 0 [.d (.int .i64 n1), .d (.int .i64 bb)]), (5, .box 0 [.d (.int .i64 k), .d (.int .i64 i), .d (.str s), .d (.slice (ks.map .str)), .d (.slice (encL es))])]⟩)
    (fun m σ => ∃ j, m + j = ks.length ∧ σ = ⟨[(0, .obj 900000 0 0), (2, .d (.int .i64 ar)), (3, .d (.bool form)), (5, .obj 5 0 0), (63, .d (.slice (ks.map .str))), (64, .d (.int .i64 (ks.length : Nat))), (65, .d (.int .i64 (j : Nat)))], [(900000, .box 0 [.d (.int .i64 n1), .d (.int .i64 (keySum bb (ks.take j)))]), (5, .box 0 [.d (.int .i64 k), .d (.int .i64 i), .d (.str s), .d (.slice (ks.map .str)), .d (.slice (encL es))])]⟩) ks.length
    (gh_keep [0, 2, 3, 5, 63, 64, 65] [900000, 5] rfl rfl) ⟨0, by simp, by simp [keySum]⟩ ?_
  rintro m σ ⟨j, hm, rfl⟩
  (repeat refine wc_assoc ?_); refine wc_then (by simp only [go_sem, Nat.reduceAdd, Nat.reduceBEq, Nat.reduceEqDiff, Nat.reduceLT, Nat.reduceLeDiff, Nat.reduceMul, Nat.reduceSub, reduceCtorEq, reduceIte] <;> rfl) ?_
  (repeat refine wc_assoc ?_); refine wc_condThen (by simp only [go_sem, Nat.reduceAdd, Nat.reduceBEq, Nat.reduceEqDiff, Nat.reduceLT, Nat.reduceLeDiff, Nat.reduceMul, Nat.reduceSub, reduceCtorEq, reduceIte] <;> rfl) (fun hc => ?_) (fun hc => ?_)
  · have hj : j < ks.length := by simpa using hc
    refine wc_skip ?_
    refine wc_blockThen ?_
    (repeat refine wc_assoc ?_); refine wc_then (by simp only [strs_get hj, Int.toNat_natCast, Int.natCast_nonneg, go_sem, Nat.reduceAdd, Nat.reduceBEq, Nat.reduceEqDiff, Nat.reduceLT, Nat.reduceLeDiff, Nat.reduceMul, Nat.reduceSub, reduceCtorEq, reduceIte] <;> rfl) ?_
    refine wc_last (by simp only [go_sem, Nat.reduceAdd, Nat.reduceBEq, Nat.reduceEqDiff, Nat.reduceLT, Nat.reduceLeDiff, Nat.reduceMul, Nat.reduceSub, reduceCtorEq, reduceIte] <;> rfl) ?_
    refine blk_normal ?_
    refine wc_last (by simp only [go_sem, Nat.reduceAdd, Nat.reduceBEq, Nat.reduceEqDiff, Nat.reduceLT, Nat.reduceLeDiff, Nat.reduceMul, Nat.reduceSub, reduceCtorEq, reduceIte] <;> rfl) ?_
    refine loop_next (m - 1) (by omega) (gh_keep [0, 2, 3, 5, 63, 64, 65] [900000, 5] rfl rfl) ⟨j + 1, by omega, ?_⟩
    have hw : IntKind.i64.wrap ((j : Int) + 1) = ((j + 1 : Nat) : Int) := wrap_nat (n := j + 1) (by omega)
    simp only [hw, keySum_take hj]
    rfl
  have hj : j = ks.length := by simp at hc; omega
  subst hj
  rw [List.take_length]
  refine wc_exitThen (loop_exit ?_)
  generalize keySum bb ks = ksum at *
  by_cases h6 : ksum > 65536
  · have d6 : decide (ksum > 65536) = true := by simpa using h6
    rw [if_pos h6] at hF
    simp only [Prod.mk.injEq] at hF
    obtain ⟨rfl, rfl, rfl⟩ := hF
    (repeat refine wc_assoc ?_); refine wc_then (by simp only [d6, go_sem, Nat.reduceAdd, Nat.reduceBEq, Nat.reduceEqDiff, Nat.reduceLT, Nat.reduceLeDiff, Nat.reduceMul, Nat.reduceSub, reduceCtorEq, reduceIte] <;> rfl) ?_
    (repeat refine wc_assoc ?_); refine wc_condThen (by simp only [go_sem, Nat.reduceAdd, Nat.reduceBEq, Nat.reduceEqDiff, Nat.reduceLT, Nat.reduceLeDiff, Nat.reduceMul, Nat.reduceSub, reduceCtorEq, reduceIte] <;> rfl) (fun hc => ?_) (fun hc => ?_)
    · (repeat refine wc_assoc ?_); refine wc_then (by simp only [go_sem, Nat.reduceAdd, Nat.reduceBEq, Nat.reduceEqDiff, Nat.reduceLT, Nat.reduceLeDiff, Nat.reduceMul, Nat.reduceSub, reduceCtorEq, reduceIte] <;> rfl) ?_
      refine wc_retThen ⟨.inr rfl, ⟨_, (by rfl), LeR.refl _⟩, by rfl⟩
    · cases hc
  have d6 : decide (ksum > 65536) = false := by simpa using h6
  rw [if_neg h6] at hF
  (repeat refine wc_assoc ?_); refine wc_then (by simp only [d6, go_sem, Nat.reduceAdd, Nat.reduceBEq, Nat.reduceEqDiff, Nat.reduceLT, Nat.reduceLeDiff, Nat.reduceMul, Nat.reduceSub, reduceCtorEq, reduceIte] <;> rfl) ?_
  (repeat refine wc_assoc ?_); refine wc_condThen (by simp only [go_sem, Nat.reduceAdd, Nat.reduceBEq, Nat.reduceEqDiff, Nat.reduceLT, Nat.reduceLeDiff, Nat.reduceMul, Nat.reduceSub, reduceCtorEq, reduceIte] <;> rfl) (fun hc => ?_) (fun hc => ?_)
  · cases hc
  refine wc_skip ?_
  by_cases h7 : k < 5
  · have d7 : decide (k < 5) = true := by simpa using h7
    rw [if_pos h7] at hF
    simp only [Prod.mk.injEq] at hF
    obtain ⟨rfl, rfl, rfl⟩ := hF
    (repeat refine wc_assoc ?_); refine wc_then (by simp only [d7, go_sem, Nat.reduceAdd, Nat.reduceBEq, Nat.reduceEqDiff, Nat.reduceLT, Nat.reduceLeDiff, Nat.reduceMul, Nat.reduceSub, reduceCtorEq, reduceIte] <;> rfl) ?_
    (repeat refine wc_assoc ?_); refine wc_condThen (by simp only [go_sem, Nat.reduceAdd, Nat.reduceBEq, Nat.reduceEqDiff, Nat.reduceLT, Nat.reduceLeDiff, Nat.reduceMul, Nat.reduceSub, reduceCtorEq, reduceIte] <;> rfl) (fun hc => ?_) (fun hc => ?_)
    · (repeat refine wc_assoc ?_); refine wc_then (by simp only [go_sem, Nat.reduceAdd, Nat.reduceBEq, Nat.reduceEqDiff, Nat.reduceLT, Nat.reduceLeDiff, Nat.reduceMul, Nat.reduceSub, reduceCtorEq, reduceIte] <;> rfl) ?_
      refine wc_retThen ⟨.inr rfl, ⟨_, (by rfl), LeR.refl _⟩, by rfl⟩
    · cases hc
  have d7 : decide (k < 5) = false := by simpa using h7
  rw [if_neg h7] at hF
  (repeat refine wc_assoc ?_); refine wc_then (by simp only [d7, go_sem, Nat.reduceAdd, Nat.reduceBEq, Nat.reduceEqDiff, Nat.reduceLT, Nat.reduceLeDiff, Nat.reduceMul, Nat.reduceSub, reduceCtorEq, reduceIte] <;> rfl) ?_
  (repeat refine wc_assoc ?_); refine wc_condThen (by simp only [go_sem, Nat.reduceAdd, Nat.reduceBEq, Nat.reduceEqDiff, Nat.reduceLT, Nat.reduceLeDiff, Nat.reduceMul, Nat.reduceSub, reduceCtorEq, reduceIte] <;> rfl) (fun hc => ?_) (fun hc => ?_)
  · cases hc
  refine wc_skip ?_
  generalize h8 : decide (ar ≥ 32) = b8 at *
  generalize h9 : decide ((es.length : Int) > 1024) = b9 at *
  refine wc_assoc (wc_regCond (b8 || b9) ⟨[(0, .obj 900000 0 0), (2, .d (.int .i64 ar)), (3, .d (.bool form)), (5, .obj 5 0 0)], [(900000, .box 0 [.d (.int .i64 n1), .d (.int .i64 ksum)]), (5, .box 0 [.d (.int .i64 k), .d (.int .i64 i), .d (.str s), .d (.slice (ks.map .str)), .d (.slice (encL es))])]⟩ (gh_keep [0, 2, 3, 5] [900000, 5] rfl rfl) (by
    clear hF
    repeat' (first | (apply wo_op (hg := rfl) (hc := rfl) (hd := rfl); (simp only [h8, h9, encL_length, go_sem, Nat.reduceAdd, Nat.reduceBEq, Nat.reduceEqDiff, Nat.reduceLT, Nat.reduceLeDiff, Nat.reduceMul, Nat.reduceSub, reduceCtorEq, reduceIte] <;> rfl); (simp only [go_sem, Nat.reduceAdd, Nat.reduceBEq, Nat.reduceEqDiff, Nat.reduceLT, Nat.reduceLeDiff, Nat.reduceMul, Nat.reduceSub, reduceCtorEq, reduceIte] <;> rfl)) | (apply wo_eff (hg := rfl) (hc := rfl) (hd := rfl); (simp only [h8, h9, encL_length, go_sem, Nat.reduceAdd, Nat.reduceBEq, Nat.reduceEqDiff, Nat.reduceLT, Nat.reduceLeDiff, Nat.reduceMul, Nat.reduceSub, reduceCtorEq, reduceIte] <;> rfl); (simp only [go_sem, Nat.reduceAdd, Nat.reduceBEq, Nat.reduceEqDiff, Nat.reduceLT, Nat.reduceLeDiff, Nat.reduceMul, Nat.reduceSub, reduceCtorEq, reduceIte] <;> rfl)) | (apply wo_gT (hg := rfl); (simp only [h8, h9, encL_length, go_sem, Nat.reduceAdd, Nat.reduceBEq, Nat.reduceEqDiff, Nat.reduceLT, Nat.reduceLeDiff, Nat.reduceMul, Nat.reduceSub, reduceCtorEq, reduceIte] <;> rfl)) | (apply wo_gU (hg := rfl) (hd := rfl); (simp only [h8, h9, encL_length, go_sem, Nat.reduceAdd, Nat.reduceBEq, Nat.reduceEqDiff, Nat.reduceLT, Nat.reduceLeDiff, Nat.reduceMul, Nat.reduceSub, reduceCtorEq, reduceIte] <;> rfl); (simp only [go_sem, Nat.reduceAdd, Nat.reduceBEq, Nat.reduceEqDiff, Nat.reduceLT, Nat.reduceLeDiff, Nat.reduceMul, Nat.reduceSub, reduceCtorEq, reduceIte] <;> rfl)) | (apply wo_gF (hg := rfl) (hd := rfl); (simp only [h8, h9, encL_length, go_sem, Nat.reduceAdd, Nat.reduceBEq, Nat.reduceEqDiff, Nat.reduceLT, Nat.reduceLeDiff, Nat.reduceMul, Nat.reduceSub, reduceCtorEq, reduceIte] <;> rfl); (simp only [go_sem, Nat.reduceAdd, Nat.reduceBEq, Nat.reduceEqDiff, Nat.reduceLT, Nat.reduceLeDiff, Nat.reduceMul, Nat.reduceSub, reduceCtorEq, reduceIte] <;> rfl)) | (refine wo_gST rfl (by simp only [h8, h9, encL_length, go_sem, Nat.reduceAdd, Nat.reduceBEq, Nat.reduceEqDiff, Nat.reduceLT, Nat.reduceLeDiff, Nat.reduceMul, Nat.reduceSub, reduceCtorEq, reduceIte] <;> rfl) rfl (fun hb => ?_) (fun hb => ?_) <;> (first | subst hb | (rw [Bool.not_eq_true'] at hb; subst hb) | (rw [Bool.not_eq_false'] at hb; subst hb))) | (refine wo_gSF rfl (by simp only [h8, h9, encL_length, go_sem, Nat.reduceAdd, Nat.reduceBEq, Nat.reduceEqDiff, Nat.reduceLT, Nat.reduceLeDiff, Nat.reduceMul, Nat.reduceSub, reduceCtorEq, reduceIte] <;> rfl) rfl (fun hb => ?_) (fun hb => ?_) <;> (first | subst hb | (rw [Bool.not_eq_true'] at hb; subst hb) | (rw [Bool.not_eq_false'] at hb; subst hb))) | refine wo_nil ?_)
    all_goals exact ⟨rfl, gh_keep [0, 2, 3, 5] [900000, 5] rfl rfl⟩) (fun hc σ' hg => ?_) (fun hc σ' hg => ?_))
  · rw [if_pos hc] at hF
    simp only [Prod.mk.injEq] at hF
    obtain ⟨rfl, rfl, rfl⟩ := hF
    (repeat refine wc_assoc ?_); refine wc_ghost (hg) (by simp only [go_sem, Nat.reduceAdd, Nat.reduceBEq, Nat.reduceEqDiff, Nat.reduceLT, Nat.reduceLeDiff, Nat.reduceMul, Nat.reduceSub, reduceCtorEq, reduceIte] <;> rfl) ?_
    refine wc_retThen ⟨.inr rfl, ⟨_, (by rfl), LeR.refl _⟩, by rfl⟩
  rw [if_neg (by simp [hc])] at hF
  refine wc_skip ?_
  (repeat refine wc_assoc ?_); refine wc_ghost (hg) (by simp only [encL_length, go_sem, Nat.reduceAdd, Nat.reduceBEq, Nat.reduceEqDiff, Nat.reduceLT, Nat.reduceLeDiff, Nat.reduceMul, Nat.reduceSub, reduceCtorEq, reduceIte] <;> rfl) ?_
  generalize har : IntKind.i64.wrap (ar + 1) = ar1 at *
  refine wc_loopThen (σ0 := ⟨[(0, .obj 900000 0 0), (2, .d (.int .i64 ar)), (3, .d (.bool form)), (5, .obj 5 0 0), (96, .d (.slice (encL es))), (97, .d (.int .i64 (es.length : Nat))), (98, .d (.int .i64 (0 : Nat)))], [(900000, .box 0 [.d (.int .i64 n1), .d (.int .i64 ksum)]), (5, .box 0 [.d (.int .i64 k), .d (.int .i64 i), .d (.str s), .d (.slice (ks.map .str)), .d (.slice (encL es))])]⟩)
    (fun m σ => ∃ j n2 b2, m + j = es.length ∧ fitsL es ar1 form n1 ksum = fitsL (es.drop j) ar1 form n2 b2 ∧ σ = ⟨[(0, .obj 900000 0 0), (2, .d (.int .i64 ar)), (3, .d (.bool form)), (5, .obj 5 0 0), (96, .d (.slice (encL es))), (97, .d (.int .i64 (es.length : Nat))), (98, .d (.int .i64 (j : Nat)))], [(900000, .box 0 [.d (.int .i64 n2), .d (.int .i64 b2)]), (5, .box 0 [.d (.int .i64 k), .d (.int .i64 i), .d (.str s), .d (.slice (ks.map .str)), .d (.slice (encL es))])]⟩) es.length
    (gh_keep [0, 2, 3, 5, 96, 97, 98] [900000, 5] rfl rfl) ⟨0, n1, ksum, by simp, by simp, rfl⟩ ?_
  rintro m σ ⟨j, n2, b2, hm, hl, rfl⟩
  (repeat refine wc_assoc ?_); refine wc_then (by simp only [go_sem, Nat.reduceAdd, Nat.reduceBEq, Nat.reduceEqDiff, Nat.reduceLT, Nat.reduceLeDiff, Nat.reduceMul, Nat.reduceSub, reduceCtorEq, reduceIte] <;> rfl) ?_
  (repeat refine wc_assoc ?_); refine wc_condThen (by simp only [go_sem, Nat.reduceAdd, Nat.reduceBEq, Nat.reduceEqDiff, Nat.reduceLT, Nat.reduceLeDiff, Nat.reduceMul, Nat.reduceSub, reduceCtorEq, reduceIte] <;> rfl) (fun hc => ?_) (fun hc => ?_)
  · have hj : j < es.length := by simpa using hc
    rw [List.drop_eq_getElem_cons hj, fitsL] at hl
    have hsp := hv es[j] (List.getElem_mem hj) ar1 form n2 b2
    generalize es[j].fits ar1 form n2 b2 = G at *
    obtain ⟨gr, gn, gb⟩ := G
    simp only [] at hl hsp
    refine wc_skip ?_
    refine wc_blockThen ?_
    obtain ⟨cs, e1, e2⟩ := enc_agg es[j]
    have g1 := encL_get hj
    rw [e1] at g1 hsp
    have t1 : cs.take 5 = cs := List.take_of_length_le (by omega)
    match cs, e2 with
    | [c0, c1, c2, c3, c4], _ =>
    (repeat refine wc_assoc ?_); refine wc_then (by simp only [g1, t1, Nat.le_refl, Int.toNat_natCast, Int.natCast_nonneg, go_sem, Nat.reduceAdd, Nat.reduceBEq, Nat.reduceEqDiff, Nat.reduceLT, Nat.reduceLeDiff, Nat.reduceMul, Nat.reduceSub, reduceCtorEq, reduceIte] <;> rfl) ?_
    refine wc_then (by
      repeat (first
    | (apply wo_op (hg := rfl) (hc := rfl) (hd := rfl); (simp only [har, go_sem, Nat.reduceAdd, Nat.reduceBEq, Nat.reduceEqDiff, Nat.reduceLT, Nat.reduceLeDiff, Nat.reduceMul, Nat.reduceSub, reduceCtorEq, reduceIte] <;> rfl); (simp only [go_sem, Nat.reduceAdd, Nat.reduceBEq, Nat.reduceEqDiff, Nat.reduceLT, Nat.reduceLeDiff, Nat.reduceMul, Nat.reduceSub, reduceCtorEq, reduceIte] <;> rfl))
    | (apply wo_eff (hg := rfl) (hc := rfl) (hd := rfl); (simp only [har, go_sem, Nat.reduceAdd, Nat.reduceBEq, Nat.reduceEqDiff, Nat.reduceLT, Nat.reduceLeDiff, Nat.reduceMul, Nat.reduceSub, reduceCtorEq, reduceIte] <;> rfl); (simp only [go_sem, Nat.reduceAdd, Nat.reduceBEq, Nat.reduceEqDiff, Nat.reduceLT, Nat.reduceLeDiff, Nat.reduceMul, Nat.reduceSub, reduceCtorEq, reduceIte] <;> rfl))
    | (apply wo_gT (hg := rfl); (simp only [har, go_sem, Nat.reduceAdd, Nat.reduceBEq, Nat.reduceEqDiff, Nat.reduceLT, Nat.reduceLeDiff, Nat.reduceMul, Nat.reduceSub, reduceCtorEq, reduceIte] <;> rfl))
    | (apply wo_gU (hg := rfl) (hd := rfl); (simp only [har, go_sem, Nat.reduceAdd, Nat.reduceBEq, Nat.reduceEqDiff, Nat.reduceLT, Nat.reduceLeDiff, Nat.reduceMul, Nat.reduceSub, reduceCtorEq, reduceIte] <;> rfl); (simp only [go_sem, Nat.reduceAdd, Nat.reduceBEq, Nat.reduceEqDiff, Nat.reduceLT, Nat.reduceLeDiff, Nat.reduceMul, Nat.reduceSub, reduceCtorEq, reduceIte] <;> rfl))
    | (apply wo_gF (hg := rfl) (hd := rfl); (simp only [har, go_sem, Nat.reduceAdd, Nat.reduceBEq, Nat.reduceEqDiff, Nat.reduceLT, Nat.reduceLeDiff, Nat.reduceMul, Nat.reduceSub, reduceCtorEq, reduceIte] <;> rfl); (simp only [go_sem, Nat.reduceAdd, Nat.reduceBEq, Nat.reduceEqDiff, Nat.reduceLT, Nat.reduceLeDiff, Nat.reduceMul, Nat.reduceSub, reduceCtorEq, reduceIte] <;> rfl))
    | exact wo_nil rfl)
      refine wo_ref (ids := [900000]) rfl rfl (by simp only [go_sem, Nat.reduceAdd, Nat.reduceBEq, Nat.reduceEqDiff, Nat.reduceLT, Nat.reduceLeDiff, Nat.reduceMul, Nat.reduceSub, reduceCtorEq, reduceIte] <;> rfl) (by rfl) (LeA.refl _) (by first | exact boxes_one rfl | rfl) (by decide) (upR1 (hsp)) rfl (.inl rfl) (by simp only [St.after, updBL, boxWith, frU, freshOf, resTR, Go.Pm.R.t, go_sem, Nat.reduceAdd, Nat.reduceBEq, Nat.reduceEqDiff, Nat.reduceLT, Nat.reduceLeDiff, Nat.reduceMul, Nat.reduceSub, reduceCtorEq, reduceIte] <;> rfl) ?_
      repeat (first
    | (apply wo_op (hg := rfl) (hc := rfl) (hd := rfl); (simp only [go_sem, Nat.reduceAdd, Nat.reduceBEq, Nat.reduceEqDiff, Nat.reduceLT, Nat.reduceLeDiff, Nat.reduceMul, Nat.reduceSub, reduceCtorEq, reduceIte] <;> rfl); (simp only [go_sem, Nat.reduceAdd, Nat.reduceBEq, Nat.reduceEqDiff, Nat.reduceLT, Nat.reduceLeDiff, Nat.reduceMul, Nat.reduceSub, reduceCtorEq, reduceIte] <;> rfl))
    | (apply wo_eff (hg := rfl) (hc := rfl) (hd := rfl); (simp only [go_sem, Nat.reduceAdd, Nat.reduceBEq, Nat.reduceEqDiff, Nat.reduceLT, Nat.reduceLeDiff, Nat.reduceMul, Nat.reduceSub, reduceCtorEq, reduceIte] <;> rfl); (simp only [go_sem, Nat.reduceAdd, Nat.reduceBEq, Nat.reduceEqDiff, Nat.reduceLT, Nat.reduceLeDiff, Nat.reduceMul, Nat.reduceSub, reduceCtorEq, reduceIte] <;> rfl))
    | (apply wo_gT (hg := rfl); (simp only [go_sem, Nat.reduceAdd, Nat.reduceBEq, Nat.reduceEqDiff, Nat.reduceLT, Nat.reduceLeDiff, Nat.reduceMul, Nat.reduceSub, reduceCtorEq, reduceIte] <;> rfl))
    | (apply wo_gU (hg := rfl) (hd := rfl); (simp only [go_sem, Nat.reduceAdd, Nat.reduceBEq, Nat.reduceEqDiff, Nat.reduceLT, Nat.reduceLeDiff, Nat.reduceMul, Nat.reduceSub, reduceCtorEq, reduceIte] <;> rfl); (simp only [go_sem, Nat.reduceAdd, Nat.reduceBEq, Nat.reduceEqDiff, Nat.reduceLT, Nat.reduceLeDiff, Nat.reduceMul, Nat.reduceSub, reduceCtorEq, reduceIte] <;> rfl))
    | (apply wo_gF (hg := rfl) (hd := rfl); (simp only [go_sem, Nat.reduceAdd, Nat.reduceBEq, Nat.reduceEqDiff, Nat.reduceLT, Nat.reduceLeDiff, Nat.reduceMul, Nat.reduceSub, reduceCtorEq, reduceIte] <;> rfl); (simp only [go_sem, Nat.reduceAdd, Nat.reduceBEq, Nat.reduceEqDiff, Nat.reduceLT, Nat.reduceLeDiff, Nat.reduceMul, Nat.reduceSub, reduceCtorEq, reduceIte] <;> rfl))
    | exact wo_nil rfl)) ?_
    (repeat refine wc_assoc ?_); refine wc_cond (by simp only [go_sem, Nat.reduceAdd, Nat.reduceBEq, Nat.reduceEqDiff, Nat.reduceLT, Nat.reduceLeDiff, Nat.reduceMul, Nat.reduceSub, reduceCtorEq, reduceIte] <;> rfl) (fun hc => ?_) (fun hc => ?_)
    · have hgr : gr = false := by simpa using hc
      subst hgr
      rw [if_neg (by decide)] at hl
      rw [hl] at hF
      simp only [Prod.mk.injEq] at hF
      obtain ⟨rfl, rfl, rfl⟩ := hF
      (repeat refine wc_assoc ?_); refine wc_then (by simp only [go_sem, Nat.reduceAdd, Nat.reduceBEq, Nat.reduceEqDiff, Nat.reduceLT, Nat.reduceLeDiff, Nat.reduceMul, Nat.reduceSub, reduceCtorEq, reduceIte] <;> rfl) ?_
      refine wc_ret ⟨.inr rfl, ⟨_, (by rfl), LeR.refl _⟩, by rfl⟩
    · have hgr : gr = true := by simpa using hc
      subst hgr
      rw [if_pos rfl] at hl
      refine wc_skipEnd (blk_normal ?_)
      refine wc_last (by simp only [go_sem, Nat.reduceAdd, Nat.reduceBEq, Nat.reduceEqDiff, Nat.reduceLT, Nat.reduceLeDiff, Nat.reduceMul, Nat.reduceSub, reduceCtorEq, reduceIte] <;> rfl) ?_
      refine loop_next (m - 1) (by omega) (gh_keep [0, 2, 3, 5, 96, 97, 98] [900000, 5] rfl rfl) ⟨j + 1, gn, gb, by omega, hl, ?_⟩
      have hw : IntKind.i64.wrap ((j : Int) + 1) = ((j + 1 : Nat) : Int) := wrap_nat (n := j + 1) (by omega)
      simp only [hw]
      rfl
  have hj : j = es.length := by simp at hc; omega
  subst hj
  rw [List.drop_length, fitsL] at hl
  rw [hl] at hF
  simp only [Prod.mk.injEq] at hF
  obtain ⟨rfl, rfl, rfl⟩ := hF
  refine wc_exitThen (loop_exit ?_)
  (repeat refine wc_assoc ?_); refine wc_then (by simp only [go_sem, Nat.reduceAdd, Nat.reduceBEq, Nat.reduceEqDiff, Nat.reduceLT, Nat.reduceLeDiff, Nat.reduceMul, Nat.reduceSub, reduceCtorEq, reduceIte] <;> rfl) ?_
  refine wc_ret ⟨.inr rfl, ⟨_, (by rfl), LeR.refl _⟩, by rfl⟩
mutual
theorem fits_spec : ∀ v : V, FitsOK v
  | .mk k i s ks es => fits_step k i s ks es (fits_all es)
theorem fits_all : ∀ l : List V, ∀ v ∈ l, FitsOK v
  | [], v, h => by simp at h
  | w :: l, v, h => by
    rcases List.mem_cons.1 h with e | h
    · exact e ▸ fits_spec w
    · exact fits_all l v h
end
end Go.Proofs.Ytnkknmdpakebhaa
