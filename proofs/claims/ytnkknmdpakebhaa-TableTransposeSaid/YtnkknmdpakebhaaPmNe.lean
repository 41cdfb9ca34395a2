/- ops and table: Reverse of what is no string. -/
import Derived.Test.YtnkknmdpakebhaaPmNd
set_option linter.unusedSimpArgs false
set_option linter.unusedVariables false
set_option maxHeartbeats 4000000
namespace Go.Proofs.Ytnkknmdpakebhaa
open Go Go.Pm
open Nat (reduceAdd reduceEqDiff reduceLT reduceLeDiff reduceMul reduceSub)
attribute [local irreducible] WC WOps WOpsG
attribute [local go_sem] WOps WOp callOf gtmp gval gvalT evOp evBuiltin binT St.ev constT St.m envOf Go.Pm.look St.upd St.putO St.put St.set allT allP T.toD unD1 T.cells T.asSlice D.cells D.sz eqTy binD unD cvD cv2 fillD ldT ldD TyI.agg allD splice isSome' cut bnd resT resOf Done Option.all_some Option.all_none Option.getD_some Option.getD_none Option.bind_some Option.bind_none Option.map_some Option.map_none List.map List.map_cons List.map_nil List.cons_append List.nil_append List.append_nil List.take_succ_cons List.drop_succ_cons List.take_zero List.drop_zero List.take_nil List.drop_nil List.head?_cons List.length_cons List.length_nil List.getElem?_cons_zero List.getElem?_cons_succ List.getElem?_toArray List.all_cons List.all_nil ite_true ite_false if_true if_false Bool.not_false Bool.not_true decide_true decide_false and_true true_and and_self false_and and_false Bool.and_true Bool.true_and Bool.or_true Bool.true_or List.size_toArray seqFrom beq_self_eq_true BEq.rfl eq_self Nat.succ_ne_self false_or or_false Nat.zero_add Nat.add_zero Nat.not_lt_zero Nat.one_ne_zero tab2 tab3 tab4 tab5 tab9 tab22 tab24 tab25 tab27 tab30 tab54 tab57 tab78 tab85
theorem rev_nil : Pm.Spec X0.P 69 [.slice []] [] := by
  refine Spec.of fn69 rfl rfl (by show 1 ≤ 28; decide) ?_
  show WC X0 28 _ _ _
  have hw : IntKind.i64.wrap (((0 : Nat) : Int) - 1) = -1 := by rw [IntKind.wrap_i64]; omega
  refine wc_then (by repeat (first
    | (apply wo_op (hg := rfl) (hc := rfl) (hd := rfl); (simp only [hw, List.length_nil, go_sem, reduceAdd, Nat.reduceBEq, reduceEqDiff, reduceLT, reduceLeDiff, reduceMul, reduceSub, reduceCtorEq, reduceIte] <;> rfl); (simp only [go_sem, reduceAdd, Nat.reduceBEq, reduceEqDiff, reduceLT, reduceLeDiff, reduceMul, reduceSub, reduceCtorEq, reduceIte] <;> rfl))
    | (apply wo_eff (hg := rfl) (hc := rfl) (hd := rfl); (simp only [hw, List.length_nil, go_sem, reduceAdd, Nat.reduceBEq, reduceEqDiff, reduceLT, reduceLeDiff, reduceMul, reduceSub, reduceCtorEq, reduceIte] <;> rfl); (simp only [go_sem, reduceAdd, Nat.reduceBEq, reduceEqDiff, reduceLT, reduceLeDiff, reduceMul, reduceSub, reduceCtorEq, reduceIte] <;> rfl))
    | (apply wo_gT (hg := rfl); (simp only [hw, List.length_nil, go_sem, reduceAdd, Nat.reduceBEq, reduceEqDiff, reduceLT, reduceLeDiff, reduceMul, reduceSub, reduceCtorEq, reduceIte] <;> rfl))
    | (apply wo_gU (hg := rfl) (hd := rfl); (simp only [hw, List.length_nil, go_sem, reduceAdd, Nat.reduceBEq, reduceEqDiff, reduceLT, reduceLeDiff, reduceMul, reduceSub, reduceCtorEq, reduceIte] <;> rfl); (simp only [go_sem, reduceAdd, Nat.reduceBEq, reduceEqDiff, reduceLT, reduceLeDiff, reduceMul, reduceSub, reduceCtorEq, reduceIte] <;> rfl))
    | (apply wo_gF (hg := rfl) (hd := rfl); (simp only [hw, List.length_nil, go_sem, reduceAdd, Nat.reduceBEq, reduceEqDiff, reduceLT, reduceLeDiff, reduceMul, reduceSub, reduceCtorEq, reduceIte] <;> rfl); (simp only [go_sem, reduceAdd, Nat.reduceBEq, reduceEqDiff, reduceLT, reduceLeDiff, reduceMul, reduceSub, reduceCtorEq, reduceIte] <;> rfl))
    | exact wo_nil rfl)) ?_
  refine wc_loopLast (σ0 := ⟨[(2, .d (.int .i64 0)), (3, .d (.int .i64 (-1)))], []⟩) (fun m σ => σ = ⟨[(2, .d (.int .i64 0)), (3, .d (.int .i64 (-1)))], []⟩) 0 (gh_keep [2, 3] [] rfl rfl) rfl ?_
  rintro m σ rfl
  have d1 : decide ((0 : Int) < -1) = false := rfl
  (repeat refine wc_assoc ?_); refine wc_then (by simp only [d1, go_sem, reduceAdd, Nat.reduceBEq, reduceEqDiff, reduceLT, reduceLeDiff, reduceMul, reduceSub, reduceCtorEq, reduceIte] <;> rfl) ?_
  (repeat refine wc_assoc ?_); refine wc_condThen (by simp only [go_sem, reduceAdd, Nat.reduceBEq, reduceEqDiff, reduceLT, reduceLeDiff, reduceMul, reduceSub, reduceCtorEq, reduceIte] <;> rfl) (fun hc => ?_) (fun hc => ?_)
  · cases hc
  refine wc_exitThen (loopE_exit ?_)
  exact ⟨.inl rfl, _, (by simp only [Try.f69, go_sem, reduceAdd, Nat.reduceBEq, reduceEqDiff, reduceLT, reduceLeDiff, reduceMul, reduceSub, reduceCtorEq, reduceIte] <;> rfl), .refl _⟩
theorem vclone_nil : Pm.Spec X0.P 68 [.slice []] [.slice []] := by
  refine Spec.of fn68 rfl rfl (by show 1 ≤ 8; decide) ?_
  show WC X0 8 _ _ _
  (repeat refine wc_assoc ?_); refine wc_then (by simp only [go_sem, reduceAdd, Nat.reduceBEq, reduceEqDiff, reduceLT, reduceLeDiff, reduceMul, reduceSub, reduceCtorEq, reduceIte] <;> rfl) ?_
  (repeat refine wc_assoc ?_); refine wc_then (by simp only [go_sem, reduceAdd, Nat.reduceBEq, reduceEqDiff, reduceLT, reduceLeDiff, reduceMul, reduceSub, reduceCtorEq, reduceIte] <;> rfl) ?_
  refine wc_condAny rfl ?_ ?_
  · (repeat refine wc_assoc ?_); refine wc_then (by simp only [go_sem, reduceAdd, Nat.reduceBEq, reduceEqDiff, reduceLT, reduceLeDiff, reduceMul, reduceSub, reduceCtorEq, reduceIte] <;> rfl) ?_
    refine wc_retThen ⟨.inr rfl, _, (by simp only [Try.f68, go_sem, reduceAdd, Nat.reduceBEq, reduceEqDiff, reduceLT, reduceLeDiff, reduceMul, reduceSub, reduceCtorEq, reduceIte] <;> rfl), ?_⟩
    exact .cons D.nil_le .nil
  · refine wc_skip ?_
    (repeat refine wc_assoc ?_); refine wc_then (by simp only [go_sem, reduceAdd, Nat.reduceBEq, reduceEqDiff, reduceLT, reduceLeDiff, reduceMul, reduceSub, reduceCtorEq, reduceIte] <;> rfl) ?_
    refine wc_ret ⟨.inr rfl, _, (by simp only [Try.f68, go_sem, reduceAdd, Nat.reduceBEq, reduceEqDiff, reduceLT, reduceLeDiff, reduceMul, reduceSub, reduceCtorEq, reduceIte] <;> rfl), ?_⟩
    exact .refl _
def reverseRes (v : V) : V × Int := if v.kd = 0 then (V.arr [], 0) else if v.kd = 5 then (V.arr v.els.reverse, 0) else (V.zero, 12)
theorem opreverse_spec (v : V) (h4 : v.kd ≠ 4) (hl : v.els.length ≤ 1048576) : Pm.Spec X0.P 45 [v.enc] [(reverseRes v).1.enc, .int .i64 (reverseRes v).2] := by
  cases v with
  | mk k i s ks es =>
  have h4 : k ≠ 4 := h4
  have hl : es.length ≤ 1048576 := hl
  have hR : reverseRes (V.mk k i s ks es) = (if k = 0 then (V.arr [], 0) else if k = 5 then (V.arr es.reverse, 0) else (V.zero, 12)) := rfl
  generalize reverseRes (V.mk k i s ks es) = R at *
  have hz := none_spec
  have hzz : V.zero.enc = .agg [.int .i64 0, .int .i64 0, .str ⟨#[]⟩, .slice [], .slice []] := rfl
  rw [hzz] at hz
  have ha : ∀ q, Pm.Spec X0.P 54 [.slice (encL q)] [.agg [.int .i64 5, .int .i64 0, .str ⟨#[]⟩, .slice [], .slice (encL q)]] := fun q => by
    have := arr_spec q
    simpa only [V.arr, V.enc, List.map_nil] using this
  have ha0 := ha []
  simp only [encL] at ha0
  simp only [V.enc]
  refine Spec.of fn45 rfl rfl (by show 1 ≤ 41; decide) ?_
  show WC X0 41 _ _ _
  (repeat refine wc_assoc ?_); refine wc_then (by simp only [go_sem, reduceAdd, Nat.reduceBEq, reduceEqDiff, reduceLT, reduceLeDiff, reduceMul, reduceSub, reduceCtorEq, reduceIte] <;> rfl) ?_
  (repeat refine wc_assoc ?_); refine wc_then (by simp only [go_sem, reduceAdd, Nat.reduceBEq, reduceEqDiff, reduceLT, reduceLeDiff, reduceMul, reduceSub, reduceCtorEq, reduceIte] <;> rfl) ?_
  refine wc_blockThen ?_
  generalize hK : BlkK X0 41 0 _ _ = K
  have hret : ∀ σ', Done X0 Try.f45 [R.1.enc, .int .i64 R.2] .ret σ' → K .ret σ' := fun σ' h => by subst hK; exact h
  have hrest : ∀ σ', R = (V.zero, 12) → Gh X0.refs σ' ⟨[(2, .obj 2 0 0)], [(2, .box 0 [.d (.int .i64 0), .d (.int .i64 0), .d (.str ⟨#[]⟩), .d .nil, .d .nil])]⟩ → K .normal σ' := by
    intro σ' hRr hg
    subst hK
    refine blk_normal ?_
    (repeat refine wc_assoc ?_);  refine wc_ghost hg (by
      repeat (first
    | (apply wo_op (hg := rfl) (hc := rfl) (hd := rfl); (simp only [go_sem, reduceAdd, Nat.reduceBEq, reduceEqDiff, reduceLT, reduceLeDiff, reduceMul, reduceSub, reduceCtorEq, reduceIte] <;> rfl); (simp only [go_sem, reduceAdd, Nat.reduceBEq, reduceEqDiff, reduceLT, reduceLeDiff, reduceMul, reduceSub, reduceCtorEq, reduceIte] <;> rfl))
    | (apply wo_eff (hg := rfl) (hc := rfl) (hd := rfl); (simp only [go_sem, reduceAdd, Nat.reduceBEq, reduceEqDiff, reduceLT, reduceLeDiff, reduceMul, reduceSub, reduceCtorEq, reduceIte] <;> rfl); (simp only [go_sem, reduceAdd, Nat.reduceBEq, reduceEqDiff, reduceLT, reduceLeDiff, reduceMul, reduceSub, reduceCtorEq, reduceIte] <;> rfl))
    | (apply wo_gT (hg := rfl); (simp only [go_sem, reduceAdd, Nat.reduceBEq, reduceEqDiff, reduceLT, reduceLeDiff, reduceMul, reduceSub, reduceCtorEq, reduceIte] <;> rfl))
    | (apply wo_gU (hg := rfl) (hd := rfl); (simp only [go_sem, reduceAdd, Nat.reduceBEq, reduceEqDiff, reduceLT, reduceLeDiff, reduceMul, reduceSub, reduceCtorEq, reduceIte] <;> rfl); (simp only [go_sem, reduceAdd, Nat.reduceBEq, reduceEqDiff, reduceLT, reduceLeDiff, reduceMul, reduceSub, reduceCtorEq, reduceIte] <;> rfl))
    | (apply wo_gF (hg := rfl) (hd := rfl); (simp only [go_sem, reduceAdd, Nat.reduceBEq, reduceEqDiff, reduceLT, reduceLeDiff, reduceMul, reduceSub, reduceCtorEq, reduceIte] <;> rfl); (simp only [go_sem, reduceAdd, Nat.reduceBEq, reduceEqDiff, reduceLT, reduceLeDiff, reduceMul, reduceSub, reduceCtorEq, reduceIte] <;> rfl))
    | exact wo_nil rfl)
      refine wo_call rfl rfl (by simp only [go_sem, reduceAdd, Nat.reduceBEq, reduceEqDiff, reduceLT, reduceLeDiff, reduceMul, reduceSub, reduceCtorEq, reduceIte] <;> rfl) (by simp only [go_sem, reduceAdd, Nat.reduceBEq, reduceEqDiff, reduceLT, reduceLeDiff, reduceMul, reduceSub, reduceCtorEq, reduceIte] <;> rfl) (.refl _) ((hz)) rfl (by simp only [go_sem, reduceAdd, Nat.reduceBEq, reduceEqDiff, reduceLT, reduceLeDiff, reduceMul, reduceSub, reduceCtorEq, reduceIte] <;> rfl) ?_
      repeat (first
    | (apply wo_op (hg := rfl) (hc := rfl) (hd := rfl); (simp only [go_sem, reduceAdd, Nat.reduceBEq, reduceEqDiff, reduceLT, reduceLeDiff, reduceMul, reduceSub, reduceCtorEq, reduceIte] <;> rfl); (simp only [go_sem, reduceAdd, Nat.reduceBEq, reduceEqDiff, reduceLT, reduceLeDiff, reduceMul, reduceSub, reduceCtorEq, reduceIte] <;> rfl))
    | (apply wo_eff (hg := rfl) (hc := rfl) (hd := rfl); (simp only [go_sem, reduceAdd, Nat.reduceBEq, reduceEqDiff, reduceLT, reduceLeDiff, reduceMul, reduceSub, reduceCtorEq, reduceIte] <;> rfl); (simp only [go_sem, reduceAdd, Nat.reduceBEq, reduceEqDiff, reduceLT, reduceLeDiff, reduceMul, reduceSub, reduceCtorEq, reduceIte] <;> rfl))
    | (apply wo_gT (hg := rfl); (simp only [go_sem, reduceAdd, Nat.reduceBEq, reduceEqDiff, reduceLT, reduceLeDiff, reduceMul, reduceSub, reduceCtorEq, reduceIte] <;> rfl))
    | (apply wo_gU (hg := rfl) (hd := rfl); (simp only [go_sem, reduceAdd, Nat.reduceBEq, reduceEqDiff, reduceLT, reduceLeDiff, reduceMul, reduceSub, reduceCtorEq, reduceIte] <;> rfl); (simp only [go_sem, reduceAdd, Nat.reduceBEq, reduceEqDiff, reduceLT, reduceLeDiff, reduceMul, reduceSub, reduceCtorEq, reduceIte] <;> rfl))
    | (apply wo_gF (hg := rfl) (hd := rfl); (simp only [go_sem, reduceAdd, Nat.reduceBEq, reduceEqDiff, reduceLT, reduceLeDiff, reduceMul, reduceSub, reduceCtorEq, reduceIte] <;> rfl); (simp only [go_sem, reduceAdd, Nat.reduceBEq, reduceEqDiff, reduceLT, reduceLeDiff, reduceMul, reduceSub, reduceCtorEq, reduceIte] <;> rfl))
    | exact wo_nil rfl)) ?_
    refine wc_ret ⟨.inr rfl, _, (by simp only [Try.f45, go_sem, reduceAdd, Nat.reduceBEq, reduceEqDiff, reduceLT, reduceLeDiff, reduceMul, reduceSub, reduceCtorEq, reduceIte] <;> rfl), ?_⟩
    rw [hRr]
    exact .refl _
  clear hK
  have d4 : (k == 4) = false := by simpa using h4
  by_cases h0 : k = 0
  · have d0 : (k == 0) = true := by simpa using h0
    rw [if_pos h0] at hR
    (repeat refine wc_assoc ?_); refine wc_then (by simp only [d0, go_sem, reduceAdd, Nat.reduceBEq, reduceEqDiff, reduceLT, reduceLeDiff, reduceMul, reduceSub, reduceCtorEq, reduceIte] <;> rfl) ?_
    (repeat refine wc_assoc ?_); refine wc_cond (by simp only [go_sem, reduceAdd, Nat.reduceBEq, reduceEqDiff, reduceLT, reduceLeDiff, reduceMul, reduceSub, reduceCtorEq, reduceIte] <;> rfl) (fun hc => ?_) (fun hc => ?_)
    · (repeat refine wc_assoc ?_);  refine wc_then (by
        repeat (first
    | (apply wo_op (hg := rfl) (hc := rfl) (hd := rfl); (simp only [go_sem, reduceAdd, Nat.reduceBEq, reduceEqDiff, reduceLT, reduceLeDiff, reduceMul, reduceSub, reduceCtorEq, reduceIte] <;> rfl); (simp only [go_sem, reduceAdd, Nat.reduceBEq, reduceEqDiff, reduceLT, reduceLeDiff, reduceMul, reduceSub, reduceCtorEq, reduceIte] <;> rfl))
    | (apply wo_eff (hg := rfl) (hc := rfl) (hd := rfl); (simp only [go_sem, reduceAdd, Nat.reduceBEq, reduceEqDiff, reduceLT, reduceLeDiff, reduceMul, reduceSub, reduceCtorEq, reduceIte] <;> rfl); (simp only [go_sem, reduceAdd, Nat.reduceBEq, reduceEqDiff, reduceLT, reduceLeDiff, reduceMul, reduceSub, reduceCtorEq, reduceIte] <;> rfl))
    | (apply wo_gT (hg := rfl); (simp only [go_sem, reduceAdd, Nat.reduceBEq, reduceEqDiff, reduceLT, reduceLeDiff, reduceMul, reduceSub, reduceCtorEq, reduceIte] <;> rfl))
    | (apply wo_gU (hg := rfl) (hd := rfl); (simp only [go_sem, reduceAdd, Nat.reduceBEq, reduceEqDiff, reduceLT, reduceLeDiff, reduceMul, reduceSub, reduceCtorEq, reduceIte] <;> rfl); (simp only [go_sem, reduceAdd, Nat.reduceBEq, reduceEqDiff, reduceLT, reduceLeDiff, reduceMul, reduceSub, reduceCtorEq, reduceIte] <;> rfl))
    | (apply wo_gF (hg := rfl) (hd := rfl); (simp only [go_sem, reduceAdd, Nat.reduceBEq, reduceEqDiff, reduceLT, reduceLeDiff, reduceMul, reduceSub, reduceCtorEq, reduceIte] <;> rfl); (simp only [go_sem, reduceAdd, Nat.reduceBEq, reduceEqDiff, reduceLT, reduceLeDiff, reduceMul, reduceSub, reduceCtorEq, reduceIte] <;> rfl))
    | exact wo_nil rfl)
        refine wo_call rfl rfl (by simp only [go_sem, reduceAdd, Nat.reduceBEq, reduceEqDiff, reduceLT, reduceLeDiff, reduceMul, reduceSub, reduceCtorEq, reduceIte] <;> rfl) (by simp only [go_sem, reduceAdd, Nat.reduceBEq, reduceEqDiff, reduceLT, reduceLeDiff, reduceMul, reduceSub, reduceCtorEq, reduceIte] <;> rfl) (.cons D.nil_le .nil) ((ha0)) rfl (by simp only [go_sem, reduceAdd, Nat.reduceBEq, reduceEqDiff, reduceLT, reduceLeDiff, reduceMul, reduceSub, reduceCtorEq, reduceIte] <;> rfl) ?_
        repeat (first
    | (apply wo_op (hg := rfl) (hc := rfl) (hd := rfl); (simp only [go_sem, reduceAdd, Nat.reduceBEq, reduceEqDiff, reduceLT, reduceLeDiff, reduceMul, reduceSub, reduceCtorEq, reduceIte] <;> rfl); (simp only [go_sem, reduceAdd, Nat.reduceBEq, reduceEqDiff, reduceLT, reduceLeDiff, reduceMul, reduceSub, reduceCtorEq, reduceIte] <;> rfl))
    | (apply wo_eff (hg := rfl) (hc := rfl) (hd := rfl); (simp only [go_sem, reduceAdd, Nat.reduceBEq, reduceEqDiff, reduceLT, reduceLeDiff, reduceMul, reduceSub, reduceCtorEq, reduceIte] <;> rfl); (simp only [go_sem, reduceAdd, Nat.reduceBEq, reduceEqDiff, reduceLT, reduceLeDiff, reduceMul, reduceSub, reduceCtorEq, reduceIte] <;> rfl))
    | (apply wo_gT (hg := rfl); (simp only [go_sem, reduceAdd, Nat.reduceBEq, reduceEqDiff, reduceLT, reduceLeDiff, reduceMul, reduceSub, reduceCtorEq, reduceIte] <;> rfl))
    | (apply wo_gU (hg := rfl) (hd := rfl); (simp only [go_sem, reduceAdd, Nat.reduceBEq, reduceEqDiff, reduceLT, reduceLeDiff, reduceMul, reduceSub, reduceCtorEq, reduceIte] <;> rfl); (simp only [go_sem, reduceAdd, Nat.reduceBEq, reduceEqDiff, reduceLT, reduceLeDiff, reduceMul, reduceSub, reduceCtorEq, reduceIte] <;> rfl))
    | (apply wo_gF (hg := rfl) (hd := rfl); (simp only [go_sem, reduceAdd, Nat.reduceBEq, reduceEqDiff, reduceLT, reduceLeDiff, reduceMul, reduceSub, reduceCtorEq, reduceIte] <;> rfl); (simp only [go_sem, reduceAdd, Nat.reduceBEq, reduceEqDiff, reduceLT, reduceLeDiff, reduceMul, reduceSub, reduceCtorEq, reduceIte] <;> rfl))
    | exact wo_nil rfl)) ?_
      refine wc_ret (hret _ ⟨.inr rfl, _, (by simp only [Try.f45, go_sem, reduceAdd, Nat.reduceBEq, reduceEqDiff, reduceLT, reduceLeDiff, reduceMul, reduceSub, reduceCtorEq, reduceIte] <;> rfl), ?_⟩)
      rw [hR]
      exact .refl _
    · cases hc
  have d0 : (k == 0) = false := by simpa using h0
  rw [if_neg h0] at hR
  (repeat refine wc_assoc ?_); refine wc_then (by simp only [d0, go_sem, reduceAdd, Nat.reduceBEq, reduceEqDiff, reduceLT, reduceLeDiff, reduceMul, reduceSub, reduceCtorEq, reduceIte] <;> rfl) ?_
  (repeat refine wc_assoc ?_); refine wc_cond (by simp only [go_sem, reduceAdd, Nat.reduceBEq, reduceEqDiff, reduceLT, reduceLeDiff, reduceMul, reduceSub, reduceCtorEq, reduceIte] <;> rfl) (fun hc => ?_) (fun hc => ?_)
  · cases hc
  (repeat refine wc_assoc ?_); refine wc_then (by simp only [d4, go_sem, reduceAdd, Nat.reduceBEq, reduceEqDiff, reduceLT, reduceLeDiff, reduceMul, reduceSub, reduceCtorEq, reduceIte] <;> rfl) ?_
  (repeat refine wc_assoc ?_); refine wc_cond (by simp only [go_sem, reduceAdd, Nat.reduceBEq, reduceEqDiff, reduceLT, reduceLeDiff, reduceMul, reduceSub, reduceCtorEq, reduceIte] <;> rfl) (fun hc => ?_) (fun hc => ?_)
  · cases hc
  by_cases h5 : k = 5
  · have d5 : (k == 5) = true := by simpa using h5
    rw [if_pos h5] at hR
    (repeat refine wc_assoc ?_); refine wc_then (by simp only [d5, go_sem, reduceAdd, Nat.reduceBEq, reduceEqDiff, reduceLT, reduceLeDiff, reduceMul, reduceSub, reduceCtorEq, reduceIte] <;> rfl) ?_
    (repeat refine wc_assoc ?_); refine wc_cond (by simp only [go_sem, reduceAdd, Nat.reduceBEq, reduceEqDiff, reduceLT, reduceLeDiff, reduceMul, reduceSub, reduceCtorEq, reduceIte] <;> rfl) (fun hc => ?_) (fun hc => ?_)
    rotate_left
    · cases hc
    have hae := ha es.reverse
    cases es with
    | nil =>
      simp only [List.reverse_nil, encL] at hae ⊢
      (repeat refine wc_assoc ?_);  refine wc_then (by
        repeat (first
    | (apply wo_op (hg := rfl) (hc := rfl) (hd := rfl); (simp only [go_sem, reduceAdd, Nat.reduceBEq, reduceEqDiff, reduceLT, reduceLeDiff, reduceMul, reduceSub, reduceCtorEq, reduceIte] <;> rfl); (simp only [go_sem, reduceAdd, Nat.reduceBEq, reduceEqDiff, reduceLT, reduceLeDiff, reduceMul, reduceSub, reduceCtorEq, reduceIte] <;> rfl))
    | (apply wo_eff (hg := rfl) (hc := rfl) (hd := rfl); (simp only [go_sem, reduceAdd, Nat.reduceBEq, reduceEqDiff, reduceLT, reduceLeDiff, reduceMul, reduceSub, reduceCtorEq, reduceIte] <;> rfl); (simp only [go_sem, reduceAdd, Nat.reduceBEq, reduceEqDiff, reduceLT, reduceLeDiff, reduceMul, reduceSub, reduceCtorEq, reduceIte] <;> rfl))
    | (apply wo_gT (hg := rfl); (simp only [go_sem, reduceAdd, Nat.reduceBEq, reduceEqDiff, reduceLT, reduceLeDiff, reduceMul, reduceSub, reduceCtorEq, reduceIte] <;> rfl))
    | (apply wo_gU (hg := rfl) (hd := rfl); (simp only [go_sem, reduceAdd, Nat.reduceBEq, reduceEqDiff, reduceLT, reduceLeDiff, reduceMul, reduceSub, reduceCtorEq, reduceIte] <;> rfl); (simp only [go_sem, reduceAdd, Nat.reduceBEq, reduceEqDiff, reduceLT, reduceLeDiff, reduceMul, reduceSub, reduceCtorEq, reduceIte] <;> rfl))
    | (apply wo_gF (hg := rfl) (hd := rfl); (simp only [go_sem, reduceAdd, Nat.reduceBEq, reduceEqDiff, reduceLT, reduceLeDiff, reduceMul, reduceSub, reduceCtorEq, reduceIte] <;> rfl); (simp only [go_sem, reduceAdd, Nat.reduceBEq, reduceEqDiff, reduceLT, reduceLeDiff, reduceMul, reduceSub, reduceCtorEq, reduceIte] <;> rfl))
    | exact wo_nil rfl)
        refine wo_call rfl rfl (by simp only [go_sem, reduceAdd, Nat.reduceBEq, reduceEqDiff, reduceLT, reduceLeDiff, reduceMul, reduceSub, reduceCtorEq, reduceIte] <;> rfl) (by simp only [go_sem, reduceAdd, Nat.reduceBEq, reduceEqDiff, reduceLT, reduceLeDiff, reduceMul, reduceSub, reduceCtorEq, reduceIte] <;> rfl) (.refl _) ((vclone_nil)) rfl (by simp only [go_sem, reduceAdd, Nat.reduceBEq, reduceEqDiff, reduceLT, reduceLeDiff, reduceMul, reduceSub, reduceCtorEq, reduceIte] <;> rfl) ?_
        repeat (first
    | (apply wo_op (hg := rfl) (hc := rfl) (hd := rfl); (simp only [go_sem, reduceAdd, Nat.reduceBEq, reduceEqDiff, reduceLT, reduceLeDiff, reduceMul, reduceSub, reduceCtorEq, reduceIte] <;> rfl); (simp only [go_sem, reduceAdd, Nat.reduceBEq, reduceEqDiff, reduceLT, reduceLeDiff, reduceMul, reduceSub, reduceCtorEq, reduceIte] <;> rfl))
    | (apply wo_eff (hg := rfl) (hc := rfl) (hd := rfl); (simp only [go_sem, reduceAdd, Nat.reduceBEq, reduceEqDiff, reduceLT, reduceLeDiff, reduceMul, reduceSub, reduceCtorEq, reduceIte] <;> rfl); (simp only [go_sem, reduceAdd, Nat.reduceBEq, reduceEqDiff, reduceLT, reduceLeDiff, reduceMul, reduceSub, reduceCtorEq, reduceIte] <;> rfl))
    | (apply wo_gT (hg := rfl); (simp only [go_sem, reduceAdd, Nat.reduceBEq, reduceEqDiff, reduceLT, reduceLeDiff, reduceMul, reduceSub, reduceCtorEq, reduceIte] <;> rfl))
    | (apply wo_gU (hg := rfl) (hd := rfl); (simp only [go_sem, reduceAdd, Nat.reduceBEq, reduceEqDiff, reduceLT, reduceLeDiff, reduceMul, reduceSub, reduceCtorEq, reduceIte] <;> rfl); (simp only [go_sem, reduceAdd, Nat.reduceBEq, reduceEqDiff, reduceLT, reduceLeDiff, reduceMul, reduceSub, reduceCtorEq, reduceIte] <;> rfl))
    | (apply wo_gF (hg := rfl) (hd := rfl); (simp only [go_sem, reduceAdd, Nat.reduceBEq, reduceEqDiff, reduceLT, reduceLeDiff, reduceMul, reduceSub, reduceCtorEq, reduceIte] <;> rfl); (simp only [go_sem, reduceAdd, Nat.reduceBEq, reduceEqDiff, reduceLT, reduceLeDiff, reduceMul, reduceSub, reduceCtorEq, reduceIte] <;> rfl))
    | exact wo_nil rfl)) ?_
      (repeat refine wc_assoc ?_);  refine wc_then (by
        repeat (first
    | (apply wo_op (hg := rfl) (hc := rfl) (hd := rfl); (simp only [go_sem, reduceAdd, Nat.reduceBEq, reduceEqDiff, reduceLT, reduceLeDiff, reduceMul, reduceSub, reduceCtorEq, reduceIte] <;> rfl); (simp only [go_sem, reduceAdd, Nat.reduceBEq, reduceEqDiff, reduceLT, reduceLeDiff, reduceMul, reduceSub, reduceCtorEq, reduceIte] <;> rfl))
    | (apply wo_eff (hg := rfl) (hc := rfl) (hd := rfl); (simp only [go_sem, reduceAdd, Nat.reduceBEq, reduceEqDiff, reduceLT, reduceLeDiff, reduceMul, reduceSub, reduceCtorEq, reduceIte] <;> rfl); (simp only [go_sem, reduceAdd, Nat.reduceBEq, reduceEqDiff, reduceLT, reduceLeDiff, reduceMul, reduceSub, reduceCtorEq, reduceIte] <;> rfl))
    | (apply wo_gT (hg := rfl); (simp only [go_sem, reduceAdd, Nat.reduceBEq, reduceEqDiff, reduceLT, reduceLeDiff, reduceMul, reduceSub, reduceCtorEq, reduceIte] <;> rfl))
    | (apply wo_gU (hg := rfl) (hd := rfl); (simp only [go_sem, reduceAdd, Nat.reduceBEq, reduceEqDiff, reduceLT, reduceLeDiff, reduceMul, reduceSub, reduceCtorEq, reduceIte] <;> rfl); (simp only [go_sem, reduceAdd, Nat.reduceBEq, reduceEqDiff, reduceLT, reduceLeDiff, reduceMul, reduceSub, reduceCtorEq, reduceIte] <;> rfl))
    | (apply wo_gF (hg := rfl) (hd := rfl); (simp only [go_sem, reduceAdd, Nat.reduceBEq, reduceEqDiff, reduceLT, reduceLeDiff, reduceMul, reduceSub, reduceCtorEq, reduceIte] <;> rfl); (simp only [go_sem, reduceAdd, Nat.reduceBEq, reduceEqDiff, reduceLT, reduceLeDiff, reduceMul, reduceSub, reduceCtorEq, reduceIte] <;> rfl))
    | exact wo_nil rfl)
        refine wo_call rfl rfl (by simp only [go_sem, reduceAdd, Nat.reduceBEq, reduceEqDiff, reduceLT, reduceLeDiff, reduceMul, reduceSub, reduceCtorEq, reduceIte] <;> rfl) (by simp only [go_sem, reduceAdd, Nat.reduceBEq, reduceEqDiff, reduceLT, reduceLeDiff, reduceMul, reduceSub, reduceCtorEq, reduceIte] <;> rfl) (.refl _) ((rev_nil)) rfl (by simp only [go_sem, reduceAdd, Nat.reduceBEq, reduceEqDiff, reduceLT, reduceLeDiff, reduceMul, reduceSub, reduceCtorEq, reduceIte] <;> rfl) ?_
        repeat (first
    | (apply wo_op (hg := rfl) (hc := rfl) (hd := rfl); (simp only [go_sem, reduceAdd, Nat.reduceBEq, reduceEqDiff, reduceLT, reduceLeDiff, reduceMul, reduceSub, reduceCtorEq, reduceIte] <;> rfl); (simp only [go_sem, reduceAdd, Nat.reduceBEq, reduceEqDiff, reduceLT, reduceLeDiff, reduceMul, reduceSub, reduceCtorEq, reduceIte] <;> rfl))
    | (apply wo_eff (hg := rfl) (hc := rfl) (hd := rfl); (simp only [go_sem, reduceAdd, Nat.reduceBEq, reduceEqDiff, reduceLT, reduceLeDiff, reduceMul, reduceSub, reduceCtorEq, reduceIte] <;> rfl); (simp only [go_sem, reduceAdd, Nat.reduceBEq, reduceEqDiff, reduceLT, reduceLeDiff, reduceMul, reduceSub, reduceCtorEq, reduceIte] <;> rfl))
    | (apply wo_gT (hg := rfl); (simp only [go_sem, reduceAdd, Nat.reduceBEq, reduceEqDiff, reduceLT, reduceLeDiff, reduceMul, reduceSub, reduceCtorEq, reduceIte] <;> rfl))
    | (apply wo_gU (hg := rfl) (hd := rfl); (simp only [go_sem, reduceAdd, Nat.reduceBEq, reduceEqDiff, reduceLT, reduceLeDiff, reduceMul, reduceSub, reduceCtorEq, reduceIte] <;> rfl); (simp only [go_sem, reduceAdd, Nat.reduceBEq, reduceEqDiff, reduceLT, reduceLeDiff, reduceMul, reduceSub, reduceCtorEq, reduceIte] <;> rfl))
    | (apply wo_gF (hg := rfl) (hd := rfl); (simp only [go_sem, reduceAdd, Nat.reduceBEq, reduceEqDiff, reduceLT, reduceLeDiff, reduceMul, reduceSub, reduceCtorEq, reduceIte] <;> rfl); (simp only [go_sem, reduceAdd, Nat.reduceBEq, reduceEqDiff, reduceLT, reduceLeDiff, reduceMul, reduceSub, reduceCtorEq, reduceIte] <;> rfl))
    | exact wo_nil rfl)) ?_
      (repeat refine wc_assoc ?_);  refine wc_then (by
        repeat (first
    | (apply wo_op (hg := rfl) (hc := rfl) (hd := rfl); (simp only [go_sem, reduceAdd, Nat.reduceBEq, reduceEqDiff, reduceLT, reduceLeDiff, reduceMul, reduceSub, reduceCtorEq, reduceIte] <;> rfl); (simp only [go_sem, reduceAdd, Nat.reduceBEq, reduceEqDiff, reduceLT, reduceLeDiff, reduceMul, reduceSub, reduceCtorEq, reduceIte] <;> rfl))
    | (apply wo_eff (hg := rfl) (hc := rfl) (hd := rfl); (simp only [go_sem, reduceAdd, Nat.reduceBEq, reduceEqDiff, reduceLT, reduceLeDiff, reduceMul, reduceSub, reduceCtorEq, reduceIte] <;> rfl); (simp only [go_sem, reduceAdd, Nat.reduceBEq, reduceEqDiff, reduceLT, reduceLeDiff, reduceMul, reduceSub, reduceCtorEq, reduceIte] <;> rfl))
    | (apply wo_gT (hg := rfl); (simp only [go_sem, reduceAdd, Nat.reduceBEq, reduceEqDiff, reduceLT, reduceLeDiff, reduceMul, reduceSub, reduceCtorEq, reduceIte] <;> rfl))
    | (apply wo_gU (hg := rfl) (hd := rfl); (simp only [go_sem, reduceAdd, Nat.reduceBEq, reduceEqDiff, reduceLT, reduceLeDiff, reduceMul, reduceSub, reduceCtorEq, reduceIte] <;> rfl); (simp only [go_sem, reduceAdd, Nat.reduceBEq, reduceEqDiff, reduceLT, reduceLeDiff, reduceMul, reduceSub, reduceCtorEq, reduceIte] <;> rfl))
    | (apply wo_gF (hg := rfl) (hd := rfl); (simp only [go_sem, reduceAdd, Nat.reduceBEq, reduceEqDiff, reduceLT, reduceLeDiff, reduceMul, reduceSub, reduceCtorEq, reduceIte] <;> rfl); (simp only [go_sem, reduceAdd, Nat.reduceBEq, reduceEqDiff, reduceLT, reduceLeDiff, reduceMul, reduceSub, reduceCtorEq, reduceIte] <;> rfl))
    | exact wo_nil rfl)
        refine wo_call rfl rfl (by simp only [go_sem, reduceAdd, Nat.reduceBEq, reduceEqDiff, reduceLT, reduceLeDiff, reduceMul, reduceSub, reduceCtorEq, reduceIte] <;> rfl) (by simp only [go_sem, reduceAdd, Nat.reduceBEq, reduceEqDiff, reduceLT, reduceLeDiff, reduceMul, reduceSub, reduceCtorEq, reduceIte] <;> rfl) (.refl _) ((hae)) rfl (by simp only [go_sem, reduceAdd, Nat.reduceBEq, reduceEqDiff, reduceLT, reduceLeDiff, reduceMul, reduceSub, reduceCtorEq, reduceIte] <;> rfl) ?_
        repeat (first
    | (apply wo_op (hg := rfl) (hc := rfl) (hd := rfl); (simp only [go_sem, reduceAdd, Nat.reduceBEq, reduceEqDiff, reduceLT, reduceLeDiff, reduceMul, reduceSub, reduceCtorEq, reduceIte] <;> rfl); (simp only [go_sem, reduceAdd, Nat.reduceBEq, reduceEqDiff, reduceLT, reduceLeDiff, reduceMul, reduceSub, reduceCtorEq, reduceIte] <;> rfl))
    | (apply wo_eff (hg := rfl) (hc := rfl) (hd := rfl); (simp only [go_sem, reduceAdd, Nat.reduceBEq, reduceEqDiff, reduceLT, reduceLeDiff, reduceMul, reduceSub, reduceCtorEq, reduceIte] <;> rfl); (simp only [go_sem, reduceAdd, Nat.reduceBEq, reduceEqDiff, reduceLT, reduceLeDiff, reduceMul, reduceSub, reduceCtorEq, reduceIte] <;> rfl))
    | (apply wo_gT (hg := rfl); (simp only [go_sem, reduceAdd, Nat.reduceBEq, reduceEqDiff, reduceLT, reduceLeDiff, reduceMul, reduceSub, reduceCtorEq, reduceIte] <;> rfl))
    | (apply wo_gU (hg := rfl) (hd := rfl); (simp only [go_sem, reduceAdd, Nat.reduceBEq, reduceEqDiff, reduceLT, reduceLeDiff, reduceMul, reduceSub, reduceCtorEq, reduceIte] <;> rfl); (simp only [go_sem, reduceAdd, Nat.reduceBEq, reduceEqDiff, reduceLT, reduceLeDiff, reduceMul, reduceSub, reduceCtorEq, reduceIte] <;> rfl))
    | (apply wo_gF (hg := rfl) (hd := rfl); (simp only [go_sem, reduceAdd, Nat.reduceBEq, reduceEqDiff, reduceLT, reduceLeDiff, reduceMul, reduceSub, reduceCtorEq, reduceIte] <;> rfl); (simp only [go_sem, reduceAdd, Nat.reduceBEq, reduceEqDiff, reduceLT, reduceLeDiff, reduceMul, reduceSub, reduceCtorEq, reduceIte] <;> rfl))
    | exact wo_nil rfl)) ?_
      refine wc_ret (hret _ ⟨.inr rfl, _, (by simp only [Try.f45, go_sem, reduceAdd, Nat.reduceBEq, reduceEqDiff, reduceLT, reduceLeDiff, reduceMul, reduceSub, reduceCtorEq, reduceIte] <;> rfl), ?_⟩)
      rw [hR]
      exact .refl _
    | cons x r =>
      have hcl := vclone_spec x r hl
      have hrv := rev_spec (x :: r) (x :: r).length rfl hl
      generalize hL : x :: r = L at *
      (repeat refine wc_assoc ?_);  refine wc_then (by
        repeat (first
    | (apply wo_op (hg := rfl) (hc := rfl) (hd := rfl); (simp only [go_sem, reduceAdd, Nat.reduceBEq, reduceEqDiff, reduceLT, reduceLeDiff, reduceMul, reduceSub, reduceCtorEq, reduceIte] <;> rfl); (simp only [go_sem, reduceAdd, Nat.reduceBEq, reduceEqDiff, reduceLT, reduceLeDiff, reduceMul, reduceSub, reduceCtorEq, reduceIte] <;> rfl))
    | (apply wo_eff (hg := rfl) (hc := rfl) (hd := rfl); (simp only [go_sem, reduceAdd, Nat.reduceBEq, reduceEqDiff, reduceLT, reduceLeDiff, reduceMul, reduceSub, reduceCtorEq, reduceIte] <;> rfl); (simp only [go_sem, reduceAdd, Nat.reduceBEq, reduceEqDiff, reduceLT, reduceLeDiff, reduceMul, reduceSub, reduceCtorEq, reduceIte] <;> rfl))
    | (apply wo_gT (hg := rfl); (simp only [go_sem, reduceAdd, Nat.reduceBEq, reduceEqDiff, reduceLT, reduceLeDiff, reduceMul, reduceSub, reduceCtorEq, reduceIte] <;> rfl))
    | (apply wo_gU (hg := rfl) (hd := rfl); (simp only [go_sem, reduceAdd, Nat.reduceBEq, reduceEqDiff, reduceLT, reduceLeDiff, reduceMul, reduceSub, reduceCtorEq, reduceIte] <;> rfl); (simp only [go_sem, reduceAdd, Nat.reduceBEq, reduceEqDiff, reduceLT, reduceLeDiff, reduceMul, reduceSub, reduceCtorEq, reduceIte] <;> rfl))
    | (apply wo_gF (hg := rfl) (hd := rfl); (simp only [go_sem, reduceAdd, Nat.reduceBEq, reduceEqDiff, reduceLT, reduceLeDiff, reduceMul, reduceSub, reduceCtorEq, reduceIte] <;> rfl); (simp only [go_sem, reduceAdd, Nat.reduceBEq, reduceEqDiff, reduceLT, reduceLeDiff, reduceMul, reduceSub, reduceCtorEq, reduceIte] <;> rfl))
    | exact wo_nil rfl)
        refine wo_ref (ids := []) rfl rfl (by simp only [go_sem, reduceAdd, Nat.reduceBEq, reduceEqDiff, reduceLT, reduceLeDiff, reduceMul, reduceSub, reduceCtorEq, reduceIte] <;> rfl) (by rfl) (LeA.refl _) (by first | exact boxes_one rfl | rfl) (by decide) ((hcl)) rfl (.inr ⟨rfl, rfl, rfl⟩) (by simp only [St.after, updBL, boxWith, frU, freshOf, resTR, Go.Pm.R.t, go_sem, reduceAdd, Nat.reduceBEq, reduceEqDiff, reduceLT, reduceLeDiff, reduceMul, reduceSub, reduceCtorEq, reduceIte] <;> rfl) ?_
        repeat (first
    | (apply wo_op (hg := rfl) (hc := rfl) (hd := rfl); (simp only [go_sem, reduceAdd, Nat.reduceBEq, reduceEqDiff, reduceLT, reduceLeDiff, reduceMul, reduceSub, reduceCtorEq, reduceIte] <;> rfl); (simp only [go_sem, reduceAdd, Nat.reduceBEq, reduceEqDiff, reduceLT, reduceLeDiff, reduceMul, reduceSub, reduceCtorEq, reduceIte] <;> rfl))
    | (apply wo_eff (hg := rfl) (hc := rfl) (hd := rfl); (simp only [go_sem, reduceAdd, Nat.reduceBEq, reduceEqDiff, reduceLT, reduceLeDiff, reduceMul, reduceSub, reduceCtorEq, reduceIte] <;> rfl); (simp only [go_sem, reduceAdd, Nat.reduceBEq, reduceEqDiff, reduceLT, reduceLeDiff, reduceMul, reduceSub, reduceCtorEq, reduceIte] <;> rfl))
    | (apply wo_gT (hg := rfl); (simp only [go_sem, reduceAdd, Nat.reduceBEq, reduceEqDiff, reduceLT, reduceLeDiff, reduceMul, reduceSub, reduceCtorEq, reduceIte] <;> rfl))
    | (apply wo_gU (hg := rfl) (hd := rfl); (simp only [go_sem, reduceAdd, Nat.reduceBEq, reduceEqDiff, reduceLT, reduceLeDiff, reduceMul, reduceSub, reduceCtorEq, reduceIte] <;> rfl); (simp only [go_sem, reduceAdd, Nat.reduceBEq, reduceEqDiff, reduceLT, reduceLeDiff, reduceMul, reduceSub, reduceCtorEq, reduceIte] <;> rfl))
    | (apply wo_gF (hg := rfl) (hd := rfl); (simp only [go_sem, reduceAdd, Nat.reduceBEq, reduceEqDiff, reduceLT, reduceLeDiff, reduceMul, reduceSub, reduceCtorEq, reduceIte] <;> rfl); (simp only [go_sem, reduceAdd, Nat.reduceBEq, reduceEqDiff, reduceLT, reduceLeDiff, reduceMul, reduceSub, reduceCtorEq, reduceIte] <;> rfl))
    | exact wo_nil rfl)) ?_
      (repeat refine wc_assoc ?_);  refine wc_ghost (σ1 := ⟨[(2, .obj 2 0 0), (8, .view 35 0 5 0 L.length)], [(2, .box 0 [.d (.int .i64 0), .d (.int .i64 0), .d (.str ⟨#[]⟩), .d .nil, .d .nil]), (35, .box 0 ((cD L).map T.d))]⟩) (gh_keep [2, 8] [2, 35] rfl (by simp [St.keep, St.kp, Go.Pm.look, lowO, lowT, isSome', Function.comp_def, St.set, St.put, D.cells])) (by
        repeat (first
    | (apply wo_op (hg := rfl) (hc := rfl) (hd := rfl); (simp only [go_sem, reduceAdd, Nat.reduceBEq, reduceEqDiff, reduceLT, reduceLeDiff, reduceMul, reduceSub, reduceCtorEq, reduceIte] <;> rfl); (simp only [go_sem, reduceAdd, Nat.reduceBEq, reduceEqDiff, reduceLT, reduceLeDiff, reduceMul, reduceSub, reduceCtorEq, reduceIte] <;> rfl))
    | (apply wo_eff (hg := rfl) (hc := rfl) (hd := rfl); (simp only [go_sem, reduceAdd, Nat.reduceBEq, reduceEqDiff, reduceLT, reduceLeDiff, reduceMul, reduceSub, reduceCtorEq, reduceIte] <;> rfl); (simp only [go_sem, reduceAdd, Nat.reduceBEq, reduceEqDiff, reduceLT, reduceLeDiff, reduceMul, reduceSub, reduceCtorEq, reduceIte] <;> rfl))
    | (apply wo_gT (hg := rfl); (simp only [go_sem, reduceAdd, Nat.reduceBEq, reduceEqDiff, reduceLT, reduceLeDiff, reduceMul, reduceSub, reduceCtorEq, reduceIte] <;> rfl))
    | (apply wo_gU (hg := rfl) (hd := rfl); (simp only [go_sem, reduceAdd, Nat.reduceBEq, reduceEqDiff, reduceLT, reduceLeDiff, reduceMul, reduceSub, reduceCtorEq, reduceIte] <;> rfl); (simp only [go_sem, reduceAdd, Nat.reduceBEq, reduceEqDiff, reduceLT, reduceLeDiff, reduceMul, reduceSub, reduceCtorEq, reduceIte] <;> rfl))
    | (apply wo_gF (hg := rfl) (hd := rfl); (simp only [go_sem, reduceAdd, Nat.reduceBEq, reduceEqDiff, reduceLT, reduceLeDiff, reduceMul, reduceSub, reduceCtorEq, reduceIte] <;> rfl); (simp only [go_sem, reduceAdd, Nat.reduceBEq, reduceEqDiff, reduceLT, reduceLeDiff, reduceMul, reduceSub, reduceCtorEq, reduceIte] <;> rfl))
    | exact wo_nil rfl)
        refine wo_ref (ids := [35]) rfl rfl (by simp only [go_sem, reduceAdd, Nat.reduceBEq, reduceEqDiff, reduceLT, reduceLeDiff, reduceMul, reduceSub, reduceCtorEq, reduceIte] <;> rfl) (by rfl) (LeA.refl _) (by first | exact boxes_one rfl | rfl) (by decide) ((hrv)) rfl (.inl rfl) (by simp only [St.after, updBL, boxWith, frU, freshOf, resTR, Go.Pm.R.t, go_sem, reduceAdd, Nat.reduceBEq, reduceEqDiff, reduceLT, reduceLeDiff, reduceMul, reduceSub, reduceCtorEq, reduceIte] <;> rfl) ?_
        repeat (first
    | (apply wo_op (hg := rfl) (hc := rfl) (hd := rfl); (simp only [go_sem, reduceAdd, Nat.reduceBEq, reduceEqDiff, reduceLT, reduceLeDiff, reduceMul, reduceSub, reduceCtorEq, reduceIte] <;> rfl); (simp only [go_sem, reduceAdd, Nat.reduceBEq, reduceEqDiff, reduceLT, reduceLeDiff, reduceMul, reduceSub, reduceCtorEq, reduceIte] <;> rfl))
    | (apply wo_eff (hg := rfl) (hc := rfl) (hd := rfl); (simp only [go_sem, reduceAdd, Nat.reduceBEq, reduceEqDiff, reduceLT, reduceLeDiff, reduceMul, reduceSub, reduceCtorEq, reduceIte] <;> rfl); (simp only [go_sem, reduceAdd, Nat.reduceBEq, reduceEqDiff, reduceLT, reduceLeDiff, reduceMul, reduceSub, reduceCtorEq, reduceIte] <;> rfl))
    | (apply wo_gT (hg := rfl); (simp only [go_sem, reduceAdd, Nat.reduceBEq, reduceEqDiff, reduceLT, reduceLeDiff, reduceMul, reduceSub, reduceCtorEq, reduceIte] <;> rfl))
    | (apply wo_gU (hg := rfl) (hd := rfl); (simp only [go_sem, reduceAdd, Nat.reduceBEq, reduceEqDiff, reduceLT, reduceLeDiff, reduceMul, reduceSub, reduceCtorEq, reduceIte] <;> rfl); (simp only [go_sem, reduceAdd, Nat.reduceBEq, reduceEqDiff, reduceLT, reduceLeDiff, reduceMul, reduceSub, reduceCtorEq, reduceIte] <;> rfl))
    | (apply wo_gF (hg := rfl) (hd := rfl); (simp only [go_sem, reduceAdd, Nat.reduceBEq, reduceEqDiff, reduceLT, reduceLeDiff, reduceMul, reduceSub, reduceCtorEq, reduceIte] <;> rfl); (simp only [go_sem, reduceAdd, Nat.reduceBEq, reduceEqDiff, reduceLT, reduceLeDiff, reduceMul, reduceSub, reduceCtorEq, reduceIte] <;> rfl))
    | exact wo_nil rfl)) ?_
      have hg3 : ∀ σ', Gh X0.refs σ' ⟨[(2, .obj 2 0 0), (8, .view 35 0 5 0 (encL L.reverse).length)], [(2, .box 0 [.d (.int .i64 0), .d (.int .i64 0), .d (.str ⟨#[]⟩), .d .nil, .d .nil]), (35, .box 0 ((cD L.reverse).map T.d))]⟩ → Gh X0.refs σ' ⟨[(2, .obj 2 0 0), (8, .d (.slice (encL L.reverse)))], [(2, .box 0 [.d (.int .i64 0), .d (.int .i64 0), .d (.str ⟨#[]⟩), .d .nil, .d .nil])]⟩ := by
        intro σ' h
        refine .trans h (.trans (.close (t := 8) (id := 35) (g := 0) (sz := 5) (xs := encL L.reverse) rfl rfl rfl (by rw [allD_d]; rfl) ?_) (gh_keep [2, 8] [2] rfl (by simp [St.keep, St.kp, Go.Pm.look, lowO, lowT, isSome', Function.comp_def, St.set, St.put, D.cells])))
        intro y hy
        rw [encL_map] at hy
        obtain ⟨w, _, rfl⟩ := List.mem_map.1 hy
        exact enc_sz w
      (repeat refine wc_assoc ?_);  refine wc_ghost (hg3 _ (gh_keep [2, 8] [2, 35] rfl (by simp [encL_length, St.keep, St.kp, Go.Pm.look, lowO, lowT, isSome', Function.comp_def, St.set, St.put, D.cells]))) (by
        repeat (first
    | (apply wo_op (hg := rfl) (hc := rfl) (hd := rfl); (simp only [go_sem, reduceAdd, Nat.reduceBEq, reduceEqDiff, reduceLT, reduceLeDiff, reduceMul, reduceSub, reduceCtorEq, reduceIte] <;> rfl); (simp only [go_sem, reduceAdd, Nat.reduceBEq, reduceEqDiff, reduceLT, reduceLeDiff, reduceMul, reduceSub, reduceCtorEq, reduceIte] <;> rfl))
    | (apply wo_eff (hg := rfl) (hc := rfl) (hd := rfl); (simp only [go_sem, reduceAdd, Nat.reduceBEq, reduceEqDiff, reduceLT, reduceLeDiff, reduceMul, reduceSub, reduceCtorEq, reduceIte] <;> rfl); (simp only [go_sem, reduceAdd, Nat.reduceBEq, reduceEqDiff, reduceLT, reduceLeDiff, reduceMul, reduceSub, reduceCtorEq, reduceIte] <;> rfl))
    | (apply wo_gT (hg := rfl); (simp only [go_sem, reduceAdd, Nat.reduceBEq, reduceEqDiff, reduceLT, reduceLeDiff, reduceMul, reduceSub, reduceCtorEq, reduceIte] <;> rfl))
    | (apply wo_gU (hg := rfl) (hd := rfl); (simp only [go_sem, reduceAdd, Nat.reduceBEq, reduceEqDiff, reduceLT, reduceLeDiff, reduceMul, reduceSub, reduceCtorEq, reduceIte] <;> rfl); (simp only [go_sem, reduceAdd, Nat.reduceBEq, reduceEqDiff, reduceLT, reduceLeDiff, reduceMul, reduceSub, reduceCtorEq, reduceIte] <;> rfl))
    | (apply wo_gF (hg := rfl) (hd := rfl); (simp only [go_sem, reduceAdd, Nat.reduceBEq, reduceEqDiff, reduceLT, reduceLeDiff, reduceMul, reduceSub, reduceCtorEq, reduceIte] <;> rfl); (simp only [go_sem, reduceAdd, Nat.reduceBEq, reduceEqDiff, reduceLT, reduceLeDiff, reduceMul, reduceSub, reduceCtorEq, reduceIte] <;> rfl))
    | exact wo_nil rfl)
        refine wo_call rfl rfl (by simp only [go_sem, reduceAdd, Nat.reduceBEq, reduceEqDiff, reduceLT, reduceLeDiff, reduceMul, reduceSub, reduceCtorEq, reduceIte] <;> rfl) (by simp only [go_sem, reduceAdd, Nat.reduceBEq, reduceEqDiff, reduceLT, reduceLeDiff, reduceMul, reduceSub, reduceCtorEq, reduceIte] <;> rfl) (.refl _) ((hae)) rfl (by simp only [go_sem, reduceAdd, Nat.reduceBEq, reduceEqDiff, reduceLT, reduceLeDiff, reduceMul, reduceSub, reduceCtorEq, reduceIte] <;> rfl) ?_
        repeat (first
    | (apply wo_op (hg := rfl) (hc := rfl) (hd := rfl); (simp only [go_sem, reduceAdd, Nat.reduceBEq, reduceEqDiff, reduceLT, reduceLeDiff, reduceMul, reduceSub, reduceCtorEq, reduceIte] <;> rfl); (simp only [go_sem, reduceAdd, Nat.reduceBEq, reduceEqDiff, reduceLT, reduceLeDiff, reduceMul, reduceSub, reduceCtorEq, reduceIte] <;> rfl))
    | (apply wo_eff (hg := rfl) (hc := rfl) (hd := rfl); (simp only [go_sem, reduceAdd, Nat.reduceBEq, reduceEqDiff, reduceLT, reduceLeDiff, reduceMul, reduceSub, reduceCtorEq, reduceIte] <;> rfl); (simp only [go_sem, reduceAdd, Nat.reduceBEq, reduceEqDiff, reduceLT, reduceLeDiff, reduceMul, reduceSub, reduceCtorEq, reduceIte] <;> rfl))
    | (apply wo_gT (hg := rfl); (simp only [go_sem, reduceAdd, Nat.reduceBEq, reduceEqDiff, reduceLT, reduceLeDiff, reduceMul, reduceSub, reduceCtorEq, reduceIte] <;> rfl))
    | (apply wo_gU (hg := rfl) (hd := rfl); (simp only [go_sem, reduceAdd, Nat.reduceBEq, reduceEqDiff, reduceLT, reduceLeDiff, reduceMul, reduceSub, reduceCtorEq, reduceIte] <;> rfl); (simp only [go_sem, reduceAdd, Nat.reduceBEq, reduceEqDiff, reduceLT, reduceLeDiff, reduceMul, reduceSub, reduceCtorEq, reduceIte] <;> rfl))
    | (apply wo_gF (hg := rfl) (hd := rfl); (simp only [go_sem, reduceAdd, Nat.reduceBEq, reduceEqDiff, reduceLT, reduceLeDiff, reduceMul, reduceSub, reduceCtorEq, reduceIte] <;> rfl); (simp only [go_sem, reduceAdd, Nat.reduceBEq, reduceEqDiff, reduceLT, reduceLeDiff, reduceMul, reduceSub, reduceCtorEq, reduceIte] <;> rfl))
    | exact wo_nil rfl)) ?_
      refine wc_ret (hret _ ⟨.inr rfl, _, (by simp only [Try.f45, go_sem, reduceAdd, Nat.reduceBEq, reduceEqDiff, reduceLT, reduceLeDiff, reduceMul, reduceSub, reduceCtorEq, reduceIte] <;> rfl), ?_⟩)
      rw [hR]
      exact .refl _
  have d5 : (k == 5) = false := by simpa using h5
  rw [if_neg h5] at hR
  (repeat refine wc_assoc ?_); refine wc_then (by simp only [d5, go_sem, reduceAdd, Nat.reduceBEq, reduceEqDiff, reduceLT, reduceLeDiff, reduceMul, reduceSub, reduceCtorEq, reduceIte] <;> rfl) ?_
  (repeat refine wc_assoc ?_); refine wc_cond (by simp only [go_sem, reduceAdd, Nat.reduceBEq, reduceEqDiff, reduceLT, reduceLeDiff, reduceMul, reduceSub, reduceCtorEq, reduceIte] <;> rfl) (fun hc => ?_) (fun hc => ?_)
  · cases hc
  exact wc_skipEnd (hrest _ hR (gh_keep [2] [2] rfl rfl))
end Go.Proofs.Ytnkknmdpakebhaa
