/- ops and table: Flatten. -/
import Derived.Test.YtnkknmdpakebhaaPmNa
set_option linter.unusedSimpArgs false
set_option linter.unusedVariables false
set_option maxHeartbeats 4000000
namespace Go.Proofs.Ytnkknmdpakebhaa
open Go Go.Pm
open Nat (reduceAdd reduceEqDiff reduceLT reduceLeDiff reduceMul reduceSub)
attribute [local irreducible] WC WOps WOpsG
attribute [local go_sem] WOps WOp callOf gtmp gval gvalT evOp evBuiltin binT St.ev constT St.m envOf Go.Pm.look St.upd St.putO St.put St.set allT allP T.toD unD1 T.cells T.asSlice D.cells D.sz eqTy binD unD cvD cv2 fillD ldT ldD TyI.agg allD splice isSome' cut bnd resT resOf Done Option.all_some Option.all_none Option.getD_some Option.getD_none Option.bind_some Option.bind_none Option.map_some Option.map_none List.map List.map_cons List.map_nil List.cons_append List.nil_append List.append_nil List.take_succ_cons List.drop_succ_cons List.take_zero List.drop_zero List.take_nil List.drop_nil List.head?_cons List.length_cons List.length_nil List.getElem?_cons_zero List.getElem?_cons_succ List.getElem?_toArray List.all_cons List.all_nil ite_true ite_false if_true if_false Bool.not_false Bool.not_true decide_true decide_false and_true true_and and_self false_and and_false Bool.and_true Bool.true_and Bool.or_true Bool.true_or List.size_toArray seqFrom beq_self_eq_true BEq.rfl eq_self Nat.succ_ne_self false_or or_false Nat.zero_add Nat.add_zero Nat.not_lt_zero Nat.one_ne_zero tab2 tab3 tab4 tab5 tab9 tab22 tab24 tab25 tab27 tab30 tab54 tab57 tab78 tab85
def V.iv : V → Int | .mk _ i _ _ _ => i
def flattenRes (v w : V) : V × Int := if ((v.kd != 5) || (w.kd != 3)) = true then (V.zero, 12) else if w.iv < 0 then (V.zero, 3) else (V.arr (flatL v.els w.iv)).fit
theorem opflatten_spec (v w : V) (hb : v.kd = 5 → w.kd = 3 → 0 ≤ w.iv → (flatL v.els w.iv).length ≤ 1048576) : Pm.Spec X0.P 47 [v.enc, w.enc] [(flattenRes v w).1.enc, .int .i64 (flattenRes v w).2] := by
  cases v with
  | mk k i s ks es =>
  cases w with
  | mk k' i' s' ks' es' =>
  have hb : k = 5 → k' = 3 → 0 ≤ i' → (flatL es i').length ≤ 1048576 := hb
  have hR : flattenRes (V.mk k i s ks es) (V.mk k' i' s' ks' es') = (if ((k != 5) || (k' != 3)) = true then (V.zero, 12) else if i' < 0 then (V.zero, 3) else (V.arr (flatL es i')).fit) := rfl
  generalize flattenRes (V.mk k i s ks es) (V.mk k' i' s' ks' es') = R at *
  have hz := none_spec
  have hzz : V.zero.enc = .agg [.int .i64 0, .int .i64 0, .str ⟨#[]⟩, .slice [], .slice []] := rfl
  rw [hzz] at hz
  simp only [V.enc]
  refine Spec.of fn47 rfl rfl (by show 2 ≤ 30; decide) ?_
  show WC X0 30 _ _ _
  (repeat refine wc_assoc ?_); refine wc_then (by simp only [go_sem, reduceAdd, Nat.reduceBEq, reduceEqDiff, reduceLT, reduceLeDiff, reduceMul, reduceSub, reduceCtorEq, reduceIte] <;> rfl) ?_
  refine wc_blockThen ?_
  generalize hK : BlkK X0 30 0 _ _ = K
  have hret : ∀ σ', Done X0 Try.f47 [R.1.enc, .int .i64 R.2] .ret σ' → K .ret σ' := fun σ' h => by subst hK; exact h
  have hrest : ∀ σ', k = 5 → k' = 3 → 0 ≤ i' → R = (V.arr (flatL es i')).fit → Gh X0.refs σ' ⟨[(2, .obj 2 0 0), (3, .obj 3 0 0), (4, .obj 4 0 0)], [(4, .box 0 [.d (.int .i64 0), .d (.int .i64 0), .d (.str ⟨#[]⟩), .d .nil, .d .nil]), (3, .box 0 [.d (.int .i64 k'), .d (.int .i64 i'), .d (.str s'), .d (.slice (ks'.map .str)), .d (.slice (encL es'))]), (2, .box 0 [.d (.int .i64 k), .d (.int .i64 i), .d (.str s), .d (.slice (ks.map .str)), .d (.slice (encL es))])]⟩ → K .normal σ' := by
    intro σ' h5 h3 h0 hRr hg
    clear hR
    subst hK
    have hf := flatten_spec es i' (hb h5 h3 h0)
    have ha := arr_spec (flatL es i')
    have hft := fit_spec (V.arr (flatL es i'))
    rw [← hRr] at hft
    obtain ⟨R1, R2⟩ := R
    cases R1 with
    | mk k1 i1 s1 ks1 es1 =>
    simp only [V.arr, V.enc] at ha hft ⊢
    refine blk_normal ?_
    (repeat refine wc_assoc ?_);  refine wc_ghost hg (by
      repeat (first
    | (apply wo_op (hg := rfl) (hc := rfl) (hd := rfl); (simp only [go_sem, reduceAdd, Nat.reduceBEq, reduceEqDiff, reduceLT, reduceLeDiff, reduceMul, reduceSub, reduceCtorEq, reduceIte] <;> rfl); (simp only [go_sem, reduceAdd, Nat.reduceBEq, reduceEqDiff, reduceLT, reduceLeDiff, reduceMul, reduceSub, reduceCtorEq, reduceIte] <;> rfl))
    | (apply wo_eff (hg := rfl) (hc := rfl) (hd := rfl); (simp only [go_sem, reduceAdd, Nat.reduceBEq, reduceEqDiff, reduceLT, reduceLeDiff, reduceMul, reduceSub, reduceCtorEq, reduceIte] <;> rfl); (simp only [go_sem, reduceAdd, Nat.reduceBEq, reduceEqDiff, reduceLT, reduceLeDiff, reduceMul, reduceSub, reduceCtorEq, reduceIte] <;> rfl))
    | (apply wo_gT (hg := rfl); (simp only [go_sem, reduceAdd, Nat.reduceBEq, reduceEqDiff, reduceLT, reduceLeDiff, reduceMul, reduceSub, reduceCtorEq, reduceIte] <;> rfl))
    | (apply wo_gU (hg := rfl) (hd := rfl); (simp only [go_sem, reduceAdd, Nat.reduceBEq, reduceEqDiff, reduceLT, reduceLeDiff, reduceMul, reduceSub, reduceCtorEq, reduceIte] <;> rfl); (simp only [go_sem, reduceAdd, Nat.reduceBEq, reduceEqDiff, reduceLT, reduceLeDiff, reduceMul, reduceSub, reduceCtorEq, reduceIte] <;> rfl))
    | (apply wo_gF (hg := rfl) (hd := rfl); (simp only [go_sem, reduceAdd, Nat.reduceBEq, reduceEqDiff, reduceLT, reduceLeDiff, reduceMul, reduceSub, reduceCtorEq, reduceIte] <;> rfl); (simp only [go_sem, reduceAdd, Nat.reduceBEq, reduceEqDiff, reduceLT, reduceLeDiff, reduceMul, reduceSub, reduceCtorEq, reduceIte] <;> rfl))
    | exact wo_nil rfl)
      refine wo_call rfl rfl (by simp only [go_sem, reduceAdd, Nat.reduceBEq, reduceEqDiff, reduceLT, reduceLeDiff, reduceMul, reduceSub, reduceCtorEq, reduceIte] <;> rfl) (by simp only [go_sem, reduceAdd, Nat.reduceBEq, reduceEqDiff, reduceLT, reduceLeDiff, reduceMul, reduceSub, reduceCtorEq, reduceIte] <;> rfl) (.refl _) ((hf)) rfl (by simp only [go_sem, reduceAdd, Nat.reduceBEq, reduceEqDiff, reduceLT, reduceLeDiff, reduceMul, reduceSub, reduceCtorEq, reduceIte] <;> rfl) ?_
      repeat (first
    | (apply wo_op (hg := rfl) (hc := rfl) (hd := rfl); (simp only [go_sem, reduceAdd, Nat.reduceBEq, reduceEqDiff, reduceLT, reduceLeDiff, reduceMul, reduceSub, reduceCtorEq, reduceIte] <;> rfl); (simp only [go_sem, reduceAdd, Nat.reduceBEq, reduceEqDiff, reduceLT, reduceLeDiff, reduceMul, reduceSub, reduceCtorEq, reduceIte] <;> rfl))
    | (apply wo_eff (hg := rfl) (hc := rfl) (hd := rfl); (simp only [go_sem, reduceAdd, Nat.reduceBEq, reduceEqDiff, reduceLT, reduceLeDiff, reduceMul, reduceSub, reduceCtorEq, reduceIte] <;> rfl); (simp only [go_sem, reduceAdd, Nat.reduceBEq, reduceEqDiff, reduceLT, reduceLeDiff, reduceMul, reduceSub, reduceCtorEq, reduceIte] <;> rfl))
    | (apply wo_gT (hg := rfl); (simp only [go_sem, reduceAdd, Nat.reduceBEq, reduceEqDiff, reduceLT, reduceLeDiff, reduceMul, reduceSub, reduceCtorEq, reduceIte] <;> rfl))
    | (apply wo_gU (hg := rfl) (hd := rfl); (simp only [go_sem, reduceAdd, Nat.reduceBEq, reduceEqDiff, reduceLT, reduceLeDiff, reduceMul, reduceSub, reduceCtorEq, reduceIte] <;> rfl); (simp only [go_sem, reduceAdd, Nat.reduceBEq, reduceEqDiff, reduceLT, reduceLeDiff, reduceMul, reduceSub, reduceCtorEq, reduceIte] <;> rfl))
    | (apply wo_gF (hg := rfl) (hd := rfl); (simp only [go_sem, reduceAdd, Nat.reduceBEq, reduceEqDiff, reduceLT, reduceLeDiff, reduceMul, reduceSub, reduceCtorEq, reduceIte] <;> rfl); (simp only [go_sem, reduceAdd, Nat.reduceBEq, reduceEqDiff, reduceLT, reduceLeDiff, reduceMul, reduceSub, reduceCtorEq, reduceIte] <;> rfl))
    | exact wo_nil rfl)
      refine wo_call rfl rfl (by simp only [go_sem, reduceAdd, Nat.reduceBEq, reduceEqDiff, reduceLT, reduceLeDiff, reduceMul, reduceSub, reduceCtorEq, reduceIte] <;> rfl) (by simp only [go_sem, reduceAdd, Nat.reduceBEq, reduceEqDiff, reduceLT, reduceLeDiff, reduceMul, reduceSub, reduceCtorEq, reduceIte] <;> rfl) (.refl _) ((ha)) rfl (by simp only [go_sem, reduceAdd, Nat.reduceBEq, reduceEqDiff, reduceLT, reduceLeDiff, reduceMul, reduceSub, reduceCtorEq, reduceIte] <;> rfl) ?_
      repeat (first
    | (apply wo_op (hg := rfl) (hc := rfl) (hd := rfl); (simp only [go_sem, reduceAdd, Nat.reduceBEq, reduceEqDiff, reduceLT, reduceLeDiff, reduceMul, reduceSub, reduceCtorEq, reduceIte] <;> rfl); (simp only [go_sem, reduceAdd, Nat.reduceBEq, reduceEqDiff, reduceLT, reduceLeDiff, reduceMul, reduceSub, reduceCtorEq, reduceIte] <;> rfl))
    | (apply wo_eff (hg := rfl) (hc := rfl) (hd := rfl); (simp only [go_sem, reduceAdd, Nat.reduceBEq, reduceEqDiff, reduceLT, reduceLeDiff, reduceMul, reduceSub, reduceCtorEq, reduceIte] <;> rfl); (simp only [go_sem, reduceAdd, Nat.reduceBEq, reduceEqDiff, reduceLT, reduceLeDiff, reduceMul, reduceSub, reduceCtorEq, reduceIte] <;> rfl))
    | (apply wo_gT (hg := rfl); (simp only [go_sem, reduceAdd, Nat.reduceBEq, reduceEqDiff, reduceLT, reduceLeDiff, reduceMul, reduceSub, reduceCtorEq, reduceIte] <;> rfl))
    | (apply wo_gU (hg := rfl) (hd := rfl); (simp only [go_sem, reduceAdd, Nat.reduceBEq, reduceEqDiff, reduceLT, reduceLeDiff, reduceMul, reduceSub, reduceCtorEq, reduceIte] <;> rfl); (simp only [go_sem, reduceAdd, Nat.reduceBEq, reduceEqDiff, reduceLT, reduceLeDiff, reduceMul, reduceSub, reduceCtorEq, reduceIte] <;> rfl))
    | (apply wo_gF (hg := rfl) (hd := rfl); (simp only [go_sem, reduceAdd, Nat.reduceBEq, reduceEqDiff, reduceLT, reduceLeDiff, reduceMul, reduceSub, reduceCtorEq, reduceIte] <;> rfl); (simp only [go_sem, reduceAdd, Nat.reduceBEq, reduceEqDiff, reduceLT, reduceLeDiff, reduceMul, reduceSub, reduceCtorEq, reduceIte] <;> rfl))
    | exact wo_nil rfl)
      refine wo_call rfl rfl (by simp only [go_sem, reduceAdd, Nat.reduceBEq, reduceEqDiff, reduceLT, reduceLeDiff, reduceMul, reduceSub, reduceCtorEq, reduceIte] <;> rfl) (by simp only [go_sem, reduceAdd, Nat.reduceBEq, reduceEqDiff, reduceLT, reduceLeDiff, reduceMul, reduceSub, reduceCtorEq, reduceIte] <;> rfl) (.refl _) ((hft)) rfl (by simp only [go_sem, reduceAdd, Nat.reduceBEq, reduceEqDiff, reduceLT, reduceLeDiff, reduceMul, reduceSub, reduceCtorEq, reduceIte] <;> rfl) ?_
      repeat (first
    | (apply wo_op (hg := rfl) (hc := rfl) (hd := rfl); (simp only [go_sem, reduceAdd, Nat.reduceBEq, reduceEqDiff, reduceLT, reduceLeDiff, reduceMul, reduceSub, reduceCtorEq, reduceIte] <;> rfl); (simp only [go_sem, reduceAdd, Nat.reduceBEq, reduceEqDiff, reduceLT, reduceLeDiff, reduceMul, reduceSub, reduceCtorEq, reduceIte] <;> rfl))
    | (apply wo_eff (hg := rfl) (hc := rfl) (hd := rfl); (simp only [go_sem, reduceAdd, Nat.reduceBEq, reduceEqDiff, reduceLT, reduceLeDiff, reduceMul, reduceSub, reduceCtorEq, reduceIte] <;> rfl); (simp only [go_sem, reduceAdd, Nat.reduceBEq, reduceEqDiff, reduceLT, reduceLeDiff, reduceMul, reduceSub, reduceCtorEq, reduceIte] <;> rfl))
    | (apply wo_gT (hg := rfl); (simp only [go_sem, reduceAdd, Nat.reduceBEq, reduceEqDiff, reduceLT, reduceLeDiff, reduceMul, reduceSub, reduceCtorEq, reduceIte] <;> rfl))
    | (apply wo_gU (hg := rfl) (hd := rfl); (simp only [go_sem, reduceAdd, Nat.reduceBEq, reduceEqDiff, reduceLT, reduceLeDiff, reduceMul, reduceSub, reduceCtorEq, reduceIte] <;> rfl); (simp only [go_sem, reduceAdd, Nat.reduceBEq, reduceEqDiff, reduceLT, reduceLeDiff, reduceMul, reduceSub, reduceCtorEq, reduceIte] <;> rfl))
    | (apply wo_gF (hg := rfl) (hd := rfl); (simp only [go_sem, reduceAdd, Nat.reduceBEq, reduceEqDiff, reduceLT, reduceLeDiff, reduceMul, reduceSub, reduceCtorEq, reduceIte] <;> rfl); (simp only [go_sem, reduceAdd, Nat.reduceBEq, reduceEqDiff, reduceLT, reduceLeDiff, reduceMul, reduceSub, reduceCtorEq, reduceIte] <;> rfl))
    | exact wo_nil rfl)) ?_
    refine wc_ret ⟨.inr rfl, _, (by simp only [Try.f47, go_sem, reduceAdd, Nat.reduceBEq, reduceEqDiff, reduceLT, reduceLeDiff, reduceMul, reduceSub, reduceCtorEq, reduceIte] <;> rfl), ?_⟩
    exact .refl _
  clear hK
  generalize h1 : (k != 5) = b1 at *
  generalize h2 : (k' != 3) = b2 at *
  refine wc_regCondEnd (b1 || b2) ⟨[(2, .obj 2 0 0), (3, .obj 3 0 0), (4, .obj 4 0 0)], [(4, .box 0 [.d (.int .i64 0), .d (.int .i64 0), .d (.str ⟨#[]⟩), .d .nil, .d .nil]), (3, .box 0 [.d (.int .i64 k'), .d (.int .i64 i'), .d (.str s'), .d (.slice (ks'.map .str)), .d (.slice (encL es'))]), (2, .box 0 [.d (.int .i64 k), .d (.int .i64 i), .d (.str s), .d (.slice (ks.map .str)), .d (.slice (encL es))])]⟩ (.refl _) (by
    clear hrest hret
    repeat' (first | (apply wo_op (hg := rfl) (hc := rfl) (hd := rfl); (simp only [h1, h2, go_sem, reduceAdd, Nat.reduceBEq, reduceEqDiff, reduceLT, reduceLeDiff, reduceMul, reduceSub, reduceCtorEq, reduceIte] <;> rfl); (simp only [go_sem, reduceAdd, Nat.reduceBEq, reduceEqDiff, reduceLT, reduceLeDiff, reduceMul, reduceSub, reduceCtorEq, reduceIte] <;> rfl)) | (apply wo_eff (hg := rfl) (hc := rfl) (hd := rfl); (simp only [h1, h2, go_sem, reduceAdd, Nat.reduceBEq, reduceEqDiff, reduceLT, reduceLeDiff, reduceMul, reduceSub, reduceCtorEq, reduceIte] <;> rfl); (simp only [go_sem, reduceAdd, Nat.reduceBEq, reduceEqDiff, reduceLT, reduceLeDiff, reduceMul, reduceSub, reduceCtorEq, reduceIte] <;> rfl)) | (apply wo_gT (hg := rfl); (simp only [h1, h2, go_sem, reduceAdd, Nat.reduceBEq, reduceEqDiff, reduceLT, reduceLeDiff, reduceMul, reduceSub, reduceCtorEq, reduceIte] <;> rfl)) | (apply wo_gU (hg := rfl) (hd := rfl); (simp only [h1, h2, go_sem, reduceAdd, Nat.reduceBEq, reduceEqDiff, reduceLT, reduceLeDiff, reduceMul, reduceSub, reduceCtorEq, reduceIte] <;> rfl); (simp only [go_sem, reduceAdd, Nat.reduceBEq, reduceEqDiff, reduceLT, reduceLeDiff, reduceMul, reduceSub, reduceCtorEq, reduceIte] <;> rfl)) | (apply wo_gF (hg := rfl) (hd := rfl); (simp only [h1, h2, go_sem, reduceAdd, Nat.reduceBEq, reduceEqDiff, reduceLT, reduceLeDiff, reduceMul, reduceSub, reduceCtorEq, reduceIte] <;> rfl); (simp only [go_sem, reduceAdd, Nat.reduceBEq, reduceEqDiff, reduceLT, reduceLeDiff, reduceMul, reduceSub, reduceCtorEq, reduceIte] <;> rfl)) | (refine wo_gST rfl (by simp only [h1, h2, go_sem, reduceAdd, Nat.reduceBEq, reduceEqDiff, reduceLT, reduceLeDiff, reduceMul, reduceSub, reduceCtorEq, reduceIte] <;> rfl) rfl (fun hb => ?_) (fun hb => ?_) <;> (first | subst hb | (rw [Bool.not_eq_true'] at hb; subst hb) | (rw [Bool.not_eq_false'] at hb; subst hb))) | (refine wo_gSF rfl (by simp only [h1, h2, go_sem, reduceAdd, Nat.reduceBEq, reduceEqDiff, reduceLT, reduceLeDiff, reduceMul, reduceSub, reduceCtorEq, reduceIte] <;> rfl) rfl (fun hb => ?_) (fun hb => ?_) <;> (first | subst hb | (rw [Bool.not_eq_true'] at hb; subst hb) | (rw [Bool.not_eq_false'] at hb; subst hb))) | refine wo_nil ?_)
    all_goals exact ⟨rfl, gh_keep [2, 3, 4] [4, 3, 2] rfl rfl⟩) (fun hc σ' hg => ?_) (fun hc σ' hg => ?_)
  · rw [if_pos hc] at hR
    (repeat refine wc_assoc ?_);  refine wc_ghost hg (by
      repeat (first
    | (apply wo_op (hg := rfl) (hc := rfl) (hd := rfl); (simp only [go_sem, reduceAdd, Nat.reduceBEq, reduceEqDiff, reduceLT, reduceLeDiff, reduceMul, reduceSub, reduceCtorEq, reduceIte] <;> rfl); (simp only [go_sem, reduceAdd, Nat.reduceBEq, reduceEqDiff, reduceLT, reduceLeDiff, reduceMul, reduceSub, reduceCtorEq, reduceIte] <;> rfl))
    | (apply wo_eff (hg := rfl) (hc := rfl) (hd := rfl); (simp only [go_sem, reduceAdd, Nat.reduceBEq, reduceEqDiff, reduceLT, reduceLeDiff, reduceMul, reduceSub, reduceCtorEq, reduceIte] <;> rfl); (simp only [go_sem, reduceAdd, Nat.reduceBEq, reduceEqDiff, reduceLT, reduceLeDiff, reduceMul, reduceSub, reduceCtorEq, reduceIte] <;> rfl))
    | (apply wo_gT (hg := rfl); (simp only [go_sem, reduceAdd, Nat.reduceBEq, reduceEqDiff, reduceLT, reduceLeDiff, reduceMul, reduceSub, reduceCtorEq, reduceIte] <;> rfl))
    | (apply wo_gU (hg := rfl) (hd := rfl); (simp only [go_sem, reduceAdd, Nat.reduceBEq, reduceEqDiff, reduceLT, reduceLeDiff, reduceMul, reduceSub, reduceCtorEq, reduceIte] <;> rfl); (simp only [go_sem, reduceAdd, Nat.reduceBEq, reduceEqDiff, reduceLT, reduceLeDiff, reduceMul, reduceSub, reduceCtorEq, reduceIte] <;> rfl))
    | (apply wo_gF (hg := rfl) (hd := rfl); (simp only [go_sem, reduceAdd, Nat.reduceBEq, reduceEqDiff, reduceLT, reduceLeDiff, reduceMul, reduceSub, reduceCtorEq, reduceIte] <;> rfl); (simp only [go_sem, reduceAdd, Nat.reduceBEq, reduceEqDiff, reduceLT, reduceLeDiff, reduceMul, reduceSub, reduceCtorEq, reduceIte] <;> rfl))
    | exact wo_nil rfl)
      refine wo_call rfl rfl (by simp only [go_sem, reduceAdd, Nat.reduceBEq, reduceEqDiff, reduceLT, reduceLeDiff, reduceMul, reduceSub, reduceCtorEq, reduceIte] <;> rfl) (by simp only [go_sem, reduceAdd, Nat.reduceBEq, reduceEqDiff, reduceLT, reduceLeDiff, reduceMul, reduceSub, reduceCtorEq, reduceIte] <;> rfl) (.refl _) ((hz)) rfl (by simp only [go_sem, reduceAdd, Nat.reduceBEq, reduceEqDiff, reduceLT, reduceLeDiff, reduceMul, reduceSub, reduceCtorEq, reduceIte] <;> rfl) ?_
      repeat (first
    | (apply wo_op (hg := rfl) (hc := rfl) (hd := rfl); (simp only [go_sem, reduceAdd, Nat.reduceBEq, reduceEqDiff, reduceLT, reduceLeDiff, reduceMul, reduceSub, reduceCtorEq, reduceIte] <;> rfl); (simp only [go_sem, reduceAdd, Nat.reduceBEq, reduceEqDiff, reduceLT, reduceLeDiff, reduceMul, reduceSub, reduceCtorEq, reduceIte] <;> rfl))
    | (apply wo_eff (hg := rfl) (hc := rfl) (hd := rfl); (simp only [go_sem, reduceAdd, Nat.reduceBEq, reduceEqDiff, reduceLT, reduceLeDiff, reduceMul, reduceSub, reduceCtorEq, reduceIte] <;> rfl); (simp only [go_sem, reduceAdd, Nat.reduceBEq, reduceEqDiff, reduceLT, reduceLeDiff, reduceMul, reduceSub, reduceCtorEq, reduceIte] <;> rfl))
    | (apply wo_gT (hg := rfl); (simp only [go_sem, reduceAdd, Nat.reduceBEq, reduceEqDiff, reduceLT, reduceLeDiff, reduceMul, reduceSub, reduceCtorEq, reduceIte] <;> rfl))
    | (apply wo_gU (hg := rfl) (hd := rfl); (simp only [go_sem, reduceAdd, Nat.reduceBEq, reduceEqDiff, reduceLT, reduceLeDiff, reduceMul, reduceSub, reduceCtorEq, reduceIte] <;> rfl); (simp only [go_sem, reduceAdd, Nat.reduceBEq, reduceEqDiff, reduceLT, reduceLeDiff, reduceMul, reduceSub, reduceCtorEq, reduceIte] <;> rfl))
    | (apply wo_gF (hg := rfl) (hd := rfl); (simp only [go_sem, reduceAdd, Nat.reduceBEq, reduceEqDiff, reduceLT, reduceLeDiff, reduceMul, reduceSub, reduceCtorEq, reduceIte] <;> rfl); (simp only [go_sem, reduceAdd, Nat.reduceBEq, reduceEqDiff, reduceLT, reduceLeDiff, reduceMul, reduceSub, reduceCtorEq, reduceIte] <;> rfl))
    | exact wo_nil rfl)) ?_
    refine wc_ret (hret _ ⟨.inr rfl, _, (by simp only [Try.f47, go_sem, reduceAdd, Nat.reduceBEq, reduceEqDiff, reduceLT, reduceLeDiff, reduceMul, reduceSub, reduceCtorEq, reduceIte] <;> rfl), ?_⟩)
    rw [hR]
    exact .refl _
  rw [if_neg (by simp [hc])] at hR
  have hk : k = 5 := by
    by_cases h : k = 5
    · exact h
    · have : b1 = true := by rw [← h1]; simpa using h
      rw [this] at hc; cases hc
  have hk' : k' = 3 := by
    by_cases h : k' = 3
    · exact h
    · have : b2 = true := by rw [← h2]; simpa using h
      rw [this] at hc; cases b1 <;> cases hc
  by_cases h3 : i' < 0
  · have d3 : decide (i' < 0) = true := by simpa using h3
    rw [if_pos h3] at hR
    (repeat refine wc_assoc ?_); refine wc_ghost (hg) (by simp only [d3, go_sem, reduceAdd, Nat.reduceBEq, reduceEqDiff, reduceLT, reduceLeDiff, reduceMul, reduceSub, reduceCtorEq, reduceIte] <;> rfl) ?_
    (repeat refine wc_assoc ?_); refine wc_cond (by simp only [go_sem, reduceAdd, Nat.reduceBEq, reduceEqDiff, reduceLT, reduceLeDiff, reduceMul, reduceSub, reduceCtorEq, reduceIte] <;> rfl) (fun hc => ?_) (fun hc => ?_)
    · (repeat refine wc_assoc ?_);  refine wc_then (by
        repeat (first
    | (apply wo_op (hg := rfl) (hc := rfl) (hd := rfl); (simp only [go_sem, reduceAdd, Nat.reduceBEq, reduceEqDiff, reduceLT, reduceLeDiff, reduceMul, reduceSub, reduceCtorEq, reduceIte] <;> rfl); (simp only [go_sem, reduceAdd, Nat.reduceBEq, reduceEqDiff, reduceLT, reduceLeDiff, reduceMul, reduceSub, reduceCtorEq, reduceIte] <;> rfl))
    | (apply wo_eff (hg := rfl) (hc := rfl) (hd := rfl); (simp only [go_sem, reduceAdd, Nat.reduceBEq, reduceEqDiff, reduceLT, reduceLeDiff, reduceMul, reduceSub, reduceCtorEq, reduceIte] <;> rfl); (simp only [go_sem, reduceAdd, Nat.reduceBEq, reduceEqDiff, reduceLT, reduceLeDiff, reduceMul, reduceSub, reduceCtorEq, reduceIte] <;> rfl))
    | (apply wo_gT (hg := rfl); (simp only [go_sem, reduceAdd, Nat.reduceBEq, reduceEqDiff, reduceLT, reduceLeDiff, reduceMul, reduceSub, reduceCtorEq, reduceIte] <;> rfl))
    | (apply wo_gU (hg := rfl) (hd := rfl); (simp only [go_sem, reduceAdd, Nat.reduceBEq, reduceEqDiff, reduceLT, reduceLeDiff, reduceMul, reduceSub, reduceCtorEq, reduceIte] <;> rfl); (simp only [go_sem, reduceAdd, Nat.reduceBEq, reduceEqDiff, reduceLT, reduceLeDiff, reduceMul, reduceSub, reduceCtorEq, reduceIte] <;> rfl))
    | (apply wo_gF (hg := rfl) (hd := rfl); (simp only [go_sem, reduceAdd, Nat.reduceBEq, reduceEqDiff, reduceLT, reduceLeDiff, reduceMul, reduceSub, reduceCtorEq, reduceIte] <;> rfl); (simp only [go_sem, reduceAdd, Nat.reduceBEq, reduceEqDiff, reduceLT, reduceLeDiff, reduceMul, reduceSub, reduceCtorEq, reduceIte] <;> rfl))
    | exact wo_nil rfl)
        refine wo_call rfl rfl (by simp only [go_sem, reduceAdd, Nat.reduceBEq, reduceEqDiff, reduceLT, reduceLeDiff, reduceMul, reduceSub, reduceCtorEq, reduceIte] <;> rfl) (by simp only [go_sem, reduceAdd, Nat.reduceBEq, reduceEqDiff, reduceLT, reduceLeDiff, reduceMul, reduceSub, reduceCtorEq, reduceIte] <;> rfl) (.refl _) ((hz)) rfl (by simp only [go_sem, reduceAdd, Nat.reduceBEq, reduceEqDiff, reduceLT, reduceLeDiff, reduceMul, reduceSub, reduceCtorEq, reduceIte] <;> rfl) ?_
        repeat (first
    | (apply wo_op (hg := rfl) (hc := rfl) (hd := rfl); (simp only [go_sem, reduceAdd, Nat.reduceBEq, reduceEqDiff, reduceLT, reduceLeDiff, reduceMul, reduceSub, reduceCtorEq, reduceIte] <;> rfl); (simp only [go_sem, reduceAdd, Nat.reduceBEq, reduceEqDiff, reduceLT, reduceLeDiff, reduceMul, reduceSub, reduceCtorEq, reduceIte] <;> rfl))
    | (apply wo_eff (hg := rfl) (hc := rfl) (hd := rfl); (simp only [go_sem, reduceAdd, Nat.reduceBEq, reduceEqDiff, reduceLT, reduceLeDiff, reduceMul, reduceSub, reduceCtorEq, reduceIte] <;> rfl); (simp only [go_sem, reduceAdd, Nat.reduceBEq, reduceEqDiff, reduceLT, reduceLeDiff, reduceMul, reduceSub, reduceCtorEq, reduceIte] <;> rfl))
    | (apply wo_gT (hg := rfl); (simp only [go_sem, reduceAdd, Nat.reduceBEq, reduceEqDiff, reduceLT, reduceLeDiff, reduceMul, reduceSub, reduceCtorEq, reduceIte] <;> rfl))
    | (apply wo_gU (hg := rfl) (hd := rfl); (simp only [go_sem, reduceAdd, Nat.reduceBEq, reduceEqDiff, reduceLT, reduceLeDiff, reduceMul, reduceSub, reduceCtorEq, reduceIte] <;> rfl); (simp only [go_sem, reduceAdd, Nat.reduceBEq, reduceEqDiff, reduceLT, reduceLeDiff, reduceMul, reduceSub, reduceCtorEq, reduceIte] <;> rfl))
    | (apply wo_gF (hg := rfl) (hd := rfl); (simp only [go_sem, reduceAdd, Nat.reduceBEq, reduceEqDiff, reduceLT, reduceLeDiff, reduceMul, reduceSub, reduceCtorEq, reduceIte] <;> rfl); (simp only [go_sem, reduceAdd, Nat.reduceBEq, reduceEqDiff, reduceLT, reduceLeDiff, reduceMul, reduceSub, reduceCtorEq, reduceIte] <;> rfl))
    | exact wo_nil rfl)) ?_
      refine wc_ret (hret _ ⟨.inr rfl, _, (by simp only [Try.f47, go_sem, reduceAdd, Nat.reduceBEq, reduceEqDiff, reduceLT, reduceLeDiff, reduceMul, reduceSub, reduceCtorEq, reduceIte] <;> rfl), ?_⟩)
      rw [hR]
      exact .refl _
    · cases hc
  · have d3 : decide (i' < 0) = false := by simpa using h3
    rw [if_neg h3] at hR
    (repeat refine wc_assoc ?_); refine wc_ghost (hg) (by simp only [d3, go_sem, reduceAdd, Nat.reduceBEq, reduceEqDiff, reduceLT, reduceLeDiff, reduceMul, reduceSub, reduceCtorEq, reduceIte] <;> rfl) ?_
    (repeat refine wc_assoc ?_); refine wc_cond (by simp only [go_sem, reduceAdd, Nat.reduceBEq, reduceEqDiff, reduceLT, reduceLeDiff, reduceMul, reduceSub, reduceCtorEq, reduceIte] <;> rfl) (fun hc => ?_) (fun hc => ?_)
    · cases hc
    refine wc_skipEnd (hrest _ hk hk' (by omega) hR (gh_keep [2, 3, 4] [4, 3, 2] rfl rfl))
theorem flatten1_spec (v w : V) (hb : v.kd = 5 → w.kd = 3 → 0 ≤ w.iv → (flatL v.els w.iv).length ≤ 1048576) : Pm.Spec X0.P 46 [.slice (encL [v, w])] [(flattenRes v w).1.enc, .int .i64 (flattenRes v w).2] := by
  have hsp := opflatten_spec v w hb
  generalize flattenRes v w = R at *
  obtain ⟨R1, R2⟩ := R
  cases v with
  | mk k i s ks es =>
  cases w with
  | mk k' i' s' ks' es' =>
  cases R1 with
  | mk k1 i1 s1 ks1 es1 =>
  simp only [V.enc, encL] at hsp ⊢
  refine Spec.of fn46 rfl rfl (by show 1 ≤ 13; decide) ?_
  show WC X0 13 _ _ _
  (repeat refine wc_assoc ?_); refine wc_then (by simp only [go_sem, reduceAdd, Nat.reduceBEq, reduceEqDiff, reduceLT, reduceLeDiff, reduceMul, reduceSub, reduceCtorEq, reduceIte] <;> rfl) ?_
  refine wc_thenD (by rfl) (by
    repeat (first
    | (apply wo_op (hg := rfl) (hc := rfl) (hd := rfl); (simp only [Int.toNat_zero, Int.toNat_one, Int.le_refl, Nat.le_refl, go_sem, reduceAdd, Nat.reduceBEq, reduceEqDiff, reduceLT, reduceLeDiff, reduceMul, reduceSub, reduceCtorEq, reduceIte] <;> rfl); (simp only [go_sem, reduceAdd, Nat.reduceBEq, reduceEqDiff, reduceLT, reduceLeDiff, reduceMul, reduceSub, reduceCtorEq, reduceIte] <;> rfl))
    | (apply wo_eff (hg := rfl) (hc := rfl) (hd := rfl); (simp only [Int.toNat_zero, Int.toNat_one, Int.le_refl, Nat.le_refl, go_sem, reduceAdd, Nat.reduceBEq, reduceEqDiff, reduceLT, reduceLeDiff, reduceMul, reduceSub, reduceCtorEq, reduceIte] <;> rfl); (simp only [go_sem, reduceAdd, Nat.reduceBEq, reduceEqDiff, reduceLT, reduceLeDiff, reduceMul, reduceSub, reduceCtorEq, reduceIte] <;> rfl))
    | (apply wo_gT (hg := rfl); (simp only [Int.toNat_zero, Int.toNat_one, Int.le_refl, Nat.le_refl, go_sem, reduceAdd, Nat.reduceBEq, reduceEqDiff, reduceLT, reduceLeDiff, reduceMul, reduceSub, reduceCtorEq, reduceIte] <;> rfl))
    | (apply wo_gU (hg := rfl) (hd := rfl); (simp only [Int.toNat_zero, Int.toNat_one, Int.le_refl, Nat.le_refl, go_sem, reduceAdd, Nat.reduceBEq, reduceEqDiff, reduceLT, reduceLeDiff, reduceMul, reduceSub, reduceCtorEq, reduceIte] <;> rfl); (simp only [go_sem, reduceAdd, Nat.reduceBEq, reduceEqDiff, reduceLT, reduceLeDiff, reduceMul, reduceSub, reduceCtorEq, reduceIte] <;> rfl))
    | (apply wo_gF (hg := rfl) (hd := rfl); (simp only [Int.toNat_zero, Int.toNat_one, Int.le_refl, Nat.le_refl, go_sem, reduceAdd, Nat.reduceBEq, reduceEqDiff, reduceLT, reduceLeDiff, reduceMul, reduceSub, reduceCtorEq, reduceIte] <;> rfl); (simp only [go_sem, reduceAdd, Nat.reduceBEq, reduceEqDiff, reduceLT, reduceLeDiff, reduceMul, reduceSub, reduceCtorEq, reduceIte] <;> rfl))
    | exact wo_nil rfl)
    refine wo_call rfl rfl (by simp only [go_sem, reduceAdd, Nat.reduceBEq, reduceEqDiff, reduceLT, reduceLeDiff, reduceMul, reduceSub, reduceCtorEq, reduceIte] <;> rfl) (by simp only [go_sem, reduceAdd, Nat.reduceBEq, reduceEqDiff, reduceLT, reduceLeDiff, reduceMul, reduceSub, reduceCtorEq, reduceIte] <;> rfl) (.refl _) ((hsp)) rfl (by simp only [go_sem, reduceAdd, Nat.reduceBEq, reduceEqDiff, reduceLT, reduceLeDiff, reduceMul, reduceSub, reduceCtorEq, reduceIte] <;> rfl) ?_
    repeat (first
    | (apply wo_op (hg := rfl) (hc := rfl) (hd := rfl); (simp only [go_sem, reduceAdd, Nat.reduceBEq, reduceEqDiff, reduceLT, reduceLeDiff, reduceMul, reduceSub, reduceCtorEq, reduceIte] <;> rfl); (simp only [go_sem, reduceAdd, Nat.reduceBEq, reduceEqDiff, reduceLT, reduceLeDiff, reduceMul, reduceSub, reduceCtorEq, reduceIte] <;> rfl))
    | (apply wo_eff (hg := rfl) (hc := rfl) (hd := rfl); (simp only [go_sem, reduceAdd, Nat.reduceBEq, reduceEqDiff, reduceLT, reduceLeDiff, reduceMul, reduceSub, reduceCtorEq, reduceIte] <;> rfl); (simp only [go_sem, reduceAdd, Nat.reduceBEq, reduceEqDiff, reduceLT, reduceLeDiff, reduceMul, reduceSub, reduceCtorEq, reduceIte] <;> rfl))
    | (apply wo_gT (hg := rfl); (simp only [go_sem, reduceAdd, Nat.reduceBEq, reduceEqDiff, reduceLT, reduceLeDiff, reduceMul, reduceSub, reduceCtorEq, reduceIte] <;> rfl))
    | (apply wo_gU (hg := rfl) (hd := rfl); (simp only [go_sem, reduceAdd, Nat.reduceBEq, reduceEqDiff, reduceLT, reduceLeDiff, reduceMul, reduceSub, reduceCtorEq, reduceIte] <;> rfl); (simp only [go_sem, reduceAdd, Nat.reduceBEq, reduceEqDiff, reduceLT, reduceLeDiff, reduceMul, reduceSub, reduceCtorEq, reduceIte] <;> rfl))
    | (apply wo_gF (hg := rfl) (hd := rfl); (simp only [go_sem, reduceAdd, Nat.reduceBEq, reduceEqDiff, reduceLT, reduceLeDiff, reduceMul, reduceSub, reduceCtorEq, reduceIte] <;> rfl); (simp only [go_sem, reduceAdd, Nat.reduceBEq, reduceEqDiff, reduceLT, reduceLeDiff, reduceMul, reduceSub, reduceCtorEq, reduceIte] <;> rfl))
    | exact wo_nil rfl)) ?_
  refine wc_ret ⟨.inr rfl, _, (by simp only [Try.f46, go_sem, reduceAdd, Nat.reduceBEq, reduceEqDiff, reduceLT, reduceLeDiff, reduceMul, reduceSub, reduceCtorEq, reduceIte] <;> rfl), ?_⟩
  exact .refl _
theorem tflatten_spec (v w : V) (hb : v.kd = 5 → w.kd = 3 → 0 ≤ w.iv → (flatL v.els w.iv).length ≤ 1048576) (ht : v.valid = true → (flattenRes v w).1.tame) :
    Pm.Spec X0.P 24 [v.enc, w.enc] [(applyRes [v, w] (flattenRes v w)).1.enc, .int .i64 (applyRes [v, w] (flattenRes v w)).2] := by
  have hsp := apply_spec 46 [v, w] (flattenRes v w) (fun h => ⟨flatten1_spec v w hb, ht (by simp at h; exact h.1)⟩)
  generalize applyRes [v, w] (flattenRes v w) = R at *
  obtain ⟨R1, R2⟩ := R
  cases v with
  | mk k i s ks es =>
  cases w with
  | mk k' i' s' ks' es' =>
  cases R1 with
  | mk k1 i1 s1 ks1 es1 =>
  simp only [V.enc, encL] at hsp ⊢
  refine Spec.of fn24 rfl rfl (by show 2 ≤ 12; decide) ?_
  show WC X0 12 _ _ _
  (repeat refine wc_assoc ?_); refine wc_then (by simp only [go_sem, reduceAdd, Nat.reduceBEq, reduceEqDiff, reduceLT, reduceLeDiff, reduceMul, reduceSub, reduceCtorEq, reduceIte] <;> rfl) ?_
  refine wc_then (by
    repeat (first
    | (apply wo_op (hg := rfl) (hc := rfl) (hd := rfl); (simp only [go_sem, reduceAdd, Nat.reduceBEq, reduceEqDiff, reduceLT, reduceLeDiff, reduceMul, reduceSub, reduceCtorEq, reduceIte] <;> rfl); (simp only [go_sem, reduceAdd, Nat.reduceBEq, reduceEqDiff, reduceLT, reduceLeDiff, reduceMul, reduceSub, reduceCtorEq, reduceIte] <;> rfl))
    | (apply wo_eff (hg := rfl) (hc := rfl) (hd := rfl); (simp only [go_sem, reduceAdd, Nat.reduceBEq, reduceEqDiff, reduceLT, reduceLeDiff, reduceMul, reduceSub, reduceCtorEq, reduceIte] <;> rfl); (simp only [go_sem, reduceAdd, Nat.reduceBEq, reduceEqDiff, reduceLT, reduceLeDiff, reduceMul, reduceSub, reduceCtorEq, reduceIte] <;> rfl))
    | (apply wo_gT (hg := rfl); (simp only [go_sem, reduceAdd, Nat.reduceBEq, reduceEqDiff, reduceLT, reduceLeDiff, reduceMul, reduceSub, reduceCtorEq, reduceIte] <;> rfl))
    | (apply wo_gU (hg := rfl) (hd := rfl); (simp only [go_sem, reduceAdd, Nat.reduceBEq, reduceEqDiff, reduceLT, reduceLeDiff, reduceMul, reduceSub, reduceCtorEq, reduceIte] <;> rfl); (simp only [go_sem, reduceAdd, Nat.reduceBEq, reduceEqDiff, reduceLT, reduceLeDiff, reduceMul, reduceSub, reduceCtorEq, reduceIte] <;> rfl))
    | (apply wo_gF (hg := rfl) (hd := rfl); (simp only [go_sem, reduceAdd, Nat.reduceBEq, reduceEqDiff, reduceLT, reduceLeDiff, reduceMul, reduceSub, reduceCtorEq, reduceIte] <;> rfl); (simp only [go_sem, reduceAdd, Nat.reduceBEq, reduceEqDiff, reduceLT, reduceLeDiff, reduceMul, reduceSub, reduceCtorEq, reduceIte] <;> rfl))
    | exact wo_nil rfl)
    refine wo_call rfl rfl (by simp only [go_sem, reduceAdd, Nat.reduceBEq, reduceEqDiff, reduceLT, reduceLeDiff, reduceMul, reduceSub, reduceCtorEq, reduceIte] <;> rfl) (by simp only [go_sem, reduceAdd, Nat.reduceBEq, reduceEqDiff, reduceLT, reduceLeDiff, reduceMul, reduceSub, reduceCtorEq, reduceIte] <;> rfl) (.refl _) ((hsp)) rfl (by simp only [go_sem, reduceAdd, Nat.reduceBEq, reduceEqDiff, reduceLT, reduceLeDiff, reduceMul, reduceSub, reduceCtorEq, reduceIte] <;> rfl) ?_
    repeat (first
    | (apply wo_op (hg := rfl) (hc := rfl) (hd := rfl); (simp only [go_sem, reduceAdd, Nat.reduceBEq, reduceEqDiff, reduceLT, reduceLeDiff, reduceMul, reduceSub, reduceCtorEq, reduceIte] <;> rfl); (simp only [go_sem, reduceAdd, Nat.reduceBEq, reduceEqDiff, reduceLT, reduceLeDiff, reduceMul, reduceSub, reduceCtorEq, reduceIte] <;> rfl))
    | (apply wo_eff (hg := rfl) (hc := rfl) (hd := rfl); (simp only [go_sem, reduceAdd, Nat.reduceBEq, reduceEqDiff, reduceLT, reduceLeDiff, reduceMul, reduceSub, reduceCtorEq, reduceIte] <;> rfl); (simp only [go_sem, reduceAdd, Nat.reduceBEq, reduceEqDiff, reduceLT, reduceLeDiff, reduceMul, reduceSub, reduceCtorEq, reduceIte] <;> rfl))
    | (apply wo_gT (hg := rfl); (simp only [go_sem, reduceAdd, Nat.reduceBEq, reduceEqDiff, reduceLT, reduceLeDiff, reduceMul, reduceSub, reduceCtorEq, reduceIte] <;> rfl))
    | (apply wo_gU (hg := rfl) (hd := rfl); (simp only [go_sem, reduceAdd, Nat.reduceBEq, reduceEqDiff, reduceLT, reduceLeDiff, reduceMul, reduceSub, reduceCtorEq, reduceIte] <;> rfl); (simp only [go_sem, reduceAdd, Nat.reduceBEq, reduceEqDiff, reduceLT, reduceLeDiff, reduceMul, reduceSub, reduceCtorEq, reduceIte] <;> rfl))
    | (apply wo_gF (hg := rfl) (hd := rfl); (simp only [go_sem, reduceAdd, Nat.reduceBEq, reduceEqDiff, reduceLT, reduceLeDiff, reduceMul, reduceSub, reduceCtorEq, reduceIte] <;> rfl); (simp only [go_sem, reduceAdd, Nat.reduceBEq, reduceEqDiff, reduceLT, reduceLeDiff, reduceMul, reduceSub, reduceCtorEq, reduceIte] <;> rfl))
    | exact wo_nil rfl)) ?_
  refine wc_ret ⟨.inr rfl, _, (by simp only [Try.f24, go_sem, reduceAdd, Nat.reduceBEq, reduceEqDiff, reduceLT, reduceLeDiff, reduceMul, reduceSub, reduceCtorEq, reduceIte] <;> rfl), ?_⟩
  exact .refl _
end Go.Proofs.Ytnkknmdpakebhaa
