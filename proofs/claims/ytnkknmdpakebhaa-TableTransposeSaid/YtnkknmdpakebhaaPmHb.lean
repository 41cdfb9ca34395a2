/- vals: Compare. -/
import Derived.Test.YtnkknmdpakebhaaPmHa
set_option linter.unusedSimpArgs false
set_option linter.unusedVariables false
set_option maxHeartbeats 4000000
namespace Go.Proofs.Ytnkknmdpakebhaa
open Go Go.Pm
attribute [local irreducible] WC WOps WOpsG
attribute [local go_sem] WOps WOp callOf gtmp gval gvalT evOp evBuiltin binT St.ev constT St.m envOf Go.Pm.look St.upd St.putO St.put St.set allT allP T.toD unD1 T.cells T.asSlice D.cells D.sz eqTy binD unD cvD cv2 fillD ldT ldD TyI.agg allD splice isSome' cut bnd resT resOf Done Option.all_some Option.all_none Option.getD_some Option.getD_none Option.bind_some Option.bind_none Option.map_some Option.map_none List.map List.map_cons List.map_nil List.cons_append List.nil_append List.append_nil List.take_succ_cons List.drop_succ_cons List.take_zero List.drop_zero List.take_nil List.drop_nil List.head?_cons List.length_cons List.length_nil List.getElem?_cons_zero List.getElem?_cons_succ List.getElem?_toArray List.all_cons List.all_nil ite_true ite_false if_true if_false Bool.not_false Bool.not_true decide_true decide_false and_true true_and and_self false_and and_false Bool.and_true Bool.true_and Bool.or_true Bool.true_or List.size_toArray seqFrom beq_self_eq_true BEq.rfl eq_self Nat.succ_ne_self false_or or_false Nat.zero_add Nat.add_zero Nat.not_lt_zero Nat.one_ne_zero tab2 tab3 tab4 tab5 tab9 tab22 tab24 tab25 tab27 tab30 tab54 tab57 tab78 tab85
mutual
def V.cmp : V → V → Int
  | .mk k i s ks es, .mk k' i' s' ks' es' => if k ≠ k' then iord k k' else if k = 3 then iord i i' else if k = 4 then scmp s s' else if k = 6 ∧ ksord ks ks' ≠ 0 then ksord ks ks' else cmpL es es'
def cmpL : List V → List V → Int
  | [], [] => 0
  | [], _ :: _ => -1
  | _ :: _, [] => 1
  | v :: l, w :: r => if v.cmp w ≠ 0 then v.cmp w else cmpL l r
end
def CmpOK (v : V) : Prop := ∀ w, Pm.Spec X0.P 40 [v.enc, w.enc] [.int .i64 (v.cmp w)]
theorem cmp_step (k i : Int) (s : ByteArray) (ks : List ByteArray) (es : List V) (hv : ∀ r, Pm.Spec X0.P 62 [.slice (encL es), .slice (encL r), .fn 40 []] [.int .i64 (cmpL es r)]) : CmpOK (.mk k i s ks es) := by
  rintro ⟨k', i', s', ks', es'⟩
  refine Spec.of fn40 rfl rfl (by show 2 ≤ 52; decide) ?_
  show WC X0 52 _ _ _
  have hC : (V.mk k i s ks es).cmp (.mk k' i' s' ks' es') = _ := rfl
  conv at hC => rhs; rw [V.cmp]
  generalize (V.mk k i s ks es).cmp (.mk k' i' s' ks' es') = C at *
  simp only [V.enc]
  (repeat refine wc_assoc ?_); refine wc_then (by simp only [go_sem, Nat.reduceAdd, Nat.reduceBEq, Nat.reduceEqDiff, Nat.reduceLT, Nat.reduceLeDiff, Nat.reduceMul, Nat.reduceSub, reduceCtorEq, reduceIte] <;> rfl) ?_
  refine wc_blockThen ?_
  generalize hK : BlkK X0 52 0 _ _ = K
  have hret : ∀ σ', Done X0 Try.f40 [.int .i64 C] .ret σ' → K .ret σ' := fun σ' h => by subst hK; exact h
  have hrest : ∀ σ', C = cmpL es es' → Gh X0.refs σ' ⟨[(2, .obj 2 0 0), (3, .obj 3 0 0)], [(3, .box 0 [.d (.int .i64 k'), .d (.int .i64 i'), .d (.str s'), .d (.slice (ks'.map .str)), .d (.slice (encL es'))]), (2, .box 0 [.d (.int .i64 k), .d (.int .i64 i), .d (.str s), .d (.slice (ks.map .str)), .d (.slice (encL es))])]⟩ → K .normal σ' := by
    intro σ' hc hg
    subst hK
    refine blk_normal ?_
    refine wc_ghost hg (by
      repeat (first
    | (apply wo_op (hg := rfl) (hc := rfl) (hd := rfl); (simp only [go_sem, Nat.reduceAdd, Nat.reduceBEq, Nat.reduceEqDiff, Nat.reduceLT, Nat.reduceLeDiff, Nat.reduceMul, Nat.reduceSub, reduceCtorEq, reduceIte] <;> rfl); (simp only [go_sem, Nat.reduceAdd, Nat.reduceBEq, Nat.reduceEqDiff, Nat.reduceLT, Nat.reduceLeDiff, Nat.reduceMul, Nat.reduceSub, reduceCtorEq, reduceIte] <;> rfl))
    | (apply wo_eff (hg := rfl) (hc := rfl) (hd := rfl); (simp only [go_sem, Nat.reduceAdd, Nat.reduceBEq, Nat.reduceEqDiff, Nat.reduceLT, Nat.reduceLeDiff, Nat.reduceMul, Nat.reduceSub, reduceCtorEq, reduceIte] <;> rfl); (simp only [go_sem, Nat.reduceAdd, Nat.reduceBEq, Nat.reduceEqDiff, Nat.reduceLT, Nat.reduceLeDiff, Nat.reduceMul, Nat.reduceSub, reduceCtorEq, reduceIte] <;> rfl))
    | (apply wo_gT (hg := rfl); (simp only [go_sem, Nat.reduceAdd, Nat.reduceBEq, Nat.reduceEqDiff, Nat.reduceLT, Nat.reduceLeDiff, Nat.reduceMul, Nat.reduceSub, reduceCtorEq, reduceIte] <;> rfl))
    | (apply wo_gU (hg := rfl) (hd := rfl); (simp only [go_sem, Nat.reduceAdd, Nat.reduceBEq, Nat.reduceEqDiff, Nat.reduceLT, Nat.reduceLeDiff, Nat.reduceMul, Nat.reduceSub, reduceCtorEq, reduceIte] <;> rfl); (simp only [go_sem, Nat.reduceAdd, Nat.reduceBEq, Nat.reduceEqDiff, Nat.reduceLT, Nat.reduceLeDiff, Nat.reduceMul, Nat.reduceSub, reduceCtorEq, reduceIte] <;> rfl))
    | (apply wo_gF (hg := rfl) (hd := rfl); (simp only [go_sem, Nat.reduceAdd, Nat.reduceBEq, Nat.reduceEqDiff, Nat.reduceLT, Nat.reduceLeDiff, Nat.reduceMul, Nat.reduceSub, reduceCtorEq, reduceIte] <;> rfl); (simp only [go_sem, Nat.reduceAdd, Nat.reduceBEq, Nat.reduceEqDiff, Nat.reduceLT, Nat.reduceLeDiff, Nat.reduceMul, Nat.reduceSub, reduceCtorEq, reduceIte] <;> rfl))
    | exact wo_nil rfl)
      refine wo_call rfl rfl (by simp only [go_sem, Nat.reduceAdd, Nat.reduceBEq, Nat.reduceEqDiff, Nat.reduceLT, Nat.reduceLeDiff, Nat.reduceMul, Nat.reduceSub, reduceCtorEq, reduceIte] <;> rfl) (by simp only [go_sem, Nat.reduceAdd, Nat.reduceBEq, Nat.reduceEqDiff, Nat.reduceLT, Nat.reduceLeDiff, Nat.reduceMul, Nat.reduceSub, reduceCtorEq, reduceIte] <;> rfl) (.refl _) ((hv es')) rfl (by simp only [go_sem, Nat.reduceAdd, Nat.reduceBEq, Nat.reduceEqDiff, Nat.reduceLT, Nat.reduceLeDiff, Nat.reduceMul, Nat.reduceSub, reduceCtorEq, reduceIte] <;> rfl) ?_
      repeat (first
    | (apply wo_op (hg := rfl) (hc := rfl) (hd := rfl); (simp only [go_sem, Nat.reduceAdd, Nat.reduceBEq, Nat.reduceEqDiff, Nat.reduceLT, Nat.reduceLeDiff, Nat.reduceMul, Nat.reduceSub, reduceCtorEq, reduceIte] <;> rfl); (simp only [go_sem, Nat.reduceAdd, Nat.reduceBEq, Nat.reduceEqDiff, Nat.reduceLT, Nat.reduceLeDiff, Nat.reduceMul, Nat.reduceSub, reduceCtorEq, reduceIte] <;> rfl))
    | (apply wo_eff (hg := rfl) (hc := rfl) (hd := rfl); (simp only [go_sem, Nat.reduceAdd, Nat.reduceBEq, Nat.reduceEqDiff, Nat.reduceLT, Nat.reduceLeDiff, Nat.reduceMul, Nat.reduceSub, reduceCtorEq, reduceIte] <;> rfl); (simp only [go_sem, Nat.reduceAdd, Nat.reduceBEq, Nat.reduceEqDiff, Nat.reduceLT, Nat.reduceLeDiff, Nat.reduceMul, Nat.reduceSub, reduceCtorEq, reduceIte] <;> rfl))
    | (apply wo_gT (hg := rfl); (simp only [go_sem, Nat.reduceAdd, Nat.reduceBEq, Nat.reduceEqDiff, Nat.reduceLT, Nat.reduceLeDiff, Nat.reduceMul, Nat.reduceSub, reduceCtorEq, reduceIte] <;> rfl))
    | (apply wo_gU (hg := rfl) (hd := rfl); (simp only [go_sem, Nat.reduceAdd, Nat.reduceBEq, Nat.reduceEqDiff, Nat.reduceLT, Nat.reduceLeDiff, Nat.reduceMul, Nat.reduceSub, reduceCtorEq, reduceIte] <;> rfl); (simp only [go_sem, Nat.reduceAdd, Nat.reduceBEq, Nat.reduceEqDiff, Nat.reduceLT, Nat.reduceLeDiff, Nat.reduceMul, Nat.reduceSub, reduceCtorEq, reduceIte] <;> rfl))
    | (apply wo_gF (hg := rfl) (hd := rfl); (simp only [go_sem, Nat.reduceAdd, Nat.reduceBEq, Nat.reduceEqDiff, Nat.reduceLT, Nat.reduceLeDiff, Nat.reduceMul, Nat.reduceSub, reduceCtorEq, reduceIte] <;> rfl); (simp only [go_sem, Nat.reduceAdd, Nat.reduceBEq, Nat.reduceEqDiff, Nat.reduceLT, Nat.reduceLeDiff, Nat.reduceMul, Nat.reduceSub, reduceCtorEq, reduceIte] <;> rfl))
    | exact wo_nil rfl)) ?_
    refine wc_ret ⟨.inr rfl, _, (by simp only [Try.f40, go_sem, Nat.reduceAdd, Nat.reduceBEq, Nat.reduceEqDiff, Nat.reduceLT, Nat.reduceLeDiff, Nat.reduceMul, Nat.reduceSub, reduceCtorEq, reduceIte] <;> rfl), ?_⟩
    rw [hc]
    exact .refl _
  clear hK
  by_cases h1 : k = k'
  · rw [if_neg (by simpa using h1)] at hC
    subst h1
    have d1 : (k != k) = false := by simp
    (repeat refine wc_assoc ?_); refine wc_then (by simp only [d1, go_sem, Nat.reduceAdd, Nat.reduceBEq, Nat.reduceEqDiff, Nat.reduceLT, Nat.reduceLeDiff, Nat.reduceMul, Nat.reduceSub, reduceCtorEq, reduceIte] <;> rfl) ?_
    (repeat refine wc_assoc ?_); refine wc_cond (by simp only [go_sem, Nat.reduceAdd, Nat.reduceBEq, Nat.reduceEqDiff, Nat.reduceLT, Nat.reduceLeDiff, Nat.reduceMul, Nat.reduceSub, reduceCtorEq, reduceIte] <;> rfl) (fun hc => ?_) (fun hc => ?_)
    · cases hc
    by_cases h3 : k = 3
    · rw [if_pos h3] at hC
      have d3 : (k == 3) = true := by simpa using h3
      (repeat refine wc_assoc ?_); refine wc_then (by simp only [d3, go_sem, Nat.reduceAdd, Nat.reduceBEq, Nat.reduceEqDiff, Nat.reduceLT, Nat.reduceLeDiff, Nat.reduceMul, Nat.reduceSub, reduceCtorEq, reduceIte] <;> rfl) ?_
      (repeat refine wc_assoc ?_); refine wc_cond (by simp only [go_sem, Nat.reduceAdd, Nat.reduceBEq, Nat.reduceEqDiff, Nat.reduceLT, Nat.reduceLeDiff, Nat.reduceMul, Nat.reduceSub, reduceCtorEq, reduceIte] <;> rfl) (fun hc => ?_) (fun hc => ?_)
      · refine wc_then (by
          repeat (first
    | (apply wo_op (hg := rfl) (hc := rfl) (hd := rfl); (simp only [go_sem, Nat.reduceAdd, Nat.reduceBEq, Nat.reduceEqDiff, Nat.reduceLT, Nat.reduceLeDiff, Nat.reduceMul, Nat.reduceSub, reduceCtorEq, reduceIte] <;> rfl); (simp only [go_sem, Nat.reduceAdd, Nat.reduceBEq, Nat.reduceEqDiff, Nat.reduceLT, Nat.reduceLeDiff, Nat.reduceMul, Nat.reduceSub, reduceCtorEq, reduceIte] <;> rfl))
    | (apply wo_eff (hg := rfl) (hc := rfl) (hd := rfl); (simp only [go_sem, Nat.reduceAdd, Nat.reduceBEq, Nat.reduceEqDiff, Nat.reduceLT, Nat.reduceLeDiff, Nat.reduceMul, Nat.reduceSub, reduceCtorEq, reduceIte] <;> rfl); (simp only [go_sem, Nat.reduceAdd, Nat.reduceBEq, Nat.reduceEqDiff, Nat.reduceLT, Nat.reduceLeDiff, Nat.reduceMul, Nat.reduceSub, reduceCtorEq, reduceIte] <;> rfl))
    | (apply wo_gT (hg := rfl); (simp only [go_sem, Nat.reduceAdd, Nat.reduceBEq, Nat.reduceEqDiff, Nat.reduceLT, Nat.reduceLeDiff, Nat.reduceMul, Nat.reduceSub, reduceCtorEq, reduceIte] <;> rfl))
    | (apply wo_gU (hg := rfl) (hd := rfl); (simp only [go_sem, Nat.reduceAdd, Nat.reduceBEq, Nat.reduceEqDiff, Nat.reduceLT, Nat.reduceLeDiff, Nat.reduceMul, Nat.reduceSub, reduceCtorEq, reduceIte] <;> rfl); (simp only [go_sem, Nat.reduceAdd, Nat.reduceBEq, Nat.reduceEqDiff, Nat.reduceLT, Nat.reduceLeDiff, Nat.reduceMul, Nat.reduceSub, reduceCtorEq, reduceIte] <;> rfl))
    | (apply wo_gF (hg := rfl) (hd := rfl); (simp only [go_sem, Nat.reduceAdd, Nat.reduceBEq, Nat.reduceEqDiff, Nat.reduceLT, Nat.reduceLeDiff, Nat.reduceMul, Nat.reduceSub, reduceCtorEq, reduceIte] <;> rfl); (simp only [go_sem, Nat.reduceAdd, Nat.reduceBEq, Nat.reduceEqDiff, Nat.reduceLT, Nat.reduceLeDiff, Nat.reduceMul, Nat.reduceSub, reduceCtorEq, reduceIte] <;> rfl))
    | exact wo_nil rfl)
          refine wo_call rfl rfl (by simp only [go_sem, Nat.reduceAdd, Nat.reduceBEq, Nat.reduceEqDiff, Nat.reduceLT, Nat.reduceLeDiff, Nat.reduceMul, Nat.reduceSub, reduceCtorEq, reduceIte] <;> rfl) (by simp only [go_sem, Nat.reduceAdd, Nat.reduceBEq, Nat.reduceEqDiff, Nat.reduceLT, Nat.reduceLeDiff, Nat.reduceMul, Nat.reduceSub, reduceCtorEq, reduceIte] <;> rfl) (.refl _) ((iord64_spec i i')) rfl (by simp only [go_sem, Nat.reduceAdd, Nat.reduceBEq, Nat.reduceEqDiff, Nat.reduceLT, Nat.reduceLeDiff, Nat.reduceMul, Nat.reduceSub, reduceCtorEq, reduceIte] <;> rfl) ?_
          repeat (first
    | (apply wo_op (hg := rfl) (hc := rfl) (hd := rfl); (simp only [go_sem, Nat.reduceAdd, Nat.reduceBEq, Nat.reduceEqDiff, Nat.reduceLT, Nat.reduceLeDiff, Nat.reduceMul, Nat.reduceSub, reduceCtorEq, reduceIte] <;> rfl); (simp only [go_sem, Nat.reduceAdd, Nat.reduceBEq, Nat.reduceEqDiff, Nat.reduceLT, Nat.reduceLeDiff, Nat.reduceMul, Nat.reduceSub, reduceCtorEq, reduceIte] <;> rfl))
    | (apply wo_eff (hg := rfl) (hc := rfl) (hd := rfl); (simp only [go_sem, Nat.reduceAdd, Nat.reduceBEq, Nat.reduceEqDiff, Nat.reduceLT, Nat.reduceLeDiff, Nat.reduceMul, Nat.reduceSub, reduceCtorEq, reduceIte] <;> rfl); (simp only [go_sem, Nat.reduceAdd, Nat.reduceBEq, Nat.reduceEqDiff, Nat.reduceLT, Nat.reduceLeDiff, Nat.reduceMul, Nat.reduceSub, reduceCtorEq, reduceIte] <;> rfl))
    | (apply wo_gT (hg := rfl); (simp only [go_sem, Nat.reduceAdd, Nat.reduceBEq, Nat.reduceEqDiff, Nat.reduceLT, Nat.reduceLeDiff, Nat.reduceMul, Nat.reduceSub, reduceCtorEq, reduceIte] <;> rfl))
    | (apply wo_gU (hg := rfl) (hd := rfl); (simp only [go_sem, Nat.reduceAdd, Nat.reduceBEq, Nat.reduceEqDiff, Nat.reduceLT, Nat.reduceLeDiff, Nat.reduceMul, Nat.reduceSub, reduceCtorEq, reduceIte] <;> rfl); (simp only [go_sem, Nat.reduceAdd, Nat.reduceBEq, Nat.reduceEqDiff, Nat.reduceLT, Nat.reduceLeDiff, Nat.reduceMul, Nat.reduceSub, reduceCtorEq, reduceIte] <;> rfl))
    | (apply wo_gF (hg := rfl) (hd := rfl); (simp only [go_sem, Nat.reduceAdd, Nat.reduceBEq, Nat.reduceEqDiff, Nat.reduceLT, Nat.reduceLeDiff, Nat.reduceMul, Nat.reduceSub, reduceCtorEq, reduceIte] <;> rfl); (simp only [go_sem, Nat.reduceAdd, Nat.reduceBEq, Nat.reduceEqDiff, Nat.reduceLT, Nat.reduceLeDiff, Nat.reduceMul, Nat.reduceSub, reduceCtorEq, reduceIte] <;> rfl))
    | exact wo_nil rfl)) ?_
        refine wc_ret (hret _ ⟨.inr rfl, _, (by simp only [Try.f40, go_sem, Nat.reduceAdd, Nat.reduceBEq, Nat.reduceEqDiff, Nat.reduceLT, Nat.reduceLeDiff, Nat.reduceMul, Nat.reduceSub, reduceCtorEq, reduceIte] <;> rfl), ?_⟩)
        rw [hC]
        exact .refl _
      · cases hc
    rw [if_neg h3] at hC
    have d3 : (k == 3) = false := by simpa using h3
    (repeat refine wc_assoc ?_); refine wc_then (by simp only [d3, go_sem, Nat.reduceAdd, Nat.reduceBEq, Nat.reduceEqDiff, Nat.reduceLT, Nat.reduceLeDiff, Nat.reduceMul, Nat.reduceSub, reduceCtorEq, reduceIte] <;> rfl) ?_
    (repeat refine wc_assoc ?_); refine wc_cond (by simp only [go_sem, Nat.reduceAdd, Nat.reduceBEq, Nat.reduceEqDiff, Nat.reduceLT, Nat.reduceLeDiff, Nat.reduceMul, Nat.reduceSub, reduceCtorEq, reduceIte] <;> rfl) (fun hc => ?_) (fun hc => ?_)
    · cases hc
    by_cases h4 : k = 4
    · rw [if_pos h4] at hC
      have d4 : (k == 4) = true := by simpa using h4
      (repeat refine wc_assoc ?_); refine wc_then (by simp only [d4, go_sem, Nat.reduceAdd, Nat.reduceBEq, Nat.reduceEqDiff, Nat.reduceLT, Nat.reduceLeDiff, Nat.reduceMul, Nat.reduceSub, reduceCtorEq, reduceIte] <;> rfl) ?_
      (repeat refine wc_assoc ?_); refine wc_cond (by simp only [go_sem, Nat.reduceAdd, Nat.reduceBEq, Nat.reduceEqDiff, Nat.reduceLT, Nat.reduceLeDiff, Nat.reduceMul, Nat.reduceSub, reduceCtorEq, reduceIte] <;> rfl) (fun hc => ?_) (fun hc => ?_)
      · refine wc_then (by
          repeat (first
    | (apply wo_op (hg := rfl) (hc := rfl) (hd := rfl); (simp only [go_sem, Nat.reduceAdd, Nat.reduceBEq, Nat.reduceEqDiff, Nat.reduceLT, Nat.reduceLeDiff, Nat.reduceMul, Nat.reduceSub, reduceCtorEq, reduceIte] <;> rfl); (simp only [go_sem, Nat.reduceAdd, Nat.reduceBEq, Nat.reduceEqDiff, Nat.reduceLT, Nat.reduceLeDiff, Nat.reduceMul, Nat.reduceSub, reduceCtorEq, reduceIte] <;> rfl))
    | (apply wo_eff (hg := rfl) (hc := rfl) (hd := rfl); (simp only [go_sem, Nat.reduceAdd, Nat.reduceBEq, Nat.reduceEqDiff, Nat.reduceLT, Nat.reduceLeDiff, Nat.reduceMul, Nat.reduceSub, reduceCtorEq, reduceIte] <;> rfl); (simp only [go_sem, Nat.reduceAdd, Nat.reduceBEq, Nat.reduceEqDiff, Nat.reduceLT, Nat.reduceLeDiff, Nat.reduceMul, Nat.reduceSub, reduceCtorEq, reduceIte] <;> rfl))
    | (apply wo_gT (hg := rfl); (simp only [go_sem, Nat.reduceAdd, Nat.reduceBEq, Nat.reduceEqDiff, Nat.reduceLT, Nat.reduceLeDiff, Nat.reduceMul, Nat.reduceSub, reduceCtorEq, reduceIte] <;> rfl))
    | (apply wo_gU (hg := rfl) (hd := rfl); (simp only [go_sem, Nat.reduceAdd, Nat.reduceBEq, Nat.reduceEqDiff, Nat.reduceLT, Nat.reduceLeDiff, Nat.reduceMul, Nat.reduceSub, reduceCtorEq, reduceIte] <;> rfl); (simp only [go_sem, Nat.reduceAdd, Nat.reduceBEq, Nat.reduceEqDiff, Nat.reduceLT, Nat.reduceLeDiff, Nat.reduceMul, Nat.reduceSub, reduceCtorEq, reduceIte] <;> rfl))
    | (apply wo_gF (hg := rfl) (hd := rfl); (simp only [go_sem, Nat.reduceAdd, Nat.reduceBEq, Nat.reduceEqDiff, Nat.reduceLT, Nat.reduceLeDiff, Nat.reduceMul, Nat.reduceSub, reduceCtorEq, reduceIte] <;> rfl); (simp only [go_sem, Nat.reduceAdd, Nat.reduceBEq, Nat.reduceEqDiff, Nat.reduceLT, Nat.reduceLeDiff, Nat.reduceMul, Nat.reduceSub, reduceCtorEq, reduceIte] <;> rfl))
    | exact wo_nil rfl)
          refine wo_call rfl rfl (by simp only [go_sem, Nat.reduceAdd, Nat.reduceBEq, Nat.reduceEqDiff, Nat.reduceLT, Nat.reduceLeDiff, Nat.reduceMul, Nat.reduceSub, reduceCtorEq, reduceIte] <;> rfl) (by simp only [go_sem, Nat.reduceAdd, Nat.reduceBEq, Nat.reduceEqDiff, Nat.reduceLT, Nat.reduceLeDiff, Nat.reduceMul, Nat.reduceSub, reduceCtorEq, reduceIte] <;> rfl) (.refl _) ((strcmp_spec s s')) rfl (by simp only [go_sem, Nat.reduceAdd, Nat.reduceBEq, Nat.reduceEqDiff, Nat.reduceLT, Nat.reduceLeDiff, Nat.reduceMul, Nat.reduceSub, reduceCtorEq, reduceIte] <;> rfl) ?_
          repeat (first
    | (apply wo_op (hg := rfl) (hc := rfl) (hd := rfl); (simp only [go_sem, Nat.reduceAdd, Nat.reduceBEq, Nat.reduceEqDiff, Nat.reduceLT, Nat.reduceLeDiff, Nat.reduceMul, Nat.reduceSub, reduceCtorEq, reduceIte] <;> rfl); (simp only [go_sem, Nat.reduceAdd, Nat.reduceBEq, Nat.reduceEqDiff, Nat.reduceLT, Nat.reduceLeDiff, Nat.reduceMul, Nat.reduceSub, reduceCtorEq, reduceIte] <;> rfl))
    | (apply wo_eff (hg := rfl) (hc := rfl) (hd := rfl); (simp only [go_sem, Nat.reduceAdd, Nat.reduceBEq, Nat.reduceEqDiff, Nat.reduceLT, Nat.reduceLeDiff, Nat.reduceMul, Nat.reduceSub, reduceCtorEq, reduceIte] <;> rfl); (simp only [go_sem, Nat.reduceAdd, Nat.reduceBEq, Nat.reduceEqDiff, Nat.reduceLT, Nat.reduceLeDiff, Nat.reduceMul, Nat.reduceSub, reduceCtorEq, reduceIte] <;> rfl))
    | (apply wo_gT (hg := rfl); (simp only [go_sem, Nat.reduceAdd, Nat.reduceBEq, Nat.reduceEqDiff, Nat.reduceLT, Nat.reduceLeDiff, Nat.reduceMul, Nat.reduceSub, reduceCtorEq, reduceIte] <;> rfl))
    | (apply wo_gU (hg := rfl) (hd := rfl); (simp only [go_sem, Nat.reduceAdd, Nat.reduceBEq, Nat.reduceEqDiff, Nat.reduceLT, Nat.reduceLeDiff, Nat.reduceMul, Nat.reduceSub, reduceCtorEq, reduceIte] <;> rfl); (simp only [go_sem, Nat.reduceAdd, Nat.reduceBEq, Nat.reduceEqDiff, Nat.reduceLT, Nat.reduceLeDiff, Nat.reduceMul, Nat.reduceSub, reduceCtorEq, reduceIte] <;> rfl))
    | (apply wo_gF (hg := rfl) (hd := rfl); (simp only [go_sem, Nat.reduceAdd, Nat.reduceBEq, Nat.reduceEqDiff, Nat.reduceLT, Nat.reduceLeDiff, Nat.reduceMul, Nat.reduceSub, reduceCtorEq, reduceIte] <;> rfl); (simp only [go_sem, Nat.reduceAdd, Nat.reduceBEq, Nat.reduceEqDiff, Nat.reduceLT, Nat.reduceLeDiff, Nat.reduceMul, Nat.reduceSub, reduceCtorEq, reduceIte] <;> rfl))
    | exact wo_nil rfl)) ?_
        refine wc_ret (hret _ ⟨.inr rfl, _, (by simp only [Try.f40, go_sem, Nat.reduceAdd, Nat.reduceBEq, Nat.reduceEqDiff, Nat.reduceLT, Nat.reduceLeDiff, Nat.reduceMul, Nat.reduceSub, reduceCtorEq, reduceIte] <;> rfl), ?_⟩)
        rw [hC]
        exact .refl _
      · cases hc
    rw [if_neg h4] at hC
    have d4 : (k == 4) = false := by simpa using h4
    (repeat refine wc_assoc ?_); refine wc_then (by simp only [d4, go_sem, Nat.reduceAdd, Nat.reduceBEq, Nat.reduceEqDiff, Nat.reduceLT, Nat.reduceLeDiff, Nat.reduceMul, Nat.reduceSub, reduceCtorEq, reduceIte] <;> rfl) ?_
    (repeat refine wc_assoc ?_); refine wc_cond (by simp only [go_sem, Nat.reduceAdd, Nat.reduceBEq, Nat.reduceEqDiff, Nat.reduceLT, Nat.reduceLeDiff, Nat.reduceMul, Nat.reduceSub, reduceCtorEq, reduceIte] <;> rfl) (fun hc => ?_) (fun hc => ?_)
    · cases hc
    by_cases h6 : k = 6
    · have d6 : (k == 6) = true := by simpa using h6
      (repeat refine wc_assoc ?_); refine wc_then (by simp only [d6, go_sem, Nat.reduceAdd, Nat.reduceBEq, Nat.reduceEqDiff, Nat.reduceLT, Nat.reduceLeDiff, Nat.reduceMul, Nat.reduceSub, reduceCtorEq, reduceIte] <;> rfl) ?_
      (repeat refine wc_assoc ?_); refine wc_cond (by simp only [go_sem, Nat.reduceAdd, Nat.reduceBEq, Nat.reduceEqDiff, Nat.reduceLT, Nat.reduceLeDiff, Nat.reduceMul, Nat.reduceSub, reduceCtorEq, reduceIte] <;> rfl) (fun hc => ?_) (fun hc => ?_)
      · have hsp := ks_spec ks ks'
        generalize ksord ks ks' = c at *
        (repeat refine wc_assoc ?_);  refine wc_then (by
          repeat (first
    | (apply wo_op (hg := rfl) (hc := rfl) (hd := rfl); (simp only [go_sem, Nat.reduceAdd, Nat.reduceBEq, Nat.reduceEqDiff, Nat.reduceLT, Nat.reduceLeDiff, Nat.reduceMul, Nat.reduceSub, reduceCtorEq, reduceIte] <;> rfl); (simp only [go_sem, Nat.reduceAdd, Nat.reduceBEq, Nat.reduceEqDiff, Nat.reduceLT, Nat.reduceLeDiff, Nat.reduceMul, Nat.reduceSub, reduceCtorEq, reduceIte] <;> rfl))
    | (apply wo_eff (hg := rfl) (hc := rfl) (hd := rfl); (simp only [go_sem, Nat.reduceAdd, Nat.reduceBEq, Nat.reduceEqDiff, Nat.reduceLT, Nat.reduceLeDiff, Nat.reduceMul, Nat.reduceSub, reduceCtorEq, reduceIte] <;> rfl); (simp only [go_sem, Nat.reduceAdd, Nat.reduceBEq, Nat.reduceEqDiff, Nat.reduceLT, Nat.reduceLeDiff, Nat.reduceMul, Nat.reduceSub, reduceCtorEq, reduceIte] <;> rfl))
    | (apply wo_gT (hg := rfl); (simp only [go_sem, Nat.reduceAdd, Nat.reduceBEq, Nat.reduceEqDiff, Nat.reduceLT, Nat.reduceLeDiff, Nat.reduceMul, Nat.reduceSub, reduceCtorEq, reduceIte] <;> rfl))
    | (apply wo_gU (hg := rfl) (hd := rfl); (simp only [go_sem, Nat.reduceAdd, Nat.reduceBEq, Nat.reduceEqDiff, Nat.reduceLT, Nat.reduceLeDiff, Nat.reduceMul, Nat.reduceSub, reduceCtorEq, reduceIte] <;> rfl); (simp only [go_sem, Nat.reduceAdd, Nat.reduceBEq, Nat.reduceEqDiff, Nat.reduceLT, Nat.reduceLeDiff, Nat.reduceMul, Nat.reduceSub, reduceCtorEq, reduceIte] <;> rfl))
    | (apply wo_gF (hg := rfl) (hd := rfl); (simp only [go_sem, Nat.reduceAdd, Nat.reduceBEq, Nat.reduceEqDiff, Nat.reduceLT, Nat.reduceLeDiff, Nat.reduceMul, Nat.reduceSub, reduceCtorEq, reduceIte] <;> rfl); (simp only [go_sem, Nat.reduceAdd, Nat.reduceBEq, Nat.reduceEqDiff, Nat.reduceLT, Nat.reduceLeDiff, Nat.reduceMul, Nat.reduceSub, reduceCtorEq, reduceIte] <;> rfl))
    | exact wo_nil rfl)
          refine wo_call rfl rfl (by simp only [go_sem, Nat.reduceAdd, Nat.reduceBEq, Nat.reduceEqDiff, Nat.reduceLT, Nat.reduceLeDiff, Nat.reduceMul, Nat.reduceSub, reduceCtorEq, reduceIte] <;> rfl) (by simp only [go_sem, Nat.reduceAdd, Nat.reduceBEq, Nat.reduceEqDiff, Nat.reduceLT, Nat.reduceLeDiff, Nat.reduceMul, Nat.reduceSub, reduceCtorEq, reduceIte] <;> rfl) (.refl _) ((hsp)) rfl (by simp only [go_sem, Nat.reduceAdd, Nat.reduceBEq, Nat.reduceEqDiff, Nat.reduceLT, Nat.reduceLeDiff, Nat.reduceMul, Nat.reduceSub, reduceCtorEq, reduceIte] <;> rfl) ?_
          repeat (first
    | (apply wo_op (hg := rfl) (hc := rfl) (hd := rfl); (simp only [go_sem, Nat.reduceAdd, Nat.reduceBEq, Nat.reduceEqDiff, Nat.reduceLT, Nat.reduceLeDiff, Nat.reduceMul, Nat.reduceSub, reduceCtorEq, reduceIte] <;> rfl); (simp only [go_sem, Nat.reduceAdd, Nat.reduceBEq, Nat.reduceEqDiff, Nat.reduceLT, Nat.reduceLeDiff, Nat.reduceMul, Nat.reduceSub, reduceCtorEq, reduceIte] <;> rfl))
    | (apply wo_eff (hg := rfl) (hc := rfl) (hd := rfl); (simp only [go_sem, Nat.reduceAdd, Nat.reduceBEq, Nat.reduceEqDiff, Nat.reduceLT, Nat.reduceLeDiff, Nat.reduceMul, Nat.reduceSub, reduceCtorEq, reduceIte] <;> rfl); (simp only [go_sem, Nat.reduceAdd, Nat.reduceBEq, Nat.reduceEqDiff, Nat.reduceLT, Nat.reduceLeDiff, Nat.reduceMul, Nat.reduceSub, reduceCtorEq, reduceIte] <;> rfl))
    | (apply wo_gT (hg := rfl); (simp only [go_sem, Nat.reduceAdd, Nat.reduceBEq, Nat.reduceEqDiff, Nat.reduceLT, Nat.reduceLeDiff, Nat.reduceMul, Nat.reduceSub, reduceCtorEq, reduceIte] <;> rfl))
    | (apply wo_gU (hg := rfl) (hd := rfl); (simp only [go_sem, Nat.reduceAdd, Nat.reduceBEq, Nat.reduceEqDiff, Nat.reduceLT, Nat.reduceLeDiff, Nat.reduceMul, Nat.reduceSub, reduceCtorEq, reduceIte] <;> rfl); (simp only [go_sem, Nat.reduceAdd, Nat.reduceBEq, Nat.reduceEqDiff, Nat.reduceLT, Nat.reduceLeDiff, Nat.reduceMul, Nat.reduceSub, reduceCtorEq, reduceIte] <;> rfl))
    | (apply wo_gF (hg := rfl) (hd := rfl); (simp only [go_sem, Nat.reduceAdd, Nat.reduceBEq, Nat.reduceEqDiff, Nat.reduceLT, Nat.reduceLeDiff, Nat.reduceMul, Nat.reduceSub, reduceCtorEq, reduceIte] <;> rfl); (simp only [go_sem, Nat.reduceAdd, Nat.reduceBEq, Nat.reduceEqDiff, Nat.reduceLT, Nat.reduceLeDiff, Nat.reduceMul, Nat.reduceSub, reduceCtorEq, reduceIte] <;> rfl))
    | exact wo_nil rfl)) ?_
        (repeat refine wc_assoc ?_); refine wc_then (by simp only [go_sem, Nat.reduceAdd, Nat.reduceBEq, Nat.reduceEqDiff, Nat.reduceLT, Nat.reduceLeDiff, Nat.reduceMul, Nat.reduceSub, reduceCtorEq, reduceIte] <;> rfl) ?_
        (repeat refine wc_assoc ?_); refine wc_cond (by simp only [go_sem, Nat.reduceAdd, Nat.reduceBEq, Nat.reduceEqDiff, Nat.reduceLT, Nat.reduceLeDiff, Nat.reduceMul, Nat.reduceSub, reduceCtorEq, reduceIte] <;> rfl) (fun hc => ?_) (fun hc => ?_)
        · have hcc : c ≠ 0 := by simpa using hc
          rw [if_pos ⟨h6, hcc⟩] at hC
          (repeat refine wc_assoc ?_); refine wc_then (by simp only [go_sem, Nat.reduceAdd, Nat.reduceBEq, Nat.reduceEqDiff, Nat.reduceLT, Nat.reduceLeDiff, Nat.reduceMul, Nat.reduceSub, reduceCtorEq, reduceIte] <;> rfl) ?_
          refine wc_ret (hret _ ⟨.inr rfl, _, (by simp only [Try.f40, go_sem, Nat.reduceAdd, Nat.reduceBEq, Nat.reduceEqDiff, Nat.reduceLT, Nat.reduceLeDiff, Nat.reduceMul, Nat.reduceSub, reduceCtorEq, reduceIte] <;> rfl), ?_⟩)
          rw [hC]
          exact .refl _
        · have hcc : c = 0 := by simpa using hc
          rw [if_neg (by simp [hcc])] at hC
          refine wc_skipEnd (hrest _ hC (gh_keep [2, 3] [3, 2] rfl rfl))
      · cases hc
    have d6 : (k == 6) = false := by simpa using h6
    rw [if_neg (by simp [h6])] at hC
    (repeat refine wc_assoc ?_); refine wc_then (by simp only [d6, go_sem, Nat.reduceAdd, Nat.reduceBEq, Nat.reduceEqDiff, Nat.reduceLT, Nat.reduceLeDiff, Nat.reduceMul, Nat.reduceSub, reduceCtorEq, reduceIte] <;> rfl) ?_
    (repeat refine wc_assoc ?_); refine wc_cond (by simp only [go_sem, Nat.reduceAdd, Nat.reduceBEq, Nat.reduceEqDiff, Nat.reduceLT, Nat.reduceLeDiff, Nat.reduceMul, Nat.reduceSub, reduceCtorEq, reduceIte] <;> rfl) (fun hc => ?_) (fun hc => ?_)
    · cases hc
    refine wc_skipEnd (hrest _ hC (gh_keep [2, 3] [3, 2] rfl rfl))
  · rw [if_pos h1] at hC
    have d1 : (k != k') = true := by simpa using h1
    (repeat refine wc_assoc ?_); refine wc_then (by simp only [d1, go_sem, Nat.reduceAdd, Nat.reduceBEq, Nat.reduceEqDiff, Nat.reduceLT, Nat.reduceLeDiff, Nat.reduceMul, Nat.reduceSub, reduceCtorEq, reduceIte] <;> rfl) ?_
    (repeat refine wc_assoc ?_); refine wc_cond (by simp only [go_sem, Nat.reduceAdd, Nat.reduceBEq, Nat.reduceEqDiff, Nat.reduceLT, Nat.reduceLeDiff, Nat.reduceMul, Nat.reduceSub, reduceCtorEq, reduceIte] <;> rfl) (fun hc => ?_) (fun hc => ?_)
    · refine wc_then (by
        repeat (first
    | (apply wo_op (hg := rfl) (hc := rfl) (hd := rfl); (simp only [go_sem, Nat.reduceAdd, Nat.reduceBEq, Nat.reduceEqDiff, Nat.reduceLT, Nat.reduceLeDiff, Nat.reduceMul, Nat.reduceSub, reduceCtorEq, reduceIte] <;> rfl); (simp only [go_sem, Nat.reduceAdd, Nat.reduceBEq, Nat.reduceEqDiff, Nat.reduceLT, Nat.reduceLeDiff, Nat.reduceMul, Nat.reduceSub, reduceCtorEq, reduceIte] <;> rfl))
    | (apply wo_eff (hg := rfl) (hc := rfl) (hd := rfl); (simp only [go_sem, Nat.reduceAdd, Nat.reduceBEq, Nat.reduceEqDiff, Nat.reduceLT, Nat.reduceLeDiff, Nat.reduceMul, Nat.reduceSub, reduceCtorEq, reduceIte] <;> rfl); (simp only [go_sem, Nat.reduceAdd, Nat.reduceBEq, Nat.reduceEqDiff, Nat.reduceLT, Nat.reduceLeDiff, Nat.reduceMul, Nat.reduceSub, reduceCtorEq, reduceIte] <;> rfl))
    | (apply wo_gT (hg := rfl); (simp only [go_sem, Nat.reduceAdd, Nat.reduceBEq, Nat.reduceEqDiff, Nat.reduceLT, Nat.reduceLeDiff, Nat.reduceMul, Nat.reduceSub, reduceCtorEq, reduceIte] <;> rfl))
    | (apply wo_gU (hg := rfl) (hd := rfl); (simp only [go_sem, Nat.reduceAdd, Nat.reduceBEq, Nat.reduceEqDiff, Nat.reduceLT, Nat.reduceLeDiff, Nat.reduceMul, Nat.reduceSub, reduceCtorEq, reduceIte] <;> rfl); (simp only [go_sem, Nat.reduceAdd, Nat.reduceBEq, Nat.reduceEqDiff, Nat.reduceLT, Nat.reduceLeDiff, Nat.reduceMul, Nat.reduceSub, reduceCtorEq, reduceIte] <;> rfl))
    | (apply wo_gF (hg := rfl) (hd := rfl); (simp only [go_sem, Nat.reduceAdd, Nat.reduceBEq, Nat.reduceEqDiff, Nat.reduceLT, Nat.reduceLeDiff, Nat.reduceMul, Nat.reduceSub, reduceCtorEq, reduceIte] <;> rfl); (simp only [go_sem, Nat.reduceAdd, Nat.reduceBEq, Nat.reduceEqDiff, Nat.reduceLT, Nat.reduceLeDiff, Nat.reduceMul, Nat.reduceSub, reduceCtorEq, reduceIte] <;> rfl))
    | exact wo_nil rfl)
        refine wo_call rfl rfl (by simp only [go_sem, Nat.reduceAdd, Nat.reduceBEq, Nat.reduceEqDiff, Nat.reduceLT, Nat.reduceLeDiff, Nat.reduceMul, Nat.reduceSub, reduceCtorEq, reduceIte] <;> rfl) (by simp only [go_sem, Nat.reduceAdd, Nat.reduceBEq, Nat.reduceEqDiff, Nat.reduceLT, Nat.reduceLeDiff, Nat.reduceMul, Nat.reduceSub, reduceCtorEq, reduceIte] <;> rfl) (.refl _) ((iord_spec k k')) rfl (by simp only [go_sem, Nat.reduceAdd, Nat.reduceBEq, Nat.reduceEqDiff, Nat.reduceLT, Nat.reduceLeDiff, Nat.reduceMul, Nat.reduceSub, reduceCtorEq, reduceIte] <;> rfl) ?_
        repeat (first
    | (apply wo_op (hg := rfl) (hc := rfl) (hd := rfl); (simp only [go_sem, Nat.reduceAdd, Nat.reduceBEq, Nat.reduceEqDiff, Nat.reduceLT, Nat.reduceLeDiff, Nat.reduceMul, Nat.reduceSub, reduceCtorEq, reduceIte] <;> rfl); (simp only [go_sem, Nat.reduceAdd, Nat.reduceBEq, Nat.reduceEqDiff, Nat.reduceLT, Nat.reduceLeDiff, Nat.reduceMul, Nat.reduceSub, reduceCtorEq, reduceIte] <;> rfl))
    | (apply wo_eff (hg := rfl) (hc := rfl) (hd := rfl); (simp only [go_sem, Nat.reduceAdd, Nat.reduceBEq, Nat.reduceEqDiff, Nat.reduceLT, Nat.reduceLeDiff, Nat.reduceMul, Nat.reduceSub, reduceCtorEq, reduceIte] <;> rfl); (simp only [go_sem, Nat.reduceAdd, Nat.reduceBEq, Nat.reduceEqDiff, Nat.reduceLT, Nat.reduceLeDiff, Nat.reduceMul, Nat.reduceSub, reduceCtorEq, reduceIte] <;> rfl))
    | (apply wo_gT (hg := rfl); (simp only [go_sem, Nat.reduceAdd, Nat.reduceBEq, Nat.reduceEqDiff, Nat.reduceLT, Nat.reduceLeDiff, Nat.reduceMul, Nat.reduceSub, reduceCtorEq, reduceIte] <;> rfl))
    | (apply wo_gU (hg := rfl) (hd := rfl); (simp only [go_sem, Nat.reduceAdd, Nat.reduceBEq, Nat.reduceEqDiff, Nat.reduceLT, Nat.reduceLeDiff, Nat.reduceMul, Nat.reduceSub, reduceCtorEq, reduceIte] <;> rfl); (simp only [go_sem, Nat.reduceAdd, Nat.reduceBEq, Nat.reduceEqDiff, Nat.reduceLT, Nat.reduceLeDiff, Nat.reduceMul, Nat.reduceSub, reduceCtorEq, reduceIte] <;> rfl))
    | (apply wo_gF (hg := rfl) (hd := rfl); (simp only [go_sem, Nat.reduceAdd, Nat.reduceBEq, Nat.reduceEqDiff, Nat.reduceLT, Nat.reduceLeDiff, Nat.reduceMul, Nat.reduceSub, reduceCtorEq, reduceIte] <;> rfl); (simp only [go_sem, Nat.reduceAdd, Nat.reduceBEq, Nat.reduceEqDiff, Nat.reduceLT, Nat.reduceLeDiff, Nat.reduceMul, Nat.reduceSub, reduceCtorEq, reduceIte] <;> rfl))
    | exact wo_nil rfl)) ?_
      refine wc_ret (hret _ ⟨.inr rfl, _, (by simp only [Try.f40, go_sem, Nat.reduceAdd, Nat.reduceBEq, Nat.reduceEqDiff, Nat.reduceLT, Nat.reduceLeDiff, Nat.reduceMul, Nat.reduceSub, reduceCtorEq, reduceIte] <;> rfl), ?_⟩)
      rw [hC]
      exact .refl _
    · cases hc
theorem cmpL_step (a : List V) (hv : ∀ v ∈ a, CmpOK v) (b : List V) : Pm.Spec X0.P 62 [.slice (encL a), .slice (encL b), .fn 40 []] [.int .i64 (cmpL a b)] := by
  refine Pm.Spec.wf fun hwf => ?_
  simp only [wfL, D.wf, encL_length] at hwf
  obtain ⟨⟨ha, _⟩, ⟨hb, _⟩, _⟩ := hwf
  refine Spec.of fn62 rfl rfl (by show 3 ≤ 39; decide) ?_
  show WC X0 39 _ _ _
  (repeat refine wc_assoc ?_); refine wc_then (by simp only [go_sem, Nat.reduceAdd, Nat.reduceBEq, Nat.reduceEqDiff, Nat.reduceLT, Nat.reduceLeDiff, Nat.reduceMul, Nat.reduceSub, reduceCtorEq, reduceIte] <;> rfl) ?_
  (repeat refine wc_assoc ?_); refine wc_then (by simp only [encL_length, go_sem, Nat.reduceAdd, Nat.reduceBEq, Nat.reduceEqDiff, Nat.reduceLT, Nat.reduceLeDiff, Nat.reduceMul, Nat.reduceSub, reduceCtorEq, reduceIte] <;> rfl) ?_
  refine wc_loopThen (σ0 := ⟨[(0, .d (.slice (encL a))), (1, .d (.slice (encL b))), (2, .d (.fn 40 [])), (11, .d (.slice (encL a))), (12, .d (.int .i64 (a.length : Nat))), (13, .d (.int .i64 (0 : Nat)))], []⟩)
    (fun n σ => ∃ i, n + i = a.length ∧ i ≤ b.length ∧ cmpL a b = cmpL (a.drop i) (b.drop i) ∧ σ = ⟨[(0, .d (.slice (encL a))), (1, .d (.slice (encL b))), (2, .d (.fn 40 [])), (11, .d (.slice (encL a))), (12, .d (.int .i64 (a.length : Nat))), (13, .d (.int .i64 (i : Nat)))], []⟩) a.length
    (gh_keep [0, 1, 2, 11, 12, 13] [] rfl rfl) ⟨0, by simp, by simp, by simp, rfl⟩ ?_
  rintro n σ ⟨i, hn, hib, he, rfl⟩
  (repeat refine wc_assoc ?_); refine wc_then (by simp only [go_sem, Nat.reduceAdd, Nat.reduceBEq, Nat.reduceEqDiff, Nat.reduceLT, Nat.reduceLeDiff, Nat.reduceMul, Nat.reduceSub, reduceCtorEq, reduceIte] <;> rfl) ?_
  (repeat refine wc_assoc ?_); refine wc_condThen (by simp only [go_sem, Nat.reduceAdd, Nat.reduceBEq, Nat.reduceEqDiff, Nat.reduceLT, Nat.reduceLeDiff, Nat.reduceMul, Nat.reduceSub, reduceCtorEq, reduceIte] <;> rfl) (fun hc => ?_) (fun hc => ?_)
  · have hi : i < a.length := by simpa using hc
    rw [List.drop_eq_getElem_cons hi] at he
    refine wc_skip ?_
    refine wc_blockThen ?_
    have hav := hv a[i] (List.getElem_mem hi)
    unfold CmpOK at hav
    obtain ⟨cs, e1, e2⟩ := enc_agg a[i]
    have g1 := encL_get hi
    rw [e1] at g1 hav
    have t1 : cs.take 5 = cs := List.take_of_length_le (by omega)
    match cs, e2 with
    | [c0, c1, c2, c3, c4], _ =>
    (repeat refine wc_assoc ?_); refine wc_then (by simp only [g1, t1, Nat.le_refl, Int.toNat_natCast, Int.natCast_nonneg, go_sem, Nat.reduceAdd, Nat.reduceBEq, Nat.reduceEqDiff, Nat.reduceLT, Nat.reduceLeDiff, Nat.reduceMul, Nat.reduceSub, reduceCtorEq, reduceIte] <;> rfl) ?_
    by_cases h1 : i < b.length
    · have d1 : decide ((i : Int) ≥ (b.length : Int)) = false := by simp; omega
      rw [List.drop_eq_getElem_cons h1, cmpL] at he
      (repeat refine wc_assoc ?_); refine wc_then (by simp only [encL_length, d1, go_sem, Nat.reduceAdd, Nat.reduceBEq, Nat.reduceEqDiff, Nat.reduceLT, Nat.reduceLeDiff, Nat.reduceMul, Nat.reduceSub, reduceCtorEq, reduceIte] <;> rfl) ?_
      (repeat refine wc_assoc ?_); refine wc_condThen (by simp only [go_sem, Nat.reduceAdd, Nat.reduceBEq, Nat.reduceEqDiff, Nat.reduceLT, Nat.reduceLeDiff, Nat.reduceMul, Nat.reduceSub, reduceCtorEq, reduceIte] <;> rfl) (fun hc => ?_) (fun hc => ?_)
      · cases hc
      refine wc_skip ?_
      have hsp := hav b[i]
      obtain ⟨ds, e3, e4⟩ := enc_agg b[i]
      have g2 := encL_get h1
      rw [e3] at g2 hsp
      have t2 : ds.take 5 = ds := List.take_of_length_le (by omega)
      match ds, e4 with
      | [d0, d1, d2, d3, d4], _ =>
      (repeat refine wc_assoc ?_); refine wc_then (by simp only [g2, t2, Nat.le_refl, Int.toNat_natCast, Int.natCast_nonneg, go_sem, Nat.reduceAdd, Nat.reduceBEq, Nat.reduceEqDiff, Nat.reduceLT, Nat.reduceLeDiff, Nat.reduceMul, Nat.reduceSub, reduceCtorEq, reduceIte] <;> rfl) ?_
      generalize a[i].cmp b[i] = c at *
      (repeat refine wc_assoc ?_);  refine wc_then (by
        repeat (first
    | (apply wo_op (hg := rfl) (hc := rfl) (hd := rfl); (simp only [go_sem, Nat.reduceAdd, Nat.reduceBEq, Nat.reduceEqDiff, Nat.reduceLT, Nat.reduceLeDiff, Nat.reduceMul, Nat.reduceSub, reduceCtorEq, reduceIte] <;> rfl); (simp only [go_sem, Nat.reduceAdd, Nat.reduceBEq, Nat.reduceEqDiff, Nat.reduceLT, Nat.reduceLeDiff, Nat.reduceMul, Nat.reduceSub, reduceCtorEq, reduceIte] <;> rfl))
    | (apply wo_eff (hg := rfl) (hc := rfl) (hd := rfl); (simp only [go_sem, Nat.reduceAdd, Nat.reduceBEq, Nat.reduceEqDiff, Nat.reduceLT, Nat.reduceLeDiff, Nat.reduceMul, Nat.reduceSub, reduceCtorEq, reduceIte] <;> rfl); (simp only [go_sem, Nat.reduceAdd, Nat.reduceBEq, Nat.reduceEqDiff, Nat.reduceLT, Nat.reduceLeDiff, Nat.reduceMul, Nat.reduceSub, reduceCtorEq, reduceIte] <;> rfl))
    | (apply wo_gT (hg := rfl); (simp only [go_sem, Nat.reduceAdd, Nat.reduceBEq, Nat.reduceEqDiff, Nat.reduceLT, Nat.reduceLeDiff, Nat.reduceMul, Nat.reduceSub, reduceCtorEq, reduceIte] <;> rfl))
    | (apply wo_gU (hg := rfl) (hd := rfl); (simp only [go_sem, Nat.reduceAdd, Nat.reduceBEq, Nat.reduceEqDiff, Nat.reduceLT, Nat.reduceLeDiff, Nat.reduceMul, Nat.reduceSub, reduceCtorEq, reduceIte] <;> rfl); (simp only [go_sem, Nat.reduceAdd, Nat.reduceBEq, Nat.reduceEqDiff, Nat.reduceLT, Nat.reduceLeDiff, Nat.reduceMul, Nat.reduceSub, reduceCtorEq, reduceIte] <;> rfl))
    | (apply wo_gF (hg := rfl) (hd := rfl); (simp only [go_sem, Nat.reduceAdd, Nat.reduceBEq, Nat.reduceEqDiff, Nat.reduceLT, Nat.reduceLeDiff, Nat.reduceMul, Nat.reduceSub, reduceCtorEq, reduceIte] <;> rfl); (simp only [go_sem, Nat.reduceAdd, Nat.reduceBEq, Nat.reduceEqDiff, Nat.reduceLT, Nat.reduceLeDiff, Nat.reduceMul, Nat.reduceSub, reduceCtorEq, reduceIte] <;> rfl))
    | exact wo_nil rfl)
        refine wo_call rfl rfl (by simp only [go_sem, Nat.reduceAdd, Nat.reduceBEq, Nat.reduceEqDiff, Nat.reduceLT, Nat.reduceLeDiff, Nat.reduceMul, Nat.reduceSub, reduceCtorEq, reduceIte] <;> rfl) (by simp only [go_sem, Nat.reduceAdd, Nat.reduceBEq, Nat.reduceEqDiff, Nat.reduceLT, Nat.reduceLeDiff, Nat.reduceMul, Nat.reduceSub, reduceCtorEq, reduceIte] <;> rfl) (.refl _) ((hsp)) rfl (by simp only [go_sem, Nat.reduceAdd, Nat.reduceBEq, Nat.reduceEqDiff, Nat.reduceLT, Nat.reduceLeDiff, Nat.reduceMul, Nat.reduceSub, reduceCtorEq, reduceIte] <;> rfl) ?_
        repeat (first
    | (apply wo_op (hg := rfl) (hc := rfl) (hd := rfl); (simp only [go_sem, Nat.reduceAdd, Nat.reduceBEq, Nat.reduceEqDiff, Nat.reduceLT, Nat.reduceLeDiff, Nat.reduceMul, Nat.reduceSub, reduceCtorEq, reduceIte] <;> rfl); (simp only [go_sem, Nat.reduceAdd, Nat.reduceBEq, Nat.reduceEqDiff, Nat.reduceLT, Nat.reduceLeDiff, Nat.reduceMul, Nat.reduceSub, reduceCtorEq, reduceIte] <;> rfl))
    | (apply wo_eff (hg := rfl) (hc := rfl) (hd := rfl); (simp only [go_sem, Nat.reduceAdd, Nat.reduceBEq, Nat.reduceEqDiff, Nat.reduceLT, Nat.reduceLeDiff, Nat.reduceMul, Nat.reduceSub, reduceCtorEq, reduceIte] <;> rfl); (simp only [go_sem, Nat.reduceAdd, Nat.reduceBEq, Nat.reduceEqDiff, Nat.reduceLT, Nat.reduceLeDiff, Nat.reduceMul, Nat.reduceSub, reduceCtorEq, reduceIte] <;> rfl))
    | (apply wo_gT (hg := rfl); (simp only [go_sem, Nat.reduceAdd, Nat.reduceBEq, Nat.reduceEqDiff, Nat.reduceLT, Nat.reduceLeDiff, Nat.reduceMul, Nat.reduceSub, reduceCtorEq, reduceIte] <;> rfl))
    | (apply wo_gU (hg := rfl) (hd := rfl); (simp only [go_sem, Nat.reduceAdd, Nat.reduceBEq, Nat.reduceEqDiff, Nat.reduceLT, Nat.reduceLeDiff, Nat.reduceMul, Nat.reduceSub, reduceCtorEq, reduceIte] <;> rfl); (simp only [go_sem, Nat.reduceAdd, Nat.reduceBEq, Nat.reduceEqDiff, Nat.reduceLT, Nat.reduceLeDiff, Nat.reduceMul, Nat.reduceSub, reduceCtorEq, reduceIte] <;> rfl))
    | (apply wo_gF (hg := rfl) (hd := rfl); (simp only [go_sem, Nat.reduceAdd, Nat.reduceBEq, Nat.reduceEqDiff, Nat.reduceLT, Nat.reduceLeDiff, Nat.reduceMul, Nat.reduceSub, reduceCtorEq, reduceIte] <;> rfl); (simp only [go_sem, Nat.reduceAdd, Nat.reduceBEq, Nat.reduceEqDiff, Nat.reduceLT, Nat.reduceLeDiff, Nat.reduceMul, Nat.reduceSub, reduceCtorEq, reduceIte] <;> rfl))
    | exact wo_nil rfl)) ?_
      (repeat refine wc_assoc ?_); refine wc_then (by simp only [go_sem, Nat.reduceAdd, Nat.reduceBEq, Nat.reduceEqDiff, Nat.reduceLT, Nat.reduceLeDiff, Nat.reduceMul, Nat.reduceSub, reduceCtorEq, reduceIte] <;> rfl) ?_
      (repeat refine wc_assoc ?_); refine wc_cond (by simp only [go_sem, Nat.reduceAdd, Nat.reduceBEq, Nat.reduceEqDiff, Nat.reduceLT, Nat.reduceLeDiff, Nat.reduceMul, Nat.reduceSub, reduceCtorEq, reduceIte] <;> rfl) (fun hc => ?_) (fun hc => ?_)
      · have hcc : c ≠ 0 := by simpa using hc
        rw [if_pos hcc] at he
        rw [he]
        (repeat refine wc_assoc ?_); refine wc_then (by simp only [go_sem, Nat.reduceAdd, Nat.reduceBEq, Nat.reduceEqDiff, Nat.reduceLT, Nat.reduceLeDiff, Nat.reduceMul, Nat.reduceSub, reduceCtorEq, reduceIte] <;> rfl) ?_
        refine wc_ret ⟨.inr rfl, _, (by simp only [Try.f62, go_sem, Nat.reduceAdd, Nat.reduceBEq, Nat.reduceEqDiff, Nat.reduceLT, Nat.reduceLeDiff, Nat.reduceMul, Nat.reduceSub, reduceCtorEq, reduceIte] <;> rfl), ?_⟩
        exact .refl _
      · have hcc : c = 0 := by simpa using hc
        rw [if_neg (by simp [hcc])] at he
        refine wc_skipEnd (blk_normal ?_)
        refine wc_last (by simp only [go_sem, Nat.reduceAdd, Nat.reduceBEq, Nat.reduceEqDiff, Nat.reduceLT, Nat.reduceLeDiff, Nat.reduceMul, Nat.reduceSub, reduceCtorEq, reduceIte] <;> rfl) ?_
        refine loop_next (n - 1) (by omega) (gh_keep [0, 1, 2, 11, 12, 13] [] rfl rfl) ⟨i + 1, by omega, by omega, he, ?_⟩
        have hw : IntKind.i64.wrap ((i : Int) + 1) = ((i + 1 : Nat) : Int) := wrap_nat (n := i + 1) (by omega)
        simp only [hw]
        rfl
    · have d1 : decide ((i : Int) ≥ (b.length : Int)) = true := by simp; omega
      rw [show b.drop i = [] from List.drop_eq_nil_of_le (by omega), cmpL] at he
      rw [he]
      (repeat refine wc_assoc ?_); refine wc_then (by simp only [encL_length, d1, go_sem, Nat.reduceAdd, Nat.reduceBEq, Nat.reduceEqDiff, Nat.reduceLT, Nat.reduceLeDiff, Nat.reduceMul, Nat.reduceSub, reduceCtorEq, reduceIte] <;> rfl) ?_
      (repeat refine wc_assoc ?_); refine wc_condThen (by simp only [go_sem, Nat.reduceAdd, Nat.reduceBEq, Nat.reduceEqDiff, Nat.reduceLT, Nat.reduceLeDiff, Nat.reduceMul, Nat.reduceSub, reduceCtorEq, reduceIte] <;> rfl) (fun hc => ?_) (fun hc => ?_)
      · (repeat refine wc_assoc ?_); refine wc_then (by simp only [go_sem, Nat.reduceAdd, Nat.reduceBEq, Nat.reduceEqDiff, Nat.reduceLT, Nat.reduceLeDiff, Nat.reduceMul, Nat.reduceSub, reduceCtorEq, reduceIte] <;> rfl) ?_
        refine wc_retThen ⟨.inr rfl, _, (by simp only [Try.f62, go_sem, Nat.reduceAdd, Nat.reduceBEq, Nat.reduceEqDiff, Nat.reduceLT, Nat.reduceLeDiff, Nat.reduceMul, Nat.reduceSub, reduceCtorEq, reduceIte] <;> rfl), ?_⟩
        exact .refl _
      · cases hc
  · have hi : i = a.length := by simp at hc; omega
    subst hi
    rw [List.drop_length] at he
    refine wc_exitThen (loop_exit ?_)
    by_cases h1 : a.length < b.length
    · have d1 : decide ((a.length : Int) < (b.length : Int)) = true := by simp; omega
      rw [List.drop_eq_getElem_cons h1, cmpL] at he
      rw [he]
      (repeat refine wc_assoc ?_); refine wc_then (by simp only [encL_length, d1, go_sem, Nat.reduceAdd, Nat.reduceBEq, Nat.reduceEqDiff, Nat.reduceLT, Nat.reduceLeDiff, Nat.reduceMul, Nat.reduceSub, reduceCtorEq, reduceIte] <;> rfl) ?_
      (repeat refine wc_assoc ?_); refine wc_condThen (by simp only [go_sem, Nat.reduceAdd, Nat.reduceBEq, Nat.reduceEqDiff, Nat.reduceLT, Nat.reduceLeDiff, Nat.reduceMul, Nat.reduceSub, reduceCtorEq, reduceIte] <;> rfl) (fun hc => ?_) (fun hc => ?_)
      · (repeat refine wc_assoc ?_); refine wc_then (by simp only [go_sem, Nat.reduceAdd, Nat.reduceBEq, Nat.reduceEqDiff, Nat.reduceLT, Nat.reduceLeDiff, Nat.reduceMul, Nat.reduceSub, reduceCtorEq, reduceIte] <;> rfl) ?_
        refine wc_retThen ⟨.inr rfl, _, (by simp only [Try.f62, go_sem, Nat.reduceAdd, Nat.reduceBEq, Nat.reduceEqDiff, Nat.reduceLT, Nat.reduceLeDiff, Nat.reduceMul, Nat.reduceSub, reduceCtorEq, reduceIte] <;> rfl), ?_⟩
        exact .refl _
      · cases hc
    · have d1 : decide ((a.length : Int) < (b.length : Int)) = false := by simp; omega
      rw [List.drop_eq_nil_of_le (by omega), cmpL] at he
      rw [he]
      (repeat refine wc_assoc ?_); refine wc_then (by simp only [encL_length, d1, go_sem, Nat.reduceAdd, Nat.reduceBEq, Nat.reduceEqDiff, Nat.reduceLT, Nat.reduceLeDiff, Nat.reduceMul, Nat.reduceSub, reduceCtorEq, reduceIte] <;> rfl) ?_
      (repeat refine wc_assoc ?_); refine wc_condThen (by simp only [go_sem, Nat.reduceAdd, Nat.reduceBEq, Nat.reduceEqDiff, Nat.reduceLT, Nat.reduceLeDiff, Nat.reduceMul, Nat.reduceSub, reduceCtorEq, reduceIte] <;> rfl) (fun hc => ?_) (fun hc => ?_)
      · cases hc
      refine wc_skip ?_
      (repeat refine wc_assoc ?_); refine wc_then (by simp only [go_sem, Nat.reduceAdd, Nat.reduceBEq, Nat.reduceEqDiff, Nat.reduceLT, Nat.reduceLeDiff, Nat.reduceMul, Nat.reduceSub, reduceCtorEq, reduceIte] <;> rfl) ?_
      refine wc_ret ⟨.inr rfl, _, (by simp only [Try.f62, go_sem, Nat.reduceAdd, Nat.reduceBEq, Nat.reduceEqDiff, Nat.reduceLT, Nat.reduceLeDiff, Nat.reduceMul, Nat.reduceSub, reduceCtorEq, reduceIte] <;> rfl), ?_⟩
      exact .refl _
mutual
theorem cmp_spec : ∀ v : V, CmpOK v
  | .mk k i s ks es => cmp_step k i s ks es (cmpL_step es (cmp_all es))
theorem cmp_all : ∀ l : List V, ∀ v ∈ l, CmpOK v
  | [], v, h => by simp at h
  | w :: l, v, h => by
    rcases List.mem_cons.1 h with e | h
    · exact e ▸ cmp_spec w
    · exact cmp_all l v h
end
end Go.Proofs.Ytnkknmdpakebhaa
