/- Values as a tree; the first contracts. -/
import Derived.Test.YtnkknmdpakebhaaPmX
set_option linter.unusedSimpArgs false
set_option linter.unusedVariables false
namespace Go.Proofs.Ytnkknmdpakebhaa
open Go Go.Pm
attribute [local irreducible] WC WOps WOpsG
attribute [local go_sem] WOps WOp callOf gtmp gval gvalT evOp evBuiltin binT St.ev constT St.m envOf Go.Pm.look St.upd St.putO St.put St.set allT allP T.toD unD1 T.cells T.asSlice D.cells D.sz eqTy binD unD cvD cv2 fillD ldT ldD TyI.agg allD splice isSome' cut bnd resT resOf Done Option.all_some Option.all_none Option.getD_some Option.getD_none Option.bind_some Option.bind_none Option.map_some Option.map_none List.map List.map_cons List.map_nil List.cons_append List.nil_append List.append_nil List.take_succ_cons List.drop_succ_cons List.take_zero List.drop_zero List.take_nil List.drop_nil List.head?_cons List.length_cons List.length_nil List.getElem?_cons_zero List.getElem?_cons_succ List.getElem?_toArray List.all_cons List.all_nil ite_true ite_false if_true if_false Bool.not_false Bool.not_true decide_true decide_false and_true true_and and_self false_and and_false Bool.and_true Bool.true_and Bool.or_true Bool.true_or List.size_toArray seqFrom beq_self_eq_true BEq.rfl eq_self Nat.succ_ne_self false_or or_false Nat.zero_add Nat.add_zero Nat.not_lt_zero Nat.one_ne_zero tab2 tab3 tab4 tab5 tab9 tab22 tab24 tab25 tab27 tab30 tab54 tab57 tab78 tab85

/-- A value of the program. -/
inductive V where
  | mk (k i : Int) (s : ByteArray) (ks : List ByteArray) (es : List V)
mutual
def V.enc : V → D
  | .mk k i s ks es => .agg [.int .i64 k, .int .i64 i, .str s, .slice (ks.map .str), .slice (encL es)]
def encL : List V → List D
  | [] => []
  | v :: l => v.enc :: encL l
end
theorem encL_map : ∀ l : List V, encL l = l.map V.enc
  | [] => by simp [encL]
  | v :: l => by simp [encL, encL_map l]
def V.num (n : Int) : V := .mk 3 n ⟨#[]⟩ [] []
def V.arr (l : List V) : V := .mk 5 0 ⟨#[]⟩ [] l
def V.str (s : ByteArray) : V := .mk 4 0 s [] []
def V.zero : V := .mk 0 0 ⟨#[]⟩ [] []
mutual
theorem enc_norm : ∀ v : V, v.enc.norm = v.enc
  | .mk k i s ks es => by
    simp only [V.enc, D.norm, normL, encL_norm es]
    congr
    induction ks with
    | nil => rfl
    | cons a l ih => simp [normL, D.norm, ih]
theorem encL_norm : ∀ l : List V, normL (encL l) = encL l
  | [] => rfl
  | v :: l => by simp only [encL, normL, enc_norm v, encL_norm l]
end
theorem strs_norm : ∀ ks : List ByteArray, normL (ks.map .str) = ks.map .str
  | [] => rfl
  | a :: l => by simp [normL, D.norm, strs_norm l]
theorem le_of_norm {x y : D} (h : x.norm = y) : D.le x y := h ▸ D.le_norm x

theorem num_spec (n : Int) : Pm.Spec X0.P 7 [.int .i64 n] [(V.num n).enc] := by
  refine Spec.of fn7 rfl rfl (by show 1 ≤ 5; decide) ?_
  show WC X0 5 _ _ _
  repeat' (first
    | refine wc_assoc ?_
    | refine wc_then (by simp only [go_sem, Nat.reduceAdd, Nat.reduceBEq, Nat.reduceEqDiff, Nat.reduceLT, Nat.reduceLeDiff, Nat.reduceMul, Nat.reduceSub, reduceCtorEq, reduceIte] <;> rfl) ?_
    | refine wc_condThen (by simp only [go_sem, Nat.reduceAdd, Nat.reduceBEq, Nat.reduceEqDiff, Nat.reduceLT, Nat.reduceLeDiff, Nat.reduceMul, Nat.reduceSub, reduceCtorEq, reduceIte] <;> rfl) (fun hc => ?_) (fun hc => ?_)
    | refine wc_skip ?_
    | refine wc_retThen ?_
    | refine wc_ret ?_
    | refine wc_last (by simp only [go_sem, Nat.reduceAdd, Nat.reduceBEq, Nat.reduceEqDiff, Nat.reduceLT, Nat.reduceLeDiff, Nat.reduceMul, Nat.reduceSub, reduceCtorEq, reduceIte] <;> rfl) ?_)
  exact ⟨.inr rfl, _, (by simp only [Try.f7, go_sem, Nat.reduceAdd, Nat.reduceBEq, Nat.reduceEqDiff, Nat.reduceLT, Nat.reduceLeDiff, Nat.reduceMul, Nat.reduceSub, reduceCtorEq, reduceIte]; rfl), .cons (le_of_norm (by simp [V.num, V.enc, encL, D.norm, normL])) .nil⟩
theorem mod_spec (n m : Int) (hm : m ≠ 0) : Pm.Spec X0.P 8 [.int .i64 n, .int .i64 m] [.int .i64 (if n.tmod m < 0 then IntKind.i64.wrap (n.tmod m + m) else n.tmod m)] := by
  refine Spec.of fn8 rfl rfl (by show 2 ≤ 15; decide) ?_
  show WC X0 15 _ _ _
  repeat' (first
    | refine wc_assoc ?_
    | refine wc_then (by simp only [hm, go_sem, Nat.reduceAdd, Nat.reduceBEq, Nat.reduceEqDiff, Nat.reduceLT, Nat.reduceLeDiff, Nat.reduceMul, Nat.reduceSub, reduceCtorEq, reduceIte] <;> rfl) ?_
    | refine wc_condThen (by simp only [go_sem, Nat.reduceAdd, Nat.reduceBEq, Nat.reduceEqDiff, Nat.reduceLT, Nat.reduceLeDiff, Nat.reduceMul, Nat.reduceSub, reduceCtorEq, reduceIte] <;> rfl) (fun hc => ?_) (fun hc => ?_)
    | refine wc_skip ?_
    | refine wc_retThen ?_
    | refine wc_ret ?_
    | refine wc_last (by simp only [hm, go_sem, Nat.reduceAdd, Nat.reduceBEq, Nat.reduceEqDiff, Nat.reduceLT, Nat.reduceLeDiff, Nat.reduceMul, Nat.reduceSub, reduceCtorEq, reduceIte] <;> rfl) ?_)
  all_goals refine ⟨.inr rfl, _, (by simp only [Try.f8, go_sem, Nat.reduceAdd, Nat.reduceBEq, Nat.reduceEqDiff, Nat.reduceLT, Nat.reduceLeDiff, Nat.reduceMul, Nat.reduceSub, reduceCtorEq, reduceIte]; rfl), ?_⟩
  all_goals simp only [decide_eq_true_eq, decide_eq_false_iff_not] at hc
  all_goals simp only [hc, if_true, if_false]
  all_goals exact .refl _
theorem list_spec (l : List V) : Pm.Spec X0.P 10 [.slice (encL l)] [(V.arr l).enc] := by
  refine Spec.of fn10 rfl rfl (by show 1 ≤ 5; decide) ?_
  show WC X0 5 _ _ _
  repeat' (first
    | refine wc_assoc ?_
    | refine wc_then (by simp only [go_sem, Nat.reduceAdd, Nat.reduceBEq, Nat.reduceEqDiff, Nat.reduceLT, Nat.reduceLeDiff, Nat.reduceMul, Nat.reduceSub, reduceCtorEq, reduceIte] <;> rfl) ?_
    | refine wc_condThen (by simp only [go_sem, Nat.reduceAdd, Nat.reduceBEq, Nat.reduceEqDiff, Nat.reduceLT, Nat.reduceLeDiff, Nat.reduceMul, Nat.reduceSub, reduceCtorEq, reduceIte] <;> rfl) (fun hc => ?_) (fun hc => ?_)
    | refine wc_skip ?_
    | refine wc_retThen ?_
    | refine wc_ret ?_
    | refine wc_last (by simp only [go_sem, Nat.reduceAdd, Nat.reduceBEq, Nat.reduceEqDiff, Nat.reduceLT, Nat.reduceLeDiff, Nat.reduceMul, Nat.reduceSub, reduceCtorEq, reduceIte] <;> rfl) ?_)
  exact ⟨.inr rfl, _, (by simp only [Try.f10, go_sem, Nat.reduceAdd, Nat.reduceBEq, Nat.reduceEqDiff, Nat.reduceLT, Nat.reduceLeDiff, Nat.reduceMul, Nat.reduceSub, reduceCtorEq, reduceIte]; rfl), .cons (le_of_norm (by simp [V.arr, V.enc, encL, D.norm, normL, encL_norm])) .nil⟩
end Go.Proofs.Ytnkknmdpakebhaa
