/- slices: Reverse of values. -/
import Derived.Test.YtnkknmdpakebhaaPmNb
set_option linter.unusedSimpArgs false
set_option linter.unusedVariables false
set_option maxHeartbeats 4000000
namespace Go.Proofs.Ytnkknmdpakebhaa
open Go Go.Pm
open Nat (reduceAdd reduceEqDiff reduceLT reduceLeDiff reduceMul reduceSub)
attribute [local irreducible] WC WOps WOpsG
attribute [local go_sem] WOps WOp callOf gtmp gval gvalT evOp evBuiltin binT St.ev constT St.m envOf Go.Pm.look St.upd St.putO St.put St.set allT allP T.toD unD1 T.cells T.asSlice D.cells D.sz eqTy binD unD cvD cv2 fillD ldT ldD TyI.agg allD splice isSome' cut bnd resT resOf Done Option.all_some Option.all_none Option.getD_some Option.getD_none Option.bind_some Option.bind_none Option.map_some Option.map_none List.map List.map_cons List.map_nil List.cons_append List.nil_append List.append_nil List.take_succ_cons List.drop_succ_cons List.take_zero List.drop_zero List.take_nil List.drop_nil List.head?_cons List.length_cons List.length_nil List.getElem?_cons_zero List.getElem?_cons_succ List.getElem?_toArray List.all_cons List.all_nil ite_true ite_false if_true if_false Bool.not_false Bool.not_true decide_true decide_false and_true true_and and_self false_and and_false Bool.and_true Bool.true_and Bool.or_true Bool.true_or List.size_toArray seqFrom beq_self_eq_true BEq.rfl eq_self Nat.succ_ne_self false_or or_false Nat.zero_add Nat.add_zero Nat.not_lt_zero Nat.one_ne_zero tab1_2 tab1_3 tab1_4 tab1_5 tab1_9 tab1_22 tab1_24 tab1_25 tab1_27 tab1_30 tab1_54 tab1_57 tab1_78 tab1_85
/-- The cells of a row of values. -/
def cD (L : List V) : List D := (encL L).flatMap D.cells
def cT (L : List V) : List T := (cD L).map T.d
theorem cD_app (P Q : List V) : cD (P ++ Q) = cD P ++ cD Q := by simp [cD, encL_map]
theorem cD_len (P : List V) : (cD P).length = P.length * 5 := by
  induction P with
  | nil => rfl
  | cons v r ih =>
    obtain ⟨cs, e1, e2⟩ := enc_agg v
    have : cD (v :: r) = cs ++ cD r := by simp only [cD, encL, List.flatMap_cons, e1, D.cells]
    rw [this, List.length_append, ih, e2, List.length_cons]
    omega
theorem cT_len (P : List V) : (cT P).length = P.length * 5 := by rw [cT, List.length_map, cD_len]
theorem cT_split (P Q : List V) (v : V) {cs : List D} (h : v.enc = .agg cs) : cT (P ++ v :: Q) = cT P ++ (cs.map T.d ++ cT Q) := by
  have : cD (v :: Q) = cs ++ cD Q := by simp only [cD, encL, List.flatMap_cons, h, D.cells]
  simp only [cT, cD_app, this, List.map_append]
theorem cT_get {P Q L : List V} {v : V} {j : Nat} {c0 c1 c2 c3 c4 : D} (h : v.enc = .agg [c0, c1, c2, c3, c4]) (hL : L = P ++ v :: Q) (hj : j = P.length) : List.take 5 (List.drop (j * 5) (cT L)) = [.d c0, .d c1, .d c2, .d c3, .d c4] := by
  subst hL hj
  rw [cT_split P Q v h, List.drop_append_of_le_length (by rw [cT_len]; omega), List.drop_of_length_le (by rw [cT_len]; omega)]
  rfl
theorem cT_set {P Q L : List V} {v w : V} {j : Nat} {c0 c1 c2 c3 c4 : D} (h : w.enc = .agg [c0, c1, c2, c3, c4]) (hL : L = P ++ v :: Q) (hj : j = P.length) : List.take (j * 5) (cT L) ++ [.d c0, .d c1, .d c2, .d c3, .d c4] ++ List.drop (j * 5 + 5) (cT L) = cT (P ++ w :: Q) := by
  subst hL hj
  obtain ⟨ds, e1, e2⟩ := enc_agg v
  rw [cT_split P Q v e1, cT_split P Q w h, List.take_append_of_le_length (by rw [cT_len]; omega), List.take_of_length_le (by rw [cT_len]; omega)]
  rw [show cT P ++ (ds.map T.d ++ cT Q) = (cT P ++ ds.map T.d) ++ cT Q by simp, List.drop_append_of_le_length (by simp [cT_len, e2]), List.drop_of_length_le (by simp [cT_len, e2])]
  simp
theorem rev_spec (l : List V) (nn : Nat) (hn : nn = l.length) (hmax : nn ≤ 1048576) : Pm.SpecR X0.P 69 [.view 0 5 0 nn] [cD l] [] [cD l.reverse] := by
  refine SpecR.of (x := X1) fn69 rfl rfl (by show 1 ≤ 28; decide) (.inl rfl) ?_
  show WC X1 28 _ _ _
  simp only [envA, memOf, A.t, oid, Nat.reduceAdd, Nat.zero_add]
  rw [show (cD l).map T.d = cT l from rfl]
  (repeat refine wc_assoc ?_); refine wc_then (by simp only [go_sem, reduceAdd, Nat.reduceBEq, reduceEqDiff, reduceLT, reduceLeDiff, reduceMul, reduceSub, reduceCtorEq, reduceIte] <;> rfl) ?_
  refine wc_loopLast (σ0 := ⟨[(0, .view 900000 0 5 0 nn), (2, .d (.int .i64 (0 : Nat))), (3, .d (.int .i64 (IntKind.i64.wrap ((nn : Int) - 1))))], [(900000, .box 0 (cT l))]⟩)
    (fun m σ => ∃ (A M B L : List V) (i : Nat) (jj : Int), m = M.length ∧ i = A.length ∧ B.length = A.length ∧ jj = (nn : Int) - 1 - i ∧ L = A ++ M ++ B ∧ l = B.reverse ++ M ++ A.reverse ∧ σ = ⟨[(0, .view 900000 0 5 0 nn), (2, .d (.int .i64 (i : Nat))), (3, .d (.int .i64 jj))], [(900000, .box 0 (cT L))]⟩) l.length
    (gh_keep [0, 2, 3] [900000] rfl (by simp [cT, St.keep, St.kp, Go.Pm.look, lowO, lowT, isSome', Function.comp_def, St.set, St.put, D.cells])) ⟨[], l, [], l, 0, _, rfl, rfl, rfl, by rw [IntKind.wrap_i64]; omega, by simp, by simp, rfl⟩ ?_
  rintro m σ ⟨A, M, B, L, i, jj, hm, hi, hB, hj, hL, hl, rfl⟩
  have hlen : nn = A.length + M.length + B.length := by rw [hn, hl]; simp; omega
  by_cases hij : (i : Int) < jj
  · have d1 : decide ((i : Int) < jj) = true := by simpa using hij
    obtain ⟨x, M1, rfl⟩ : ∃ x M1, M = x :: M1 := by
      cases M with
      | nil => simp at hlen; omega
      | cons x M1 => exact ⟨x, M1, rfl⟩
    rcases List.eq_nil_or_concat M1 with h0 | ⟨M2, y, h0⟩
    · subst h0; simp at hlen; omega
    rw [List.concat_eq_append] at h0
    subst h0
    obtain ⟨j, rfl⟩ : ∃ j : Nat, jj = (j : Int) := ⟨jj.toNat, by omega⟩
    have hjl : j = A.length + 1 + M2.length := by simp at hlen; omega
    obtain ⟨cs, e1, e2⟩ := enc_agg x
    obtain ⟨ds, e3, e4⟩ := enc_agg y
    match cs, e2, ds, e4 with
    | [c0, c1, c2, c3, c4], _, [d0, d1', d2, d3, d4], _ =>
    have a1 := cT_get (L := L) (j := i) (P := A) (Q := M2 ++ [y] ++ B) e1 (by rw [hL]; simp) hi
    have a2 := cT_get (L := L) (j := j) (P := A ++ x :: M2) (Q := B) e3 (by rw [hL]; simp) (by rw [hjl]; simp; omega)
    have s1 := cT_set (L := L) (j := i) (P := A) (Q := M2 ++ [y] ++ B) (v := x) (w := y) e3 (by rw [hL]; simp) hi
    have s2 := cT_set (L := A ++ y :: (M2 ++ [y] ++ B)) (j := j) (P := A ++ y :: M2) (Q := B) (v := y) (w := x) e1 (by simp) (by rw [hjl]; simp; omega)
    have l1 : (i : Int) < (nn : Int) := by omega
    have l2 : (j : Int) < (nn : Int) := by omega
    have b1 : i * 5 + 5 ≤ (cT L).length := by rw [cT_len, hL]; simp; omega
    have b2 : j * 5 + 5 ≤ (cT (A ++ y :: (M2 ++ [y] ++ B))).length := by rw [cT_len]; simp; omega
    (repeat refine wc_assoc ?_); refine wc_then (by simp only [d1, go_sem, reduceAdd, Nat.reduceBEq, reduceEqDiff, reduceLT, reduceLeDiff, reduceMul, reduceSub, reduceCtorEq, reduceIte] <;> rfl) ?_
    (repeat refine wc_assoc ?_); refine wc_condThen (by simp only [go_sem, reduceAdd, Nat.reduceBEq, reduceEqDiff, reduceLT, reduceLeDiff, reduceMul, reduceSub, reduceCtorEq, reduceIte] <;> rfl) (fun hc => ?_) (fun hc => ?_)
    rotate_left
    · cases hc
    refine wc_skip ?_
    refine wc_blockThen ?_
    refine wc_lastD (by rfl) (by
      repeat (first
    | (apply wo_op (hg := rfl) (hc := rfl) (hd := rfl); (simp only [a1, a2, l1, l2, s1, s2, b1, b2, Int.toNat_natCast, Int.natCast_nonneg, go_sem, reduceAdd, Nat.reduceBEq, reduceEqDiff, reduceLT, reduceLeDiff, reduceMul, reduceSub, reduceCtorEq, reduceIte] <;> rfl); (simp only [go_sem, reduceAdd, Nat.reduceBEq, reduceEqDiff, reduceLT, reduceLeDiff, reduceMul, reduceSub, reduceCtorEq, reduceIte] <;> rfl))
    | (apply wo_eff (hg := rfl) (hc := rfl) (hd := rfl); (simp only [a1, a2, l1, l2, s1, s2, b1, b2, Int.toNat_natCast, Int.natCast_nonneg, go_sem, reduceAdd, Nat.reduceBEq, reduceEqDiff, reduceLT, reduceLeDiff, reduceMul, reduceSub, reduceCtorEq, reduceIte] <;> rfl); (simp only [go_sem, reduceAdd, Nat.reduceBEq, reduceEqDiff, reduceLT, reduceLeDiff, reduceMul, reduceSub, reduceCtorEq, reduceIte] <;> rfl))
    | (apply wo_gT (hg := rfl); (simp only [a1, a2, l1, l2, s1, s2, b1, b2, Int.toNat_natCast, Int.natCast_nonneg, go_sem, reduceAdd, Nat.reduceBEq, reduceEqDiff, reduceLT, reduceLeDiff, reduceMul, reduceSub, reduceCtorEq, reduceIte] <;> rfl))
    | (apply wo_gU (hg := rfl) (hd := rfl); (simp only [a1, a2, l1, l2, s1, s2, b1, b2, Int.toNat_natCast, Int.natCast_nonneg, go_sem, reduceAdd, Nat.reduceBEq, reduceEqDiff, reduceLT, reduceLeDiff, reduceMul, reduceSub, reduceCtorEq, reduceIte] <;> rfl); (simp only [go_sem, reduceAdd, Nat.reduceBEq, reduceEqDiff, reduceLT, reduceLeDiff, reduceMul, reduceSub, reduceCtorEq, reduceIte] <;> rfl))
    | (apply wo_gF (hg := rfl) (hd := rfl); (simp only [a1, a2, l1, l2, s1, s2, b1, b2, Int.toNat_natCast, Int.natCast_nonneg, go_sem, reduceAdd, Nat.reduceBEq, reduceEqDiff, reduceLT, reduceLeDiff, reduceMul, reduceSub, reduceCtorEq, reduceIte] <;> rfl); (simp only [go_sem, reduceAdd, Nat.reduceBEq, reduceEqDiff, reduceLT, reduceLeDiff, reduceMul, reduceSub, reduceCtorEq, reduceIte] <;> rfl))
    | exact wo_nil rfl)) ?_
    refine blk_normal ?_
    have w1 : IntKind.i64.wrap ((i : Int) + 1) = ((i + 1 : Nat) : Int) := by rw [IntKind.wrap_i64]; omega
    have w2 : IntKind.i64.wrap ((j : Int) - 1) = (j : Int) - 1 := by rw [IntKind.wrap_i64]; omega
    refine wc_last (by simp only [w1, w2, go_sem, reduceAdd, Nat.reduceBEq, reduceEqDiff, reduceLT, reduceLeDiff, reduceMul, reduceSub, reduceCtorEq, reduceIte] <;> rfl) ?_
    refine loopE_next (σ1 := ⟨[(0, .view 900000 0 5 0 nn), (2, .d (.int .i64 (i + 1 : Nat))), (3, .d (.int .i64 ((j : Int) - 1)))], [(900000, .box 0 (cT (A ++ y :: M2 ++ x :: B)))]⟩) M2.length (by simp at hm; omega) (gh_keep [0, 2, 3] [900000] rfl (by simp [cT, St.keep, St.kp, Go.Pm.look, lowO, lowT, isSome', Function.comp_def, St.set, St.put, D.cells])) ⟨A ++ [y], M2, x :: B, A ++ y :: M2 ++ x :: B, i + 1, (j : Int) - 1, rfl, by simp; omega, by simp; omega, by omega, by simp, by rw [hl]; simp, rfl⟩
  · have d1 : decide ((i : Int) < jj) = false := by simpa using hij
    (repeat refine wc_assoc ?_); refine wc_then (by simp only [d1, go_sem, reduceAdd, Nat.reduceBEq, reduceEqDiff, reduceLT, reduceLeDiff, reduceMul, reduceSub, reduceCtorEq, reduceIte] <;> rfl) ?_
    (repeat refine wc_assoc ?_); refine wc_condThen (by simp only [go_sem, reduceAdd, Nat.reduceBEq, reduceEqDiff, reduceLT, reduceLeDiff, reduceMul, reduceSub, reduceCtorEq, reduceIte] <;> rfl) (fun hc => ?_) (fun hc => ?_)
    · cases hc
    refine wc_exitThen (loopE_exit ?_)
    refine ⟨.inl rfl, ⟨_, (by rfl), LeR.refl _⟩, ?_⟩
    have hrv : L = l.reverse := by
      have hM : M.reverse = M := by
        match M, hlen with
        | [], _ => rfl
        | [x], _ => rfl
        | x :: y :: r, hlen => simp at hlen; omega
      rw [hL, hl]; simp [hM]
    rw [← hrv]
    exact objsAt_one (by rfl)
end Go.Proofs.Ytnkknmdpakebhaa
