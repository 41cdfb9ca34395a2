/- utf: Count, Valid. -/
import Derived.Test.YtnkknmdpakebhaaPmGb
set_option linter.unusedSimpArgs false
set_option linter.unusedVariables false
set_option maxHeartbeats 4000000
namespace Go.Proofs.Ytnkknmdpakebhaa
open Go Go.Pm
attribute [local irreducible] WC WOps WOpsG
attribute [local go_sem] WOps WOp callOf gtmp gval gvalT evOp evBuiltin binT St.ev constT St.m envOf Go.Pm.look St.upd St.putO St.put St.set allT allP T.toD unD1 T.cells T.asSlice D.cells D.sz eqTy binD unD cvD cv2 fillD ldT ldD TyI.agg allD splice isSome' cut bnd resT resOf Done Option.all_some Option.all_none Option.getD_some Option.getD_none Option.bind_some Option.bind_none Option.map_some Option.map_none List.map List.map_cons List.map_nil List.cons_append List.nil_append List.append_nil List.take_succ_cons List.drop_succ_cons List.take_zero List.drop_zero List.take_nil List.drop_nil List.head?_cons List.length_cons List.length_nil List.getElem?_cons_zero List.getElem?_cons_succ List.getElem?_toArray List.all_cons List.all_nil ite_true ite_false if_true if_false Bool.not_false Bool.not_true decide_true decide_false and_true true_and and_self false_and and_false Bool.and_true Bool.true_and Bool.or_true Bool.true_or List.size_toArray seqFrom beq_self_eq_true BEq.rfl eq_self Nat.succ_ne_self false_or or_false Nat.zero_add Nat.add_zero Nat.not_lt_zero Nat.one_ne_zero tab2 tab3 tab4 tab5 tab9 tab22 tab24 tab25 tab27 tab30 tab54 tab57 tab78 tab85
theorem uWhole_size {s : ByteArray} {a : Int} {n : Nat} {r lo : Int} (h : (uWhole s a n r lo).2.2 = true) : (uWhole s a n r lo).2.1 = n := by
  unfold uWhole at h ⊢
  split
  · rename_i e; rw [e] at h; simp at h
  · rename_i e
    rw [e] at h
    simp only [] at h ⊢
    split
    · rename_i e2; rw [if_pos e2] at h; simp at h
    · rfl
theorem uDecode_size {s : ByteArray} {a : Int} (h : (uDecode s a).2.2 = true) : 1 ≤ (uDecode s a).2.1 ∧ (uDecode s a).2.1 ≤ 4 := by
  unfold uDecode at h ⊢
  split
  · rename_i e
    rw [dif_pos e] at h
    simp only [] at h ⊢
    split
    · simp
    · rename_i e1
      rw [if_neg e1] at h
      split
      · rename_i e2; rw [if_pos e2] at h; rw [uWhole_size h]; simp
      · rename_i e2
        rw [if_neg e2] at h
        split
        · rename_i e3; rw [if_pos e3] at h; rw [uWhole_size h]; simp
        · rename_i e3
          rw [if_neg e3] at h
          split
          · rename_i e4; rw [if_pos e4] at h; rw [uWhole_size h]; simp
          · rename_i e4; rw [if_neg e4] at h; simp at h
  · rename_i e
    rw [dif_neg e] at h
    simp at h
def uCnt (s : ByteArray) : Nat → Int → Int → Option Int
  | 0, _, n => some n
  | k + 1, a, n => if a < s.size then (if (uDecode s a).2.2 = true then uCnt s k (a + (uDecode s a).2.1) (IntKind.i64.wrap (n + 1)) else none) else some n
def uValid (s : ByteArray) : Bool := (uCnt s s.size 0 0).isSome
theorem uCnt_end {s : ByteArray} {k : Nat} {a n : Int} (h : ¬ a < s.size) : uCnt s k a n = some n := by
  cases k with
  | zero => rfl
  | succ k => rw [uCnt, if_neg h]
theorem count_spec (s : ByteArray) (hs : s.size < 4611686018427387904) : Pm.Spec X0.P 85 [.str s] [.int .i64 ((uCnt s s.size 0 0).getD 0), .bool (uValid s)] := by
  refine Spec.of fn85 rfl rfl (by show 1 ≤ 28; decide) ?_
  show WC X0 28 _ _ _
  (repeat refine wc_assoc ?_); refine wc_then (by simp only [go_sem, Nat.reduceAdd, Nat.reduceBEq, Nat.reduceEqDiff, Nat.reduceLT, Nat.reduceLeDiff, Nat.reduceMul, Nat.reduceSub, reduceCtorEq, reduceIte] <;> rfl) ?_
  (repeat refine wc_assoc ?_); refine wc_then (by simp only [go_sem, Nat.reduceAdd, Nat.reduceBEq, Nat.reduceEqDiff, Nat.reduceLT, Nat.reduceLeDiff, Nat.reduceMul, Nat.reduceSub, reduceCtorEq, reduceIte] <;> rfl) ?_
  (repeat refine wc_assoc ?_); refine wc_then (by simp only [go_sem, Nat.reduceAdd, Nat.reduceBEq, Nat.reduceEqDiff, Nat.reduceLT, Nat.reduceLeDiff, Nat.reduceMul, Nat.reduceSub, reduceCtorEq, reduceIte] <;> rfl) ?_
  refine wc_loopThen (σ0 := ⟨[(0, .d (.str s)), (4, .d (.int .i64 0)), (5, .d (.int .i64 0))], []⟩)
    (fun m σ => ∃ (a n : Int), 0 ≤ a ∧ (s.size : Int) - a ≤ m ∧ uCnt s s.size 0 0 = uCnt s m a n ∧ σ = ⟨[(0, .d (.str s)), (4, .d (.int .i64 n)), (5, .d (.int .i64 a))], []⟩) s.size
    (gh_keep [0, 4, 5] [] rfl rfl) ⟨0, 0, by omega, by omega, rfl, rfl⟩ ?_
  rintro m σ ⟨a, n, ha, hm, he, rfl⟩
  (repeat refine wc_assoc ?_); refine wc_then (by simp only [go_sem, Nat.reduceAdd, Nat.reduceBEq, Nat.reduceEqDiff, Nat.reduceLT, Nat.reduceLeDiff, Nat.reduceMul, Nat.reduceSub, reduceCtorEq, reduceIte] <;> rfl) ?_
  (repeat refine wc_assoc ?_); refine wc_condThen (by simp only [go_sem, Nat.reduceAdd, Nat.reduceBEq, Nat.reduceEqDiff, Nat.reduceLT, Nat.reduceLeDiff, Nat.reduceMul, Nat.reduceSub, reduceCtorEq, reduceIte] <;> rfl) (fun hc => ?_) (fun hc => ?_)
  · have hlt : a < s.size := by simpa using hc
    obtain ⟨m, rfl⟩ : ∃ m', m = m' + 1 := ⟨m - 1, by omega⟩
    rw [uCnt, if_pos hlt] at he
    refine wc_skip ?_
    refine wc_blockThen ?_
    have hsp := decode_spec s hs a ha
    have hsz := @uDecode_size s a
    generalize uDecode s a = D at *
    obtain ⟨r, z, ok⟩ := D
    simp only [] at hsp he hsz
    refine wc_then (by
      repeat (first
    | (apply wo_op (hg := rfl) (hc := rfl) (hd := rfl); (simp only [go_sem, Nat.reduceAdd, Nat.reduceBEq, Nat.reduceEqDiff, Nat.reduceLT, Nat.reduceLeDiff, Nat.reduceMul, Nat.reduceSub, reduceCtorEq, reduceIte] <;> rfl); (simp only [go_sem, Nat.reduceAdd, Nat.reduceBEq, Nat.reduceEqDiff, Nat.reduceLT, Nat.reduceLeDiff, Nat.reduceMul, Nat.reduceSub, reduceCtorEq, reduceIte] <;> rfl))
    | (apply wo_eff (hg := rfl) (hc := rfl) (hd := rfl); (simp only [go_sem, Nat.reduceAdd, Nat.reduceBEq, Nat.reduceEqDiff, Nat.reduceLT, Nat.reduceLeDiff, Nat.reduceMul, Nat.reduceSub, reduceCtorEq, reduceIte] <;> rfl); (simp only [go_sem, Nat.reduceAdd, Nat.reduceBEq, Nat.reduceEqDiff, Nat.reduceLT, Nat.reduceLeDiff, Nat.reduceMul, Nat.reduceSub, reduceCtorEq, reduceIte] <;> rfl))
    | (apply wo_gT (hg := rfl); (simp only [go_sem, Nat.reduceAdd, Nat.reduceBEq, Nat.reduceEqDiff, Nat.reduceLT, Nat.reduceLeDiff, Nat.reduceMul, Nat.reduceSub, reduceCtorEq, reduceIte] <;> rfl))
    | (apply wo_gU (hg := rfl) (hd := rfl); (simp only [go_sem, Nat.reduceAdd, Nat.reduceBEq, Nat.reduceEqDiff, Nat.reduceLT, Nat.reduceLeDiff, Nat.reduceMul, Nat.reduceSub, reduceCtorEq, reduceIte] <;> rfl); (simp only [go_sem, Nat.reduceAdd, Nat.reduceBEq, Nat.reduceEqDiff, Nat.reduceLT, Nat.reduceLeDiff, Nat.reduceMul, Nat.reduceSub, reduceCtorEq, reduceIte] <;> rfl))
    | (apply wo_gF (hg := rfl) (hd := rfl); (simp only [go_sem, Nat.reduceAdd, Nat.reduceBEq, Nat.reduceEqDiff, Nat.reduceLT, Nat.reduceLeDiff, Nat.reduceMul, Nat.reduceSub, reduceCtorEq, reduceIte] <;> rfl); (simp only [go_sem, Nat.reduceAdd, Nat.reduceBEq, Nat.reduceEqDiff, Nat.reduceLT, Nat.reduceLeDiff, Nat.reduceMul, Nat.reduceSub, reduceCtorEq, reduceIte] <;> rfl))
    | exact wo_nil rfl)
      refine wo_call rfl rfl (by simp only [go_sem, Nat.reduceAdd, Nat.reduceBEq, Nat.reduceEqDiff, Nat.reduceLT, Nat.reduceLeDiff, Nat.reduceMul, Nat.reduceSub, reduceCtorEq, reduceIte] <;> rfl) (by simp only [go_sem, Nat.reduceAdd, Nat.reduceBEq, Nat.reduceEqDiff, Nat.reduceLT, Nat.reduceLeDiff, Nat.reduceMul, Nat.reduceSub, reduceCtorEq, reduceIte] <;> rfl) (.refl _) ((hsp)) rfl (by simp only [go_sem, Nat.reduceAdd, Nat.reduceBEq, Nat.reduceEqDiff, Nat.reduceLT, Nat.reduceLeDiff, Nat.reduceMul, Nat.reduceSub, reduceCtorEq, reduceIte] <;> rfl) ?_
      repeat (first
    | (apply wo_op (hg := rfl) (hc := rfl) (hd := rfl); (simp only [go_sem, Nat.reduceAdd, Nat.reduceBEq, Nat.reduceEqDiff, Nat.reduceLT, Nat.reduceLeDiff, Nat.reduceMul, Nat.reduceSub, reduceCtorEq, reduceIte] <;> rfl); (simp only [go_sem, Nat.reduceAdd, Nat.reduceBEq, Nat.reduceEqDiff, Nat.reduceLT, Nat.reduceLeDiff, Nat.reduceMul, Nat.reduceSub, reduceCtorEq, reduceIte] <;> rfl))
    | (apply wo_eff (hg := rfl) (hc := rfl) (hd := rfl); (simp only [go_sem, Nat.reduceAdd, Nat.reduceBEq, Nat.reduceEqDiff, Nat.reduceLT, Nat.reduceLeDiff, Nat.reduceMul, Nat.reduceSub, reduceCtorEq, reduceIte] <;> rfl); (simp only [go_sem, Nat.reduceAdd, Nat.reduceBEq, Nat.reduceEqDiff, Nat.reduceLT, Nat.reduceLeDiff, Nat.reduceMul, Nat.reduceSub, reduceCtorEq, reduceIte] <;> rfl))
    | (apply wo_gT (hg := rfl); (simp only [go_sem, Nat.reduceAdd, Nat.reduceBEq, Nat.reduceEqDiff, Nat.reduceLT, Nat.reduceLeDiff, Nat.reduceMul, Nat.reduceSub, reduceCtorEq, reduceIte] <;> rfl))
    | (apply wo_gU (hg := rfl) (hd := rfl); (simp only [go_sem, Nat.reduceAdd, Nat.reduceBEq, Nat.reduceEqDiff, Nat.reduceLT, Nat.reduceLeDiff, Nat.reduceMul, Nat.reduceSub, reduceCtorEq, reduceIte] <;> rfl); (simp only [go_sem, Nat.reduceAdd, Nat.reduceBEq, Nat.reduceEqDiff, Nat.reduceLT, Nat.reduceLeDiff, Nat.reduceMul, Nat.reduceSub, reduceCtorEq, reduceIte] <;> rfl))
    | (apply wo_gF (hg := rfl) (hd := rfl); (simp only [go_sem, Nat.reduceAdd, Nat.reduceBEq, Nat.reduceEqDiff, Nat.reduceLT, Nat.reduceLeDiff, Nat.reduceMul, Nat.reduceSub, reduceCtorEq, reduceIte] <;> rfl); (simp only [go_sem, Nat.reduceAdd, Nat.reduceBEq, Nat.reduceEqDiff, Nat.reduceLT, Nat.reduceLeDiff, Nat.reduceMul, Nat.reduceSub, reduceCtorEq, reduceIte] <;> rfl))
    | exact wo_nil rfl)) ?_
    (repeat refine wc_assoc ?_); refine wc_then (by simp only [go_sem, Nat.reduceAdd, Nat.reduceBEq, Nat.reduceEqDiff, Nat.reduceLT, Nat.reduceLeDiff, Nat.reduceMul, Nat.reduceSub, reduceCtorEq, reduceIte] <;> rfl) ?_
    (repeat refine wc_assoc ?_); refine wc_condThen (by simp only [go_sem, Nat.reduceAdd, Nat.reduceBEq, Nat.reduceEqDiff, Nat.reduceLT, Nat.reduceLeDiff, Nat.reduceMul, Nat.reduceSub, reduceCtorEq, reduceIte] <;> rfl) (fun hc => ?_) (fun hc => ?_)
    · have hok : ok = false := by simpa using hc
      subst hok
      (repeat refine wc_assoc ?_); refine wc_then (by simp only [go_sem, Nat.reduceAdd, Nat.reduceBEq, Nat.reduceEqDiff, Nat.reduceLT, Nat.reduceLeDiff, Nat.reduceMul, Nat.reduceSub, reduceCtorEq, reduceIte] <;> rfl) ?_
      refine wc_retThen ⟨.inr rfl, _, (by simp only [Try.f85, go_sem, Nat.reduceAdd, Nat.reduceBEq, Nat.reduceEqDiff, Nat.reduceLT, Nat.reduceLeDiff, Nat.reduceMul, Nat.reduceSub, reduceCtorEq, reduceIte] <;> rfl), ?_⟩
      simp only [uValid, he]
      exact .refl _
    · have hok : ok = true := by simpa using hc
      subst hok
      rw [if_pos rfl] at he
      have hsz := hsz rfl
      have hw : IntKind.i64.wrap (a + z) = a + z := by rw [IntKind.wrap_i64]; omega
      refine wc_skip ?_
      refine wc_last (by simp only [go_sem, Nat.reduceAdd, Nat.reduceBEq, Nat.reduceEqDiff, Nat.reduceLT, Nat.reduceLeDiff, Nat.reduceMul, Nat.reduceSub, reduceCtorEq, reduceIte] <;> rfl) ?_
      refine blk_normal ?_
      refine wc_last (by simp only [go_sem, Nat.reduceAdd, Nat.reduceBEq, Nat.reduceEqDiff, Nat.reduceLT, Nat.reduceLeDiff, Nat.reduceMul, Nat.reduceSub, reduceCtorEq, reduceIte] <;> rfl) ?_
      refine loop_next m (by omega) (gh_keep [0, 4, 5] [] rfl rfl) ⟨a + z, IntKind.i64.wrap (n + 1), by omega, by omega, he, ?_⟩
      simp only [hw]
      rfl
  · have hlt : ¬ a < s.size := by simpa using hc
    refine wc_exitThen (loop_exit ?_)
    (repeat refine wc_assoc ?_); refine wc_then (by simp only [go_sem, Nat.reduceAdd, Nat.reduceBEq, Nat.reduceEqDiff, Nat.reduceLT, Nat.reduceLeDiff, Nat.reduceMul, Nat.reduceSub, reduceCtorEq, reduceIte] <;> rfl) ?_
    refine wc_ret ⟨.inr rfl, _, (by simp only [Try.f85, go_sem, Nat.reduceAdd, Nat.reduceBEq, Nat.reduceEqDiff, Nat.reduceLT, Nat.reduceLeDiff, Nat.reduceMul, Nat.reduceSub, reduceCtorEq, reduceIte] <;> rfl), ?_⟩
    rw [uCnt_end hlt] at he
    simp only [uValid, he]
    exact .refl _
theorem utf_spec (s : ByteArray) (hs : s.size < 4611686018427387904) : Pm.Spec X0.P 80 [.str s] [.bool (uValid s)] := by
  refine Spec.of fn80 rfl rfl (by show 1 ≤ 11; decide) ?_
  show WC X0 11 _ _ _
  (repeat refine wc_assoc ?_); refine wc_then (by simp only [go_sem, Nat.reduceAdd, Nat.reduceBEq, Nat.reduceEqDiff, Nat.reduceLT, Nat.reduceLeDiff, Nat.reduceMul, Nat.reduceSub, reduceCtorEq, reduceIte] <;> rfl) ?_
  refine wc_then (by
    repeat (first
    | (apply wo_op (hg := rfl) (hc := rfl) (hd := rfl); (simp only [go_sem, Nat.reduceAdd, Nat.reduceBEq, Nat.reduceEqDiff, Nat.reduceLT, Nat.reduceLeDiff, Nat.reduceMul, Nat.reduceSub, reduceCtorEq, reduceIte] <;> rfl); (simp only [go_sem, Nat.reduceAdd, Nat.reduceBEq, Nat.reduceEqDiff, Nat.reduceLT, Nat.reduceLeDiff, Nat.reduceMul, Nat.reduceSub, reduceCtorEq, reduceIte] <;> rfl))
    | (apply wo_eff (hg := rfl) (hc := rfl) (hd := rfl); (simp only [go_sem, Nat.reduceAdd, Nat.reduceBEq, Nat.reduceEqDiff, Nat.reduceLT, Nat.reduceLeDiff, Nat.reduceMul, Nat.reduceSub, reduceCtorEq, reduceIte] <;> rfl); (simp only [go_sem, Nat.reduceAdd, Nat.reduceBEq, Nat.reduceEqDiff, Nat.reduceLT, Nat.reduceLeDiff, Nat.reduceMul, Nat.reduceSub, reduceCtorEq, reduceIte] <;> rfl))
    | (apply wo_gT (hg := rfl); (simp only [go_sem, Nat.reduceAdd, Nat.reduceBEq, Nat.reduceEqDiff, Nat.reduceLT, Nat.reduceLeDiff, Nat.reduceMul, Nat.reduceSub, reduceCtorEq, reduceIte] <;> rfl))
    | (apply wo_gU (hg := rfl) (hd := rfl); (simp only [go_sem, Nat.reduceAdd, Nat.reduceBEq, Nat.reduceEqDiff, Nat.reduceLT, Nat.reduceLeDiff, Nat.reduceMul, Nat.reduceSub, reduceCtorEq, reduceIte] <;> rfl); (simp only [go_sem, Nat.reduceAdd, Nat.reduceBEq, Nat.reduceEqDiff, Nat.reduceLT, Nat.reduceLeDiff, Nat.reduceMul, Nat.reduceSub, reduceCtorEq, reduceIte] <;> rfl))
    | (apply wo_gF (hg := rfl) (hd := rfl); (simp only [go_sem, Nat.reduceAdd, Nat.reduceBEq, Nat.reduceEqDiff, Nat.reduceLT, Nat.reduceLeDiff, Nat.reduceMul, Nat.reduceSub, reduceCtorEq, reduceIte] <;> rfl); (simp only [go_sem, Nat.reduceAdd, Nat.reduceBEq, Nat.reduceEqDiff, Nat.reduceLT, Nat.reduceLeDiff, Nat.reduceMul, Nat.reduceSub, reduceCtorEq, reduceIte] <;> rfl))
    | exact wo_nil rfl)
    refine wo_call rfl rfl (by simp only [go_sem, Nat.reduceAdd, Nat.reduceBEq, Nat.reduceEqDiff, Nat.reduceLT, Nat.reduceLeDiff, Nat.reduceMul, Nat.reduceSub, reduceCtorEq, reduceIte] <;> rfl) (by simp only [go_sem, Nat.reduceAdd, Nat.reduceBEq, Nat.reduceEqDiff, Nat.reduceLT, Nat.reduceLeDiff, Nat.reduceMul, Nat.reduceSub, reduceCtorEq, reduceIte] <;> rfl) (.refl _) ((count_spec s hs)) rfl (by simp only [go_sem, Nat.reduceAdd, Nat.reduceBEq, Nat.reduceEqDiff, Nat.reduceLT, Nat.reduceLeDiff, Nat.reduceMul, Nat.reduceSub, reduceCtorEq, reduceIte] <;> rfl) ?_
    repeat (first
    | (apply wo_op (hg := rfl) (hc := rfl) (hd := rfl); (simp only [go_sem, Nat.reduceAdd, Nat.reduceBEq, Nat.reduceEqDiff, Nat.reduceLT, Nat.reduceLeDiff, Nat.reduceMul, Nat.reduceSub, reduceCtorEq, reduceIte] <;> rfl); (simp only [go_sem, Nat.reduceAdd, Nat.reduceBEq, Nat.reduceEqDiff, Nat.reduceLT, Nat.reduceLeDiff, Nat.reduceMul, Nat.reduceSub, reduceCtorEq, reduceIte] <;> rfl))
    | (apply wo_eff (hg := rfl) (hc := rfl) (hd := rfl); (simp only [go_sem, Nat.reduceAdd, Nat.reduceBEq, Nat.reduceEqDiff, Nat.reduceLT, Nat.reduceLeDiff, Nat.reduceMul, Nat.reduceSub, reduceCtorEq, reduceIte] <;> rfl); (simp only [go_sem, Nat.reduceAdd, Nat.reduceBEq, Nat.reduceEqDiff, Nat.reduceLT, Nat.reduceLeDiff, Nat.reduceMul, Nat.reduceSub, reduceCtorEq, reduceIte] <;> rfl))
    | (apply wo_gT (hg := rfl); (simp only [go_sem, Nat.reduceAdd, Nat.reduceBEq, Nat.reduceEqDiff, Nat.reduceLT, Nat.reduceLeDiff, Nat.reduceMul, Nat.reduceSub, reduceCtorEq, reduceIte] <;> rfl))
    | (apply wo_gU (hg := rfl) (hd := rfl); (simp only [go_sem, Nat.reduceAdd, Nat.reduceBEq, Nat.reduceEqDiff, Nat.reduceLT, Nat.reduceLeDiff, Nat.reduceMul, Nat.reduceSub, reduceCtorEq, reduceIte] <;> rfl); (simp only [go_sem, Nat.reduceAdd, Nat.reduceBEq, Nat.reduceEqDiff, Nat.reduceLT, Nat.reduceLeDiff, Nat.reduceMul, Nat.reduceSub, reduceCtorEq, reduceIte] <;> rfl))
    | (apply wo_gF (hg := rfl) (hd := rfl); (simp only [go_sem, Nat.reduceAdd, Nat.reduceBEq, Nat.reduceEqDiff, Nat.reduceLT, Nat.reduceLeDiff, Nat.reduceMul, Nat.reduceSub, reduceCtorEq, reduceIte] <;> rfl); (simp only [go_sem, Nat.reduceAdd, Nat.reduceBEq, Nat.reduceEqDiff, Nat.reduceLT, Nat.reduceLeDiff, Nat.reduceMul, Nat.reduceSub, reduceCtorEq, reduceIte] <;> rfl))
    | exact wo_nil rfl)) ?_
  (repeat refine wc_assoc ?_); refine wc_then (by simp only [go_sem, Nat.reduceAdd, Nat.reduceBEq, Nat.reduceEqDiff, Nat.reduceLT, Nat.reduceLeDiff, Nat.reduceMul, Nat.reduceSub, reduceCtorEq, reduceIte] <;> rfl) ?_
  refine wc_ret ⟨.inr rfl, _, (by simp only [Try.f80, go_sem, Nat.reduceAdd, Nat.reduceBEq, Nat.reduceEqDiff, Nat.reduceLT, Nat.reduceLeDiff, Nat.reduceMul, Nat.reduceSub, reduceCtorEq, reduceIte] <;> rfl), ?_⟩
  exact .refl _
end Go.Proofs.Ytnkknmdpakebhaa
