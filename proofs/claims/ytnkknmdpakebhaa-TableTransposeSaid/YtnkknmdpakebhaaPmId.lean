/- ops: groups. -/
import Derived.Test.YtnkknmdpakebhaaPmIc
set_option linter.unusedSimpArgs false
set_option linter.unusedVariables false
set_option maxHeartbeats 4000000
namespace Go.Proofs.Ytnkknmdpakebhaa
open Go Go.Pm
attribute [local irreducible] WC WOps WOpsG
attribute [local go_sem] WOps WOp callOf gtmp gval gvalT evOp evBuiltin binT St.ev constT St.m envOf Go.Pm.look St.upd St.putO St.put St.set allT allP T.toD unD1 T.cells T.asSlice D.cells D.sz eqTy binD unD cvD cv2 fillD ldT ldD TyI.agg allD splice isSome' cut bnd resT resOf Done Option.all_some Option.all_none Option.getD_some Option.getD_none Option.bind_some Option.bind_none Option.map_some Option.map_none List.map List.map_cons List.map_nil List.cons_append List.nil_append List.append_nil List.take_succ_cons List.drop_succ_cons List.take_zero List.drop_zero List.take_nil List.drop_nil List.head?_cons List.length_cons List.length_nil List.getElem?_cons_zero List.getElem?_cons_succ List.getElem?_toArray List.all_cons List.all_nil ite_true ite_false if_true if_false Bool.not_false Bool.not_true decide_true decide_false and_true true_and and_self false_and and_false Bool.and_true Bool.true_and Bool.or_true Bool.true_or List.size_toArray seqFrom beq_self_eq_true BEq.rfl eq_self Nat.succ_ne_self false_or or_false Nat.zero_add Nat.add_zero Nat.not_lt_zero Nat.one_ne_zero tab2_2 tab2_3 tab2_4 tab2_5 tab2_9 tab2_22 tab2_24 tab2_25 tab2_27 tab2_30 tab2_54 tab2_57 tab2_78 tab2_85
def grpGo (c : Int → Int → Int) (done : List (List Int)) (cur : List Int) (p : Int) : List Int → List (List Int)
  | [] => done ++ [cur]
  | k :: r => if c p k ≠ 0 then grpGo c (done ++ [cur]) [k] k r else grpGo c done (cur ++ [k]) k r
def grp (c : Int → Int → Int) : List Int → List (List Int)
  | [] => []
  | k :: r => grpGo c [] [k] k r
def gD (g : List Int) : D := .slice (g.map (D.int .i64))
def grpRes (c : Int → Int → Int) (k k' : Int) (n n' : Nat) (O : List Int) : List (List Int) × Int :=
  if ((k != 5) || (k' != 5)) = true then ([], 12) else if ((n : Int) != (n' : Int)) = true then ([], 3) else (grp c O, 0)
theorem zc (n : Nat) : zcells n (.int .i64 0) = ((List.replicate n (0 : Int)).map (D.int .i64)).map T.d := by
  induction n with
  | zero => rfl
  | succ n ih =>
    unfold zcells at ih ⊢
    rw [List.replicate_succ, List.flatten_cons, ih, List.replicate_succ]
    rfl
theorem fill_set {n j : Nat} (h : j < n) : (((List.range j).map Int.ofNat) ++ List.replicate (n - j) 0).set j (j : Int) = ((List.range (j + 1)).map Int.ofNat) ++ List.replicate (n - (j + 1)) 0 := by
  rw [List.set_append_right _ _ (by simp), List.range_succ, show n - j = (n - (j + 1)) + 1 by omega, List.replicate_succ]
  simp
theorem groups_spec (k i : Int) (s : ByteArray) (ks : List ByteArray) (es : List V) (k' i' : Int) (s' : ByteArray) (ks' : List ByteArray) (es' : List V) (O : List Int)
    (hO : k = 5 → k' = 5 → es.length = es'.length → es.length ≤ 1048576 ∧ O.length = es.length ∧ (∀ x ∈ O, 0 ≤ x ∧ x < (es'.length : Int)) ∧
      Pm.SpecR X0.P 74 [.view 0 1 0 es.length, .d (.fn 73 [.ptr [.int .i64 k', .int .i64 i', .str s', .slice (ks'.map .str), .slice (encL es')]])] [((List.range es.length).map Int.ofNat).map (D.int .i64)] [] [O.map (D.int .i64)]) :
    Pm.Spec X0.P 55 [(V.mk k i s ks es).enc, (V.mk k' i' s' ks' es').enc] [.slice ((grpRes (kc es') k k' es.length es'.length O).1.map gD), .int .i64 (grpRes (kc es') k k' es.length es'.length O).2] := by
  refine Spec.of (x := X2) fn55 rfl rfl (by show 2 ≤ 86; decide) ?_
  show WC X2 86 _ _ _
  have hR : grpRes (kc es') k k' es.length es'.length O = _ := rfl
  conv at hR => rhs; unfold grpRes
  generalize grpRes (kc es') k k' es.length es'.length O = R at *
  simp only [V.enc]
  (repeat refine wc_assoc ?_); refine wc_then (by simp only [go_sem, Nat.reduceAdd, Nat.reduceBEq, Nat.reduceEqDiff, Nat.reduceLT, Nat.reduceLeDiff, Nat.reduceMul, Nat.reduceSub, reduceCtorEq, reduceIte] <;> rfl) ?_
  refine wc_blockThen ?_
  generalize hK : BlkK X2 86 0 _ _ = K
  have hret : ∀ σ', Done X2 Try.f55 [.slice (R.1.map gD), .int .i64 R.2] .ret σ' → K .ret σ' := fun σ' h => by subst hK; exact h
  have hrest : ∀ σ', k = 5 → k' = 5 → es.length = es'.length → R = (grp (kc es') O, 0) → Gh X2.refs σ' ⟨[(2, .obj 2 0 0), (3, .obj 3 0 0)], [(3, .box 0 [.d (.int .i64 k'), .d (.int .i64 i'), .d (.str s'), .d (.slice (ks'.map .str)), .d (.slice (encL es'))]), (2, .box 0 [.d (.int .i64 k), .d (.int .i64 i), .d (.str s), .d (.slice (ks.map .str)), .d (.slice (encL es))])]⟩ → K .normal σ' := by
    intro σ' h5 h5' hl hRr hg
    clear hR
    obtain ⟨hbig, hOl, hOm, hsort⟩ := hO h5 h5' hl
    subst hK
    refine blk_normal ?_
    generalize hn : es.length = n at *
    have hlen : (encL es).length = n := by rw [encL_length, hn]
    have z1 : (0 : Int) ≤ (n : Int) := by omega
    have z2 : (n : Int) * 8 ≤ 140737488355328 := by omega
    have z3 : (n : Int) ≤ 140737488355328 := by omega
    (repeat refine wc_assoc ?_);  refine wc_ghost hg (by
      repeat (first
    | (apply wo_op (hg := rfl) (hc := rfl) (hd := rfl); (simp only [hlen, go_sem, Nat.reduceAdd, Nat.reduceBEq, Nat.reduceEqDiff, Nat.reduceLT, Nat.reduceLeDiff, Nat.reduceMul, Nat.reduceSub, reduceCtorEq, reduceIte] <;> rfl); (simp only [go_sem, Nat.reduceAdd, Nat.reduceBEq, Nat.reduceEqDiff, Nat.reduceLT, Nat.reduceLeDiff, Nat.reduceMul, Nat.reduceSub, reduceCtorEq, reduceIte] <;> rfl))
    | (apply wo_eff (hg := rfl) (hc := rfl) (hd := rfl); (simp only [hlen, go_sem, Nat.reduceAdd, Nat.reduceBEq, Nat.reduceEqDiff, Nat.reduceLT, Nat.reduceLeDiff, Nat.reduceMul, Nat.reduceSub, reduceCtorEq, reduceIte] <;> rfl); (simp only [go_sem, Nat.reduceAdd, Nat.reduceBEq, Nat.reduceEqDiff, Nat.reduceLT, Nat.reduceLeDiff, Nat.reduceMul, Nat.reduceSub, reduceCtorEq, reduceIte] <;> rfl))
    | (apply wo_gT (hg := rfl); (simp only [hlen, go_sem, Nat.reduceAdd, Nat.reduceBEq, Nat.reduceEqDiff, Nat.reduceLT, Nat.reduceLeDiff, Nat.reduceMul, Nat.reduceSub, reduceCtorEq, reduceIte] <;> rfl))
    | (apply wo_gU (hg := rfl) (hd := rfl); (simp only [hlen, go_sem, Nat.reduceAdd, Nat.reduceBEq, Nat.reduceEqDiff, Nat.reduceLT, Nat.reduceLeDiff, Nat.reduceMul, Nat.reduceSub, reduceCtorEq, reduceIte] <;> rfl); (simp only [go_sem, Nat.reduceAdd, Nat.reduceBEq, Nat.reduceEqDiff, Nat.reduceLT, Nat.reduceLeDiff, Nat.reduceMul, Nat.reduceSub, reduceCtorEq, reduceIte] <;> rfl))
    | (apply wo_gF (hg := rfl) (hd := rfl); (simp only [hlen, go_sem, Nat.reduceAdd, Nat.reduceBEq, Nat.reduceEqDiff, Nat.reduceLT, Nat.reduceLeDiff, Nat.reduceMul, Nat.reduceSub, reduceCtorEq, reduceIte] <;> rfl); (simp only [go_sem, Nat.reduceAdd, Nat.reduceBEq, Nat.reduceEqDiff, Nat.reduceLT, Nat.reduceLeDiff, Nat.reduceMul, Nat.reduceSub, reduceCtorEq, reduceIte] <;> rfl))
    | exact wo_nil rfl)
      (apply wo_x (hg := rfl) (hc := rfl) (hd := rfl); (first | rfl | (simp only [z1, z2, z3, zc, Int.toNat_natCast, Int.le_refl, Int.cast_ofNat_Int, go_sem, Nat.reduceAdd, Nat.reduceBEq, Nat.reduceEqDiff, Nat.reduceLT, Nat.reduceLeDiff, Nat.reduceMul, Nat.reduceSub, reduceCtorEq, reduceIte] <;> rfl)); (simp only [z1, z2, z3, zc, Int.toNat_natCast, Int.le_refl, Int.cast_ofNat_Int, evX, srcT, T.emp, List.flatMap_cons, List.flatMap_nil, go_sem, Nat.reduceAdd, Nat.reduceBEq, Nat.reduceEqDiff, Nat.reduceLT, Nat.reduceLeDiff, Nat.reduceMul, Nat.reduceSub, reduceCtorEq, reduceIte] <;> rfl); (simp only [z1, z2, z3, zc, Int.toNat_natCast, Int.le_refl, Int.cast_ofNat_Int, go_sem, Nat.reduceAdd, Nat.reduceBEq, Nat.reduceEqDiff, Nat.reduceLT, Nat.reduceLeDiff, Nat.reduceMul, Nat.reduceSub, reduceCtorEq, reduceIte] <;> rfl))
      repeat (first
    | (apply wo_op (hg := rfl) (hc := rfl) (hd := rfl); (simp only [go_sem, Nat.reduceAdd, Nat.reduceBEq, Nat.reduceEqDiff, Nat.reduceLT, Nat.reduceLeDiff, Nat.reduceMul, Nat.reduceSub, reduceCtorEq, reduceIte] <;> rfl); (simp only [go_sem, Nat.reduceAdd, Nat.reduceBEq, Nat.reduceEqDiff, Nat.reduceLT, Nat.reduceLeDiff, Nat.reduceMul, Nat.reduceSub, reduceCtorEq, reduceIte] <;> rfl))
    | (apply wo_eff (hg := rfl) (hc := rfl) (hd := rfl); (simp only [go_sem, Nat.reduceAdd, Nat.reduceBEq, Nat.reduceEqDiff, Nat.reduceLT, Nat.reduceLeDiff, Nat.reduceMul, Nat.reduceSub, reduceCtorEq, reduceIte] <;> rfl); (simp only [go_sem, Nat.reduceAdd, Nat.reduceBEq, Nat.reduceEqDiff, Nat.reduceLT, Nat.reduceLeDiff, Nat.reduceMul, Nat.reduceSub, reduceCtorEq, reduceIte] <;> rfl))
    | (apply wo_gT (hg := rfl); (simp only [go_sem, Nat.reduceAdd, Nat.reduceBEq, Nat.reduceEqDiff, Nat.reduceLT, Nat.reduceLeDiff, Nat.reduceMul, Nat.reduceSub, reduceCtorEq, reduceIte] <;> rfl))
    | (apply wo_gU (hg := rfl) (hd := rfl); (simp only [go_sem, Nat.reduceAdd, Nat.reduceBEq, Nat.reduceEqDiff, Nat.reduceLT, Nat.reduceLeDiff, Nat.reduceMul, Nat.reduceSub, reduceCtorEq, reduceIte] <;> rfl); (simp only [go_sem, Nat.reduceAdd, Nat.reduceBEq, Nat.reduceEqDiff, Nat.reduceLT, Nat.reduceLeDiff, Nat.reduceMul, Nat.reduceSub, reduceCtorEq, reduceIte] <;> rfl))
    | (apply wo_gF (hg := rfl) (hd := rfl); (simp only [go_sem, Nat.reduceAdd, Nat.reduceBEq, Nat.reduceEqDiff, Nat.reduceLT, Nat.reduceLeDiff, Nat.reduceMul, Nat.reduceSub, reduceCtorEq, reduceIte] <;> rfl); (simp only [go_sem, Nat.reduceAdd, Nat.reduceBEq, Nat.reduceEqDiff, Nat.reduceLT, Nat.reduceLeDiff, Nat.reduceMul, Nat.reduceSub, reduceCtorEq, reduceIte] <;> rfl))
    | exact wo_nil rfl)) ?_
    (repeat refine wc_assoc ?_); refine wc_then (by simp only [go_sem, Nat.reduceAdd, Nat.reduceBEq, Nat.reduceEqDiff, Nat.reduceLT, Nat.reduceLeDiff, Nat.reduceMul, Nat.reduceSub, reduceCtorEq, reduceIte] <;> rfl) ?_
    refine wc_loopThen (σ0 := ⟨[(2, .obj 2 0 0), (3, .obj 3 0 0), (6, .view 32 0 1 0 n), (34, .d (.int .i64 (n : Nat))), (35, .d (.int .i64 (0 : Nat)))], [(32, .box 0 (((List.replicate n (0 : Int)).map (D.int .i64)).map T.d)), (3, .box 0 [.d (.int .i64 k'), .d (.int .i64 i'), .d (.str s'), .d (.slice (ks'.map .str)), .d (.slice (encL es'))]), (2, .box 0 [.d (.int .i64 k), .d (.int .i64 i), .d (.str s), .d (.slice (ks.map .str)), .d (.slice (encL es))])]⟩)
      (fun m σ => ∃ (j : Nat) (L : List Int), m + j = n ∧ L = (List.range j).map Int.ofNat ++ List.replicate (n - j) 0 ∧ σ = ⟨[(2, .obj 2 0 0), (3, .obj 3 0 0), (6, .view 32 0 1 0 n), (34, .d (.int .i64 (n : Nat))), (35, .d (.int .i64 (j : Nat)))], [(32, .box 0 ((L.map (D.int .i64)).map T.d)), (3, .box 0 [.d (.int .i64 k'), .d (.int .i64 i'), .d (.str s'), .d (.slice (ks'.map .str)), .d (.slice (encL es'))]), (2, .box 0 [.d (.int .i64 k), .d (.int .i64 i), .d (.str s), .d (.slice (ks.map .str)), .d (.slice (encL es))])]⟩) n
      (gh_keep [2, 3, 6, 34, 35] [32, 3, 2] rfl (by simp [St.keep, St.kp, Go.Pm.look, lowO, lowT, isSome', Function.comp_def, St.set, St.put, D.cells])) ⟨0, _, by omega, rfl, by simp⟩ ?_
    · rintro m σ ⟨j, L, hm, hL, rfl⟩
      have hLl : L.length = n := by rw [hL]; simp; omega
      (repeat refine wc_assoc ?_); refine wc_then (by simp only [go_sem, Nat.reduceAdd, Nat.reduceBEq, Nat.reduceEqDiff, Nat.reduceLT, Nat.reduceLeDiff, Nat.reduceMul, Nat.reduceSub, reduceCtorEq, reduceIte] <;> rfl) ?_
      (repeat refine wc_assoc ?_); refine wc_condThen (by simp only [go_sem, Nat.reduceAdd, Nat.reduceBEq, Nat.reduceEqDiff, Nat.reduceLT, Nat.reduceLeDiff, Nat.reduceMul, Nat.reduceSub, reduceCtorEq, reduceIte] <;> rfl) (fun hc => ?_) (fun hc => ?_)
      · have hj : j < n := by simpa using hc
        refine wc_skip ?_
        refine wc_blockThen ?_
        (repeat refine wc_assoc ?_); refine wc_then (by simp only [go_sem, Nat.reduceAdd, Nat.reduceBEq, Nat.reduceEqDiff, Nat.reduceLT, Nat.reduceLeDiff, Nat.reduceMul, Nat.reduceSub, reduceCtorEq, reduceIte] <;> rfl) ?_
        have l1 : (j : Int) < (n : Int) := by omega
        have a1 := ar_set (L := L) (j := j) (j : Int) (by omega)
        have e1 : j + 1 ≤ L.length := by omega
        have hw : IntKind.i64.wrap ((j : Int) + 1) = ((j + 1 : Nat) : Int) := by rw [IntKind.wrap_i64]; omega
        refine wc_last (by
          repeat (first
    | (apply wo_op (hg := rfl) (hc := rfl) (hd := rfl); (simp only [l1, a1, e1, List.length_map, Nat.mul_one, Int.toNat_natCast, Int.natCast_nonneg, go_sem, Nat.reduceAdd, Nat.reduceBEq, Nat.reduceEqDiff, Nat.reduceLT, Nat.reduceLeDiff, Nat.reduceMul, Nat.reduceSub, reduceCtorEq, reduceIte] <;> rfl); (simp only [go_sem, Nat.reduceAdd, Nat.reduceBEq, Nat.reduceEqDiff, Nat.reduceLT, Nat.reduceLeDiff, Nat.reduceMul, Nat.reduceSub, reduceCtorEq, reduceIte] <;> rfl))
    | (apply wo_eff (hg := rfl) (hc := rfl) (hd := rfl); (simp only [l1, a1, e1, List.length_map, Nat.mul_one, Int.toNat_natCast, Int.natCast_nonneg, go_sem, Nat.reduceAdd, Nat.reduceBEq, Nat.reduceEqDiff, Nat.reduceLT, Nat.reduceLeDiff, Nat.reduceMul, Nat.reduceSub, reduceCtorEq, reduceIte] <;> rfl); (simp only [go_sem, Nat.reduceAdd, Nat.reduceBEq, Nat.reduceEqDiff, Nat.reduceLT, Nat.reduceLeDiff, Nat.reduceMul, Nat.reduceSub, reduceCtorEq, reduceIte] <;> rfl))
    | (apply wo_gT (hg := rfl); (simp only [l1, a1, e1, List.length_map, Nat.mul_one, Int.toNat_natCast, Int.natCast_nonneg, go_sem, Nat.reduceAdd, Nat.reduceBEq, Nat.reduceEqDiff, Nat.reduceLT, Nat.reduceLeDiff, Nat.reduceMul, Nat.reduceSub, reduceCtorEq, reduceIte] <;> rfl))
    | (apply wo_gU (hg := rfl) (hd := rfl); (simp only [l1, a1, e1, List.length_map, Nat.mul_one, Int.toNat_natCast, Int.natCast_nonneg, go_sem, Nat.reduceAdd, Nat.reduceBEq, Nat.reduceEqDiff, Nat.reduceLT, Nat.reduceLeDiff, Nat.reduceMul, Nat.reduceSub, reduceCtorEq, reduceIte] <;> rfl); (simp only [go_sem, Nat.reduceAdd, Nat.reduceBEq, Nat.reduceEqDiff, Nat.reduceLT, Nat.reduceLeDiff, Nat.reduceMul, Nat.reduceSub, reduceCtorEq, reduceIte] <;> rfl))
    | (apply wo_gF (hg := rfl) (hd := rfl); (simp only [l1, a1, e1, List.length_map, Nat.mul_one, Int.toNat_natCast, Int.natCast_nonneg, go_sem, Nat.reduceAdd, Nat.reduceBEq, Nat.reduceEqDiff, Nat.reduceLT, Nat.reduceLeDiff, Nat.reduceMul, Nat.reduceSub, reduceCtorEq, reduceIte] <;> rfl); (simp only [go_sem, Nat.reduceAdd, Nat.reduceBEq, Nat.reduceEqDiff, Nat.reduceLT, Nat.reduceLeDiff, Nat.reduceMul, Nat.reduceSub, reduceCtorEq, reduceIte] <;> rfl))
    | exact wo_nil rfl)) ?_
        refine blk_normal ?_
        refine wc_last (by simp only [go_sem, Nat.reduceAdd, Nat.reduceBEq, Nat.reduceEqDiff, Nat.reduceLT, Nat.reduceLeDiff, Nat.reduceMul, Nat.reduceSub, reduceCtorEq, reduceIte] <;> rfl) ?_
        refine loop_next (σ1 := ⟨[(2, .obj 2 0 0), (3, .obj 3 0 0), (6, .view 32 0 1 0 n), (34, .d (.int .i64 (n : Nat))), (35, .d (.int .i64 (j + 1 : Nat)))], [(32, .box 0 (((L.set j (j : Int)).map (D.int .i64)).map T.d)), (3, .box 0 [.d (.int .i64 k'), .d (.int .i64 i'), .d (.str s'), .d (.slice (ks'.map .str)), .d (.slice (encL es'))]), (2, .box 0 [.d (.int .i64 k), .d (.int .i64 i), .d (.str s), .d (.slice (ks.map .str)), .d (.slice (encL es))])]⟩) (m - 1) (by omega) (gh_keep [2, 3, 6, 34, 35] [32, 3, 2] rfl (by rw [hw]; exact (by simp [St.keep, St.kp, Go.Pm.look, lowO, lowT, isSome', Function.comp_def, St.set, St.put, D.cells]))) ⟨j + 1, L.set j (j : Int), by omega, by rw [hL]; exact fill_set hj, rfl⟩
      have hj : j = n := by simp at hc; omega
      subst hj
      have hL : L = (List.range j).map Int.ofNat := by rw [hL]; simp
      subst hL
      refine wc_exitThen (loop_exit ?_)
      have hg2 : ∀ σ', Gh X2.refs σ' ⟨[(2, .obj 2 0 0), (3, .obj 3 0 0), (6, .view 32 0 1 0 j)], [(32, .box 0 ((((List.range j).map Int.ofNat).map (D.int .i64)).map T.d)), (3, .box 0 [.d (.int .i64 k'), .d (.int .i64 i'), .d (.str s'), .d (.slice (ks'.map .str)), .d (.slice (encL es'))]), (2, .box 0 [.d (.int .i64 k), .d (.int .i64 i), .d (.str s), .d (.slice (ks.map .str)), .d (.slice (encL es))])]⟩ → Gh X2.refs σ' ⟨[(3, .d (.ptr [.int .i64 k', .int .i64 i', .str s', .slice (ks'.map .str), .slice (encL es')])), (6, .view 32 0 1 0 j)], [(32, .box 0 ((((List.range j).map Int.ofNat).map (D.int .i64)).map T.d))]⟩ := by
        intro σ' h
        refine .trans h (.trans (.freeze (t := 3) (id := 3) (g := 0) rfl rfl rfl rfl) (gh_keep [3, 6] [32] rfl (by simp [St.keep, St.kp, Go.Pm.look, lowO, lowT, isSome', Function.comp_def, St.set, St.put, D.cells])))
      (repeat refine wc_assoc ?_);  refine wc_ghost (hg2 _ (gh_keep [2, 3, 6] [32, 3, 2] rfl (by simp [St.keep, St.kp, Go.Pm.look, lowO, lowT, isSome', Function.comp_def, St.set, St.put, D.cells]))) (by simp only [go_sem, Nat.reduceAdd, Nat.reduceBEq, Nat.reduceEqDiff, Nat.reduceLT, Nat.reduceLeDiff, Nat.reduceMul, Nat.reduceSub, reduceCtorEq, reduceIte] <;> rfl) ?_
      (repeat refine wc_assoc ?_);  refine wc_then (by
        repeat (first
    | (apply wo_op (hg := rfl) (hc := rfl) (hd := rfl); (simp only [go_sem, Nat.reduceAdd, Nat.reduceBEq, Nat.reduceEqDiff, Nat.reduceLT, Nat.reduceLeDiff, Nat.reduceMul, Nat.reduceSub, reduceCtorEq, reduceIte] <;> rfl); (simp only [go_sem, Nat.reduceAdd, Nat.reduceBEq, Nat.reduceEqDiff, Nat.reduceLT, Nat.reduceLeDiff, Nat.reduceMul, Nat.reduceSub, reduceCtorEq, reduceIte] <;> rfl))
    | (apply wo_eff (hg := rfl) (hc := rfl) (hd := rfl); (simp only [go_sem, Nat.reduceAdd, Nat.reduceBEq, Nat.reduceEqDiff, Nat.reduceLT, Nat.reduceLeDiff, Nat.reduceMul, Nat.reduceSub, reduceCtorEq, reduceIte] <;> rfl); (simp only [go_sem, Nat.reduceAdd, Nat.reduceBEq, Nat.reduceEqDiff, Nat.reduceLT, Nat.reduceLeDiff, Nat.reduceMul, Nat.reduceSub, reduceCtorEq, reduceIte] <;> rfl))
    | (apply wo_gT (hg := rfl); (simp only [go_sem, Nat.reduceAdd, Nat.reduceBEq, Nat.reduceEqDiff, Nat.reduceLT, Nat.reduceLeDiff, Nat.reduceMul, Nat.reduceSub, reduceCtorEq, reduceIte] <;> rfl))
    | (apply wo_gU (hg := rfl) (hd := rfl); (simp only [go_sem, Nat.reduceAdd, Nat.reduceBEq, Nat.reduceEqDiff, Nat.reduceLT, Nat.reduceLeDiff, Nat.reduceMul, Nat.reduceSub, reduceCtorEq, reduceIte] <;> rfl); (simp only [go_sem, Nat.reduceAdd, Nat.reduceBEq, Nat.reduceEqDiff, Nat.reduceLT, Nat.reduceLeDiff, Nat.reduceMul, Nat.reduceSub, reduceCtorEq, reduceIte] <;> rfl))
    | (apply wo_gF (hg := rfl) (hd := rfl); (simp only [go_sem, Nat.reduceAdd, Nat.reduceBEq, Nat.reduceEqDiff, Nat.reduceLT, Nat.reduceLeDiff, Nat.reduceMul, Nat.reduceSub, reduceCtorEq, reduceIte] <;> rfl); (simp only [go_sem, Nat.reduceAdd, Nat.reduceBEq, Nat.reduceEqDiff, Nat.reduceLT, Nat.reduceLeDiff, Nat.reduceMul, Nat.reduceSub, reduceCtorEq, reduceIte] <;> rfl))
    | exact wo_nil rfl)
        refine wo_ref (ids := [32]) rfl rfl (by simp only [go_sem, Nat.reduceAdd, Nat.reduceBEq, Nat.reduceEqDiff, Nat.reduceLT, Nat.reduceLeDiff, Nat.reduceMul, Nat.reduceSub, reduceCtorEq, reduceIte] <;> rfl) (by rfl) (LeA.refl _) (by first | exact boxes_one rfl | rfl) (by decide) (upR2 (hsort)) rfl (.inl rfl) (by simp only [St.after, updBL, boxWith, frU, freshOf, resTR, Go.Pm.R.t, go_sem, Nat.reduceAdd, Nat.reduceBEq, Nat.reduceEqDiff, Nat.reduceLT, Nat.reduceLeDiff, Nat.reduceMul, Nat.reduceSub, reduceCtorEq, reduceIte] <;> rfl) ?_
        repeat (first
    | (apply wo_op (hg := rfl) (hc := rfl) (hd := rfl); (simp only [go_sem, Nat.reduceAdd, Nat.reduceBEq, Nat.reduceEqDiff, Nat.reduceLT, Nat.reduceLeDiff, Nat.reduceMul, Nat.reduceSub, reduceCtorEq, reduceIte] <;> rfl); (simp only [go_sem, Nat.reduceAdd, Nat.reduceBEq, Nat.reduceEqDiff, Nat.reduceLT, Nat.reduceLeDiff, Nat.reduceMul, Nat.reduceSub, reduceCtorEq, reduceIte] <;> rfl))
    | (apply wo_eff (hg := rfl) (hc := rfl) (hd := rfl); (simp only [go_sem, Nat.reduceAdd, Nat.reduceBEq, Nat.reduceEqDiff, Nat.reduceLT, Nat.reduceLeDiff, Nat.reduceMul, Nat.reduceSub, reduceCtorEq, reduceIte] <;> rfl); (simp only [go_sem, Nat.reduceAdd, Nat.reduceBEq, Nat.reduceEqDiff, Nat.reduceLT, Nat.reduceLeDiff, Nat.reduceMul, Nat.reduceSub, reduceCtorEq, reduceIte] <;> rfl))
    | (apply wo_gT (hg := rfl); (simp only [go_sem, Nat.reduceAdd, Nat.reduceBEq, Nat.reduceEqDiff, Nat.reduceLT, Nat.reduceLeDiff, Nat.reduceMul, Nat.reduceSub, reduceCtorEq, reduceIte] <;> rfl))
    | (apply wo_gU (hg := rfl) (hd := rfl); (simp only [go_sem, Nat.reduceAdd, Nat.reduceBEq, Nat.reduceEqDiff, Nat.reduceLT, Nat.reduceLeDiff, Nat.reduceMul, Nat.reduceSub, reduceCtorEq, reduceIte] <;> rfl); (simp only [go_sem, Nat.reduceAdd, Nat.reduceBEq, Nat.reduceEqDiff, Nat.reduceLT, Nat.reduceLeDiff, Nat.reduceMul, Nat.reduceSub, reduceCtorEq, reduceIte] <;> rfl))
    | (apply wo_gF (hg := rfl) (hd := rfl); (simp only [go_sem, Nat.reduceAdd, Nat.reduceBEq, Nat.reduceEqDiff, Nat.reduceLT, Nat.reduceLeDiff, Nat.reduceMul, Nat.reduceSub, reduceCtorEq, reduceIte] <;> rfl); (simp only [go_sem, Nat.reduceAdd, Nat.reduceBEq, Nat.reduceEqDiff, Nat.reduceLT, Nat.reduceLeDiff, Nat.reduceMul, Nat.reduceSub, reduceCtorEq, reduceIte] <;> rfl))
    | exact wo_nil rfl)) ?_
      (repeat refine wc_assoc ?_); refine wc_then (by simp only [go_sem, Nat.reduceAdd, Nat.reduceBEq, Nat.reduceEqDiff, Nat.reduceLT, Nat.reduceLeDiff, Nat.reduceMul, Nat.reduceSub, reduceCtorEq, reduceIte] <;> rfl) ?_
      (repeat refine wc_assoc ?_); refine wc_then (by simp only [go_sem, Nat.reduceAdd, Nat.reduceBEq, Nat.reduceEqDiff, Nat.reduceLT, Nat.reduceLeDiff, Nat.reduceMul, Nat.reduceSub, reduceCtorEq, reduceIte] <;> rfl) ?_
      generalize hcc : kc es' = c at *
      refine wc_loopThen (σ0 := ⟨[(6, .view 32 0 1 0 j), (8, .d (.fn 73 [.ptr [.int .i64 k', .int .i64 i', .str s', .slice (ks'.map .str), .slice (encL es')]])), (47, .view 32 0 1 0 j), (48, .d (.int .i64 (j : Nat))), (49, .d (.int .i64 (0 : Nat))), (9, .d .nil)], [(32, .box 0 ((O.map (D.int .i64)).map T.d))]⟩)
        (fun m σ => ∃ t : Nat, m + t = j ∧ ((t = 0 ∧ σ = ⟨[(6, .view 32 0 1 0 j), (8, .d (.fn 73 [.ptr [.int .i64 k', .int .i64 i', .str s', .slice (ks'.map .str), .slice (encL es')]])), (47, .view 32 0 1 0 j), (48, .d (.int .i64 (j : Nat))), (49, .d (.int .i64 (t : Nat))), (9, .d .nil)], [(32, .box 0 ((O.map (D.int .i64)).map T.d))]⟩) ∨
          (∃ (g : Nat) (done : List (List Int)) (cur : List Int) (p : Int), 0 < t ∧ done.length < t ∧ cur.length ≤ t ∧ O[t - 1]? = some p ∧ grp c O = grpGo c done cur p (O.drop t) ∧
            σ = ⟨[(6, .view 32 0 1 0 j), (8, .d (.fn 73 [.ptr [.int .i64 k', .int .i64 i', .str s', .slice (ks'.map .str), .slice (encL es')]])), (47, .view 32 0 1 0 j), (48, .d (.int .i64 (j : Nat))), (49, .d (.int .i64 (t : Nat))), (9, .view 69 g 1 0 (done.length + 1))], [(32, .box 0 ((O.map (D.int .i64)).map T.d)), (69, .box g ((done.map gD).map T.d ++ [.own 82 (cur.map (D.int .i64))])), (82, .tok 3 1 cur.length)]⟩))) j
        (gh_keep [6, 8, 47, 48, 49, 9] [32] rfl (by simp [St.keep, St.kp, Go.Pm.look, lowO, lowT, isSome', Function.comp_def, St.set, St.put, D.cells])) ⟨0, by omega, .inl ⟨rfl, rfl⟩⟩ ?_
      rintro m σ ⟨t, hm, hσ⟩
      generalize hLK : LoopK X2 86 3 _ _ _ _ = LK
      generalize hc19 : Code.region 19 _ false = R19
      generalize hc20 : Code.region 20 _ false = R20
      have hw : IntKind.i64.wrap ((t : Int) + 1) = ((t + 1 : Nat) : Int) := by rw [IntKind.wrap_i64]; omega
      have hnext : t < j → ∀ (σ' : St) (g : Nat) (done : List (List Int)) (cur : List Int) (p : Int), done.length < t + 1 → cur.length ≤ t + 1 → O[t]? = some p → grp c O = grpGo c done cur p (O.drop (t + 1)) →
          Gh X2.refs σ' ⟨[(6, .view 32 0 1 0 j), (8, .d (.fn 73 [.ptr [.int .i64 k', .int .i64 i', .str s', .slice (ks'.map .str), .slice (encL es')]])), (47, .view 32 0 1 0 j), (48, .d (.int .i64 (j : Nat))), (49, .d (.int .i64 (t : Nat))), (9, .view 69 g 1 0 (done.length + 1))], [(32, .box 0 ((O.map (D.int .i64)).map T.d)), (69, .box g ((done.map gD).map T.d ++ [.own 82 (cur.map (D.int .i64))])), (82, .tok 3 1 cur.length)]⟩ → BlkK X2 86 4 R20 LK .normal σ' := by
        intro htj σ' g done cur p h1 h1' h2 h3 hg
        subst hLK hc20
        refine blk_normal ?_
        refine wc_lastG hg (by simp only [go_sem, Nat.reduceAdd, Nat.reduceBEq, Nat.reduceEqDiff, Nat.reduceLT, Nat.reduceLeDiff, Nat.reduceMul, Nat.reduceSub, reduceCtorEq, reduceIte] <;> rfl) ?_
        refine loop_next (σ1 := ⟨[(6, .view 32 0 1 0 j), (8, .d (.fn 73 [.ptr [.int .i64 k', .int .i64 i', .str s', .slice (ks'.map .str), .slice (encL es')]])), (47, .view 32 0 1 0 j), (48, .d (.int .i64 (j : Nat))), (49, .d (.int .i64 (t + 1 : Nat))), (9, .view 69 g 1 0 (done.length + 1))], [(32, .box 0 ((O.map (D.int .i64)).map T.d)), (69, .box g ((done.map gD).map T.d ++ [.own 82 (cur.map (D.int .i64))])), (82, .tok 3 1 cur.length)]⟩) (m - 1) (by omega) (gh_keep [6, 8, 47, 48, 49, 9] [32, 69, 82] rfl (by rw [hw]; exact (by simp [St.keep, St.kp, Go.Pm.look, lowO, lowT, isSome', Function.comp_def, St.set, St.put, D.cells]))) ⟨t + 1, by omega, .inr ⟨g, done, cur, p, by omega, by omega, by omega, h2, h3, rfl⟩⟩
      have hd1 : ∀ (dn : List (List Int)) (X : T), List.drop dn.length ((dn.map gD).map T.d ++ [X]) = [X] := fun dn X => by rw [List.drop_append_of_le_length (by simp), List.drop_eq_nil_of_le (by simp)]; rfl
      have hd2 : ∀ (dn : List (List Int)) (X : T), List.drop (dn.length + 1) ((dn.map gD).map T.d ++ [X]) = [] := fun dn X => List.drop_eq_nil_of_le (by simp)
      have ht1 : ∀ (dn : List (List Int)) (X : T), List.take dn.length ((dn.map gD).map T.d ++ [X]) = (dn.map gD).map T.d := fun dn X => by rw [List.take_append_of_le_length (by simp), List.take_of_length_le (by simp)]
      have hle : ∀ (dn : List (List Int)) (X : T), dn.length + 1 ≤ ((dn.map gD).map T.d ++ [X]).length := fun dn X => by simp
      have h19n : t < j → ∀ (σ' : St) (g : Nat) (dn : List (List Int)) (x : Int), dn.length < t + 1 → O[t]? = some x → grp c O = grpGo c dn [x] x (O.drop (t + 1)) →
          Gh X2.refs σ' ⟨[(6, .view 32 0 1 0 j), (8, .d (.fn 73 [.ptr [.int .i64 k', .int .i64 i', .str s', .slice (ks'.map .str), .slice (encL es')]])), (47, .view 32 0 1 0 j), (48, .d (.int .i64 (j : Nat))), (49, .d (.int .i64 (t : Nat))), (9, .view 69 g 1 0 (dn.length + 1)), (11, .d (.int .i64 x))], [(32, .box 0 ((O.map (D.int .i64)).map T.d)), (69, .box g ((dn.map gD).map T.d ++ [.d .nil]))]⟩ → WC X2 86 R19 σ' (BlkK X2 86 4 R20 LK) := by
        intro htj σ' g dn x h1 h2 h3 hg
        have hwd : IntKind.i64.wrap (((dn.length + 1 : Nat) : Int) - 1) = ((dn.length : Nat) : Int) := by rw [IntKind.wrap_i64]; omega
        have l1 : ((dn.length : Nat) : Int) < ((dn.length + 1 : Nat) : Int) := by omega
        have hd1 := hd1 dn (.d .nil)
        have hd2 := hd2 dn (.d .nil)
        have ht1 := ht1 dn (.d .nil)
        have hle := hle dn (.d .nil)
        subst hc19
        refine wc_lastG hg (by
          repeat (first
    | (apply wo_op (hg := rfl) (hc := rfl) (hd := rfl); (simp only [hwd, l1, hd1, hd2, ht1, hle, Nat.mul_one, Int.toNat_natCast, Int.natCast_nonneg, List.isEmpty_cons, go_sem, Nat.reduceAdd, Nat.reduceBEq, Nat.reduceEqDiff, Nat.reduceLT, Nat.reduceLeDiff, Nat.reduceMul, Nat.reduceSub, reduceCtorEq, reduceIte] <;> rfl); (simp only [go_sem, Nat.reduceAdd, Nat.reduceBEq, Nat.reduceEqDiff, Nat.reduceLT, Nat.reduceLeDiff, Nat.reduceMul, Nat.reduceSub, reduceCtorEq, reduceIte] <;> rfl))
    | (apply wo_eff (hg := rfl) (hc := rfl) (hd := rfl); (simp only [hwd, l1, hd1, hd2, ht1, hle, Nat.mul_one, Int.toNat_natCast, Int.natCast_nonneg, List.isEmpty_cons, go_sem, Nat.reduceAdd, Nat.reduceBEq, Nat.reduceEqDiff, Nat.reduceLT, Nat.reduceLeDiff, Nat.reduceMul, Nat.reduceSub, reduceCtorEq, reduceIte] <;> rfl); (simp only [go_sem, Nat.reduceAdd, Nat.reduceBEq, Nat.reduceEqDiff, Nat.reduceLT, Nat.reduceLeDiff, Nat.reduceMul, Nat.reduceSub, reduceCtorEq, reduceIte] <;> rfl))
    | (apply wo_gT (hg := rfl); (simp only [hwd, l1, hd1, hd2, ht1, hle, Nat.mul_one, Int.toNat_natCast, Int.natCast_nonneg, List.isEmpty_cons, go_sem, Nat.reduceAdd, Nat.reduceBEq, Nat.reduceEqDiff, Nat.reduceLT, Nat.reduceLeDiff, Nat.reduceMul, Nat.reduceSub, reduceCtorEq, reduceIte] <;> rfl))
    | (apply wo_gU (hg := rfl) (hd := rfl); (simp only [hwd, l1, hd1, hd2, ht1, hle, Nat.mul_one, Int.toNat_natCast, Int.natCast_nonneg, List.isEmpty_cons, go_sem, Nat.reduceAdd, Nat.reduceBEq, Nat.reduceEqDiff, Nat.reduceLT, Nat.reduceLeDiff, Nat.reduceMul, Nat.reduceSub, reduceCtorEq, reduceIte] <;> rfl); (simp only [go_sem, Nat.reduceAdd, Nat.reduceBEq, Nat.reduceEqDiff, Nat.reduceLT, Nat.reduceLeDiff, Nat.reduceMul, Nat.reduceSub, reduceCtorEq, reduceIte] <;> rfl))
    | (apply wo_gF (hg := rfl) (hd := rfl); (simp only [hwd, l1, hd1, hd2, ht1, hle, Nat.mul_one, Int.toNat_natCast, Int.natCast_nonneg, List.isEmpty_cons, go_sem, Nat.reduceAdd, Nat.reduceBEq, Nat.reduceEqDiff, Nat.reduceLT, Nat.reduceLeDiff, Nat.reduceMul, Nat.reduceSub, reduceCtorEq, reduceIte] <;> rfl); (simp only [go_sem, Nat.reduceAdd, Nat.reduceBEq, Nat.reduceEqDiff, Nat.reduceLT, Nat.reduceLeDiff, Nat.reduceMul, Nat.reduceSub, reduceCtorEq, reduceIte] <;> rfl))
    | exact wo_nil rfl)) ?_
        exact hnext htj _ g dn [x] x h1 (by simp) h2 h3 (gh_keep [6, 8, 47, 48, 49, 9] [32, 69, 82] rfl (by simp [St.keep, St.kp, Go.Pm.look, lowO, lowT, isSome', Function.comp_def, St.set, St.put, D.cells]))
      have h19c : t < j → ∀ (σ' : St) (g : Nat) (dn : List (List Int)) (cur : List Int) (x : Int), dn.length < t + 1 → cur.length ≤ t → O[t]? = some x → grp c O = grpGo c dn (cur ++ [x]) x (O.drop (t + 1)) →
          Gh X2.refs σ' ⟨[(6, .view 32 0 1 0 j), (8, .d (.fn 73 [.ptr [.int .i64 k', .int .i64 i', .str s', .slice (ks'.map .str), .slice (encL es')]])), (47, .view 32 0 1 0 j), (48, .d (.int .i64 (j : Nat))), (49, .d (.int .i64 (t : Nat))), (9, .view 69 g 1 0 (dn.length + 1)), (11, .d (.int .i64 x))], [(32, .box 0 ((O.map (D.int .i64)).map T.d)), (69, .box g ((dn.map gD).map T.d ++ [.own 82 (cur.map (D.int .i64))])), (82, .tok 3 1 cur.length)]⟩ → WC X2 86 R19 σ' (BlkK X2 86 4 R20 LK) := by
        intro htj σ' g dn cur x h1 h1' h2 h3 hg
        have hwd : IntKind.i64.wrap (((dn.length + 1 : Nat) : Int) - 1) = ((dn.length : Nat) : Int) := by rw [IntKind.wrap_i64]; omega
        have l1 : ((dn.length : Nat) : Int) < ((dn.length + 1 : Nat) : Int) := by omega
        have hd1 := hd1 dn (.own 82 (cur.map (D.int .i64)))
        have hd2 := hd2 dn (.own 82 (cur.map (D.int .i64)))
        have ht1 := ht1 dn (.own 82 (cur.map (D.int .i64)))
        have hle := hle dn (.own 82 (cur.map (D.int .i64)))
        have b1 : (cur.length + 1) * 8 ≤ 140737488355328 := by omega
        have b2 : cur.length + 1 ≤ 140737488355328 := by omega
        subst hc19
        refine wc_lastG hg (by
          repeat (first
    | (apply wo_op (hg := rfl) (hc := rfl) (hd := rfl); (simp only [hwd, l1, hd1, hd2, ht1, hle, b1, b2, Nat.mul_one, List.length_map, Int.toNat_natCast, Int.natCast_nonneg, List.isEmpty_cons, go_sem, Nat.reduceAdd, Nat.reduceBEq, Nat.reduceEqDiff, Nat.reduceLT, Nat.reduceLeDiff, Nat.reduceMul, Nat.reduceSub, reduceCtorEq, reduceIte] <;> rfl); (simp only [go_sem, Nat.reduceAdd, Nat.reduceBEq, Nat.reduceEqDiff, Nat.reduceLT, Nat.reduceLeDiff, Nat.reduceMul, Nat.reduceSub, reduceCtorEq, reduceIte] <;> rfl))
    | (apply wo_eff (hg := rfl) (hc := rfl) (hd := rfl); (simp only [hwd, l1, hd1, hd2, ht1, hle, b1, b2, Nat.mul_one, List.length_map, Int.toNat_natCast, Int.natCast_nonneg, List.isEmpty_cons, go_sem, Nat.reduceAdd, Nat.reduceBEq, Nat.reduceEqDiff, Nat.reduceLT, Nat.reduceLeDiff, Nat.reduceMul, Nat.reduceSub, reduceCtorEq, reduceIte] <;> rfl); (simp only [go_sem, Nat.reduceAdd, Nat.reduceBEq, Nat.reduceEqDiff, Nat.reduceLT, Nat.reduceLeDiff, Nat.reduceMul, Nat.reduceSub, reduceCtorEq, reduceIte] <;> rfl))
    | (apply wo_gT (hg := rfl); (simp only [hwd, l1, hd1, hd2, ht1, hle, b1, b2, Nat.mul_one, List.length_map, Int.toNat_natCast, Int.natCast_nonneg, List.isEmpty_cons, go_sem, Nat.reduceAdd, Nat.reduceBEq, Nat.reduceEqDiff, Nat.reduceLT, Nat.reduceLeDiff, Nat.reduceMul, Nat.reduceSub, reduceCtorEq, reduceIte] <;> rfl))
    | (apply wo_gU (hg := rfl) (hd := rfl); (simp only [hwd, l1, hd1, hd2, ht1, hle, b1, b2, Nat.mul_one, List.length_map, Int.toNat_natCast, Int.natCast_nonneg, List.isEmpty_cons, go_sem, Nat.reduceAdd, Nat.reduceBEq, Nat.reduceEqDiff, Nat.reduceLT, Nat.reduceLeDiff, Nat.reduceMul, Nat.reduceSub, reduceCtorEq, reduceIte] <;> rfl); (simp only [go_sem, Nat.reduceAdd, Nat.reduceBEq, Nat.reduceEqDiff, Nat.reduceLT, Nat.reduceLeDiff, Nat.reduceMul, Nat.reduceSub, reduceCtorEq, reduceIte] <;> rfl))
    | (apply wo_gF (hg := rfl) (hd := rfl); (simp only [hwd, l1, hd1, hd2, ht1, hle, b1, b2, Nat.mul_one, List.length_map, Int.toNat_natCast, Int.natCast_nonneg, List.isEmpty_cons, go_sem, Nat.reduceAdd, Nat.reduceBEq, Nat.reduceEqDiff, Nat.reduceLT, Nat.reduceLeDiff, Nat.reduceMul, Nat.reduceSub, reduceCtorEq, reduceIte] <;> rfl); (simp only [go_sem, Nat.reduceAdd, Nat.reduceBEq, Nat.reduceEqDiff, Nat.reduceLT, Nat.reduceLeDiff, Nat.reduceMul, Nat.reduceSub, reduceCtorEq, reduceIte] <;> rfl))
    | exact wo_nil rfl)) ?_
        exact hnext htj _ g dn (cur ++ [x]) x h1 (by simp; omega) h2 h3 (gh_keep [6, 8, 47, 48, 49, 9] [32, 69, 82] rfl (by simp [St.keep, St.kp, Go.Pm.look, lowO, lowT, isSome', Function.comp_def, St.set, St.put, D.cells]))
      clear hnext
      rcases hσ with ⟨ht0, rfl⟩ | ⟨g, done, cur, p, ht0, hdl, hcl, hp, hgrp, rfl⟩
      · by_cases htj : t < j
        · have hto : t < O.length := by omega
          have d1 : decide ((t : Int) < (j : Int)) = true := by simp; omega
          have d0 : ((t : Int) == 0) = true := by simp; omega
          have l1 : (t : Int) < (j : Int) := by omega
          have a1 := ar_head hto
          have hx : O[t]? = some O[t] := List.getElem?_eq_getElem hto
          have hg0 : grp c O = grpGo c [] [O[t]] O[t] (O.drop (t + 1)) := by
            subst ht0
            cases O with
            | nil => simp at hto
            | cons x r => simp [grp]
          generalize O[t] = x at *
          (repeat refine wc_assoc ?_); refine wc_then (by simp only [d1, go_sem, Nat.reduceAdd, Nat.reduceBEq, Nat.reduceEqDiff, Nat.reduceLT, Nat.reduceLeDiff, Nat.reduceMul, Nat.reduceSub, reduceCtorEq, reduceIte] <;> rfl) ?_
          (repeat refine wc_assoc ?_); refine wc_condThen (by simp only [go_sem, Nat.reduceAdd, Nat.reduceBEq, Nat.reduceEqDiff, Nat.reduceLT, Nat.reduceLeDiff, Nat.reduceMul, Nat.reduceSub, reduceCtorEq, reduceIte] <;> rfl) (fun hc => ?_) (fun hc => ?_)
          · refine wc_skip ?_
            refine wc_blockThen ?_
            (repeat refine wc_assoc ?_); refine wc_then (by simp only [l1, a1, Nat.mul_one, Int.toNat_natCast, Int.natCast_nonneg, go_sem, Nat.reduceAdd, Nat.reduceBEq, Nat.reduceEqDiff, Nat.reduceLT, Nat.reduceLeDiff, Nat.reduceMul, Nat.reduceSub, reduceCtorEq, reduceIte] <;> rfl) ?_
            refine wc_assoc (wc_then (by repeat (first
    | (apply wo_op (hg := rfl) (hc := rfl) (hd := rfl); (simp only [d0, go_sem, Nat.reduceAdd, Nat.reduceBEq, Nat.reduceEqDiff, Nat.reduceLT, Nat.reduceLeDiff, Nat.reduceMul, Nat.reduceSub, reduceCtorEq, reduceIte] <;> rfl); (simp only [go_sem, Nat.reduceAdd, Nat.reduceBEq, Nat.reduceEqDiff, Nat.reduceLT, Nat.reduceLeDiff, Nat.reduceMul, Nat.reduceSub, reduceCtorEq, reduceIte] <;> rfl))
    | (apply wo_eff (hg := rfl) (hc := rfl) (hd := rfl); (simp only [d0, go_sem, Nat.reduceAdd, Nat.reduceBEq, Nat.reduceEqDiff, Nat.reduceLT, Nat.reduceLeDiff, Nat.reduceMul, Nat.reduceSub, reduceCtorEq, reduceIte] <;> rfl); (simp only [go_sem, Nat.reduceAdd, Nat.reduceBEq, Nat.reduceEqDiff, Nat.reduceLT, Nat.reduceLeDiff, Nat.reduceMul, Nat.reduceSub, reduceCtorEq, reduceIte] <;> rfl))
    | (apply wo_gT (hg := rfl); (simp only [d0, go_sem, Nat.reduceAdd, Nat.reduceBEq, Nat.reduceEqDiff, Nat.reduceLT, Nat.reduceLeDiff, Nat.reduceMul, Nat.reduceSub, reduceCtorEq, reduceIte] <;> rfl))
    | (apply wo_gU (hg := rfl) (hd := rfl); (simp only [d0, go_sem, Nat.reduceAdd, Nat.reduceBEq, Nat.reduceEqDiff, Nat.reduceLT, Nat.reduceLeDiff, Nat.reduceMul, Nat.reduceSub, reduceCtorEq, reduceIte] <;> rfl); (simp only [go_sem, Nat.reduceAdd, Nat.reduceBEq, Nat.reduceEqDiff, Nat.reduceLT, Nat.reduceLeDiff, Nat.reduceMul, Nat.reduceSub, reduceCtorEq, reduceIte] <;> rfl))
    | (apply wo_gF (hg := rfl) (hd := rfl); (simp only [d0, go_sem, Nat.reduceAdd, Nat.reduceBEq, Nat.reduceEqDiff, Nat.reduceLT, Nat.reduceLeDiff, Nat.reduceMul, Nat.reduceSub, reduceCtorEq, reduceIte] <;> rfl); (simp only [go_sem, Nat.reduceAdd, Nat.reduceBEq, Nat.reduceEqDiff, Nat.reduceLT, Nat.reduceLeDiff, Nat.reduceMul, Nat.reduceSub, reduceCtorEq, reduceIte] <;> rfl))
    | exact wo_nil rfl)) ?_)
            refine wc_condThen (by simp only [go_sem, Nat.reduceAdd, Nat.reduceBEq, Nat.reduceEqDiff, Nat.reduceLT, Nat.reduceLeDiff, Nat.reduceMul, Nat.reduceSub, reduceCtorEq, reduceIte] <;> rfl) (fun hc => ?_) (fun hc => absurd hc (by decide))
            refine wc_then (by
              repeat (first
    | (apply wo_op (hg := rfl) (hc := rfl) (hd := rfl); (simp only [go_sem, Nat.reduceAdd, Nat.reduceBEq, Nat.reduceEqDiff, Nat.reduceLT, Nat.reduceLeDiff, Nat.reduceMul, Nat.reduceSub, reduceCtorEq, reduceIte] <;> rfl); (simp only [go_sem, Nat.reduceAdd, Nat.reduceBEq, Nat.reduceEqDiff, Nat.reduceLT, Nat.reduceLeDiff, Nat.reduceMul, Nat.reduceSub, reduceCtorEq, reduceIte] <;> rfl))
    | (apply wo_eff (hg := rfl) (hc := rfl) (hd := rfl); (simp only [go_sem, Nat.reduceAdd, Nat.reduceBEq, Nat.reduceEqDiff, Nat.reduceLT, Nat.reduceLeDiff, Nat.reduceMul, Nat.reduceSub, reduceCtorEq, reduceIte] <;> rfl); (simp only [go_sem, Nat.reduceAdd, Nat.reduceBEq, Nat.reduceEqDiff, Nat.reduceLT, Nat.reduceLeDiff, Nat.reduceMul, Nat.reduceSub, reduceCtorEq, reduceIte] <;> rfl))
    | (apply wo_gT (hg := rfl); (simp only [go_sem, Nat.reduceAdd, Nat.reduceBEq, Nat.reduceEqDiff, Nat.reduceLT, Nat.reduceLeDiff, Nat.reduceMul, Nat.reduceSub, reduceCtorEq, reduceIte] <;> rfl))
    | (apply wo_gU (hg := rfl) (hd := rfl); (simp only [go_sem, Nat.reduceAdd, Nat.reduceBEq, Nat.reduceEqDiff, Nat.reduceLT, Nat.reduceLeDiff, Nat.reduceMul, Nat.reduceSub, reduceCtorEq, reduceIte] <;> rfl); (simp only [go_sem, Nat.reduceAdd, Nat.reduceBEq, Nat.reduceEqDiff, Nat.reduceLT, Nat.reduceLeDiff, Nat.reduceMul, Nat.reduceSub, reduceCtorEq, reduceIte] <;> rfl))
    | (apply wo_gF (hg := rfl) (hd := rfl); (simp only [go_sem, Nat.reduceAdd, Nat.reduceBEq, Nat.reduceEqDiff, Nat.reduceLT, Nat.reduceLeDiff, Nat.reduceMul, Nat.reduceSub, reduceCtorEq, reduceIte] <;> rfl); (simp only [go_sem, Nat.reduceAdd, Nat.reduceBEq, Nat.reduceEqDiff, Nat.reduceLT, Nat.reduceLeDiff, Nat.reduceMul, Nat.reduceSub, reduceCtorEq, reduceIte] <;> rfl))
    | exact wo_nil rfl)
              (apply wo_x (hg := rfl) (hc := rfl) (hd := rfl); (first | rfl | (simp only [List.isEmpty_cons, Nat.le_refl, go_sem, Nat.reduceAdd, Nat.reduceBEq, Nat.reduceEqDiff, Nat.reduceLT, Nat.reduceLeDiff, Nat.reduceMul, Nat.reduceSub, reduceCtorEq, reduceIte] <;> rfl)); (simp only [List.isEmpty_cons, Nat.le_refl, evX, srcT, T.emp, List.flatMap_cons, List.flatMap_nil, go_sem, Nat.reduceAdd, Nat.reduceBEq, Nat.reduceEqDiff, Nat.reduceLT, Nat.reduceLeDiff, Nat.reduceMul, Nat.reduceSub, reduceCtorEq, reduceIte] <;> rfl); (simp only [List.isEmpty_cons, Nat.le_refl, go_sem, Nat.reduceAdd, Nat.reduceBEq, Nat.reduceEqDiff, Nat.reduceLT, Nat.reduceLeDiff, Nat.reduceMul, Nat.reduceSub, reduceCtorEq, reduceIte] <;> rfl))
              repeat (first
    | (apply wo_op (hg := rfl) (hc := rfl) (hd := rfl); (simp only [go_sem, Nat.reduceAdd, Nat.reduceBEq, Nat.reduceEqDiff, Nat.reduceLT, Nat.reduceLeDiff, Nat.reduceMul, Nat.reduceSub, reduceCtorEq, reduceIte] <;> rfl); (simp only [go_sem, Nat.reduceAdd, Nat.reduceBEq, Nat.reduceEqDiff, Nat.reduceLT, Nat.reduceLeDiff, Nat.reduceMul, Nat.reduceSub, reduceCtorEq, reduceIte] <;> rfl))
    | (apply wo_eff (hg := rfl) (hc := rfl) (hd := rfl); (simp only [go_sem, Nat.reduceAdd, Nat.reduceBEq, Nat.reduceEqDiff, Nat.reduceLT, Nat.reduceLeDiff, Nat.reduceMul, Nat.reduceSub, reduceCtorEq, reduceIte] <;> rfl); (simp only [go_sem, Nat.reduceAdd, Nat.reduceBEq, Nat.reduceEqDiff, Nat.reduceLT, Nat.reduceLeDiff, Nat.reduceMul, Nat.reduceSub, reduceCtorEq, reduceIte] <;> rfl))
    | (apply wo_gT (hg := rfl); (simp only [go_sem, Nat.reduceAdd, Nat.reduceBEq, Nat.reduceEqDiff, Nat.reduceLT, Nat.reduceLeDiff, Nat.reduceMul, Nat.reduceSub, reduceCtorEq, reduceIte] <;> rfl))
    | (apply wo_gU (hg := rfl) (hd := rfl); (simp only [go_sem, Nat.reduceAdd, Nat.reduceBEq, Nat.reduceEqDiff, Nat.reduceLT, Nat.reduceLeDiff, Nat.reduceMul, Nat.reduceSub, reduceCtorEq, reduceIte] <;> rfl); (simp only [go_sem, Nat.reduceAdd, Nat.reduceBEq, Nat.reduceEqDiff, Nat.reduceLT, Nat.reduceLeDiff, Nat.reduceMul, Nat.reduceSub, reduceCtorEq, reduceIte] <;> rfl))
    | (apply wo_gF (hg := rfl) (hd := rfl); (simp only [go_sem, Nat.reduceAdd, Nat.reduceBEq, Nat.reduceEqDiff, Nat.reduceLT, Nat.reduceLeDiff, Nat.reduceMul, Nat.reduceSub, reduceCtorEq, reduceIte] <;> rfl); (simp only [go_sem, Nat.reduceAdd, Nat.reduceBEq, Nat.reduceEqDiff, Nat.reduceLT, Nat.reduceLeDiff, Nat.reduceMul, Nat.reduceSub, reduceCtorEq, reduceIte] <;> rfl))
    | exact wo_nil rfl)
              (apply wo_x (hg := rfl) (hc := rfl) (hd := rfl); (first | rfl | (simp only [List.isEmpty_cons, Nat.le_refl, go_sem, Nat.reduceAdd, Nat.reduceBEq, Nat.reduceEqDiff, Nat.reduceLT, Nat.reduceLeDiff, Nat.reduceMul, Nat.reduceSub, reduceCtorEq, reduceIte] <;> rfl)); (simp only [List.isEmpty_cons, Nat.le_refl, evX, srcT, T.emp, List.flatMap_cons, List.flatMap_nil, go_sem, Nat.reduceAdd, Nat.reduceBEq, Nat.reduceEqDiff, Nat.reduceLT, Nat.reduceLeDiff, Nat.reduceMul, Nat.reduceSub, reduceCtorEq, reduceIte] <;> rfl); (simp only [List.isEmpty_cons, Nat.le_refl, go_sem, Nat.reduceAdd, Nat.reduceBEq, Nat.reduceEqDiff, Nat.reduceLT, Nat.reduceLeDiff, Nat.reduceMul, Nat.reduceSub, reduceCtorEq, reduceIte] <;> rfl))
              repeat (first
    | (apply wo_op (hg := rfl) (hc := rfl) (hd := rfl); (simp only [go_sem, Nat.reduceAdd, Nat.reduceBEq, Nat.reduceEqDiff, Nat.reduceLT, Nat.reduceLeDiff, Nat.reduceMul, Nat.reduceSub, reduceCtorEq, reduceIte] <;> rfl); (simp only [go_sem, Nat.reduceAdd, Nat.reduceBEq, Nat.reduceEqDiff, Nat.reduceLT, Nat.reduceLeDiff, Nat.reduceMul, Nat.reduceSub, reduceCtorEq, reduceIte] <;> rfl))
    | (apply wo_eff (hg := rfl) (hc := rfl) (hd := rfl); (simp only [go_sem, Nat.reduceAdd, Nat.reduceBEq, Nat.reduceEqDiff, Nat.reduceLT, Nat.reduceLeDiff, Nat.reduceMul, Nat.reduceSub, reduceCtorEq, reduceIte] <;> rfl); (simp only [go_sem, Nat.reduceAdd, Nat.reduceBEq, Nat.reduceEqDiff, Nat.reduceLT, Nat.reduceLeDiff, Nat.reduceMul, Nat.reduceSub, reduceCtorEq, reduceIte] <;> rfl))
    | (apply wo_gT (hg := rfl); (simp only [go_sem, Nat.reduceAdd, Nat.reduceBEq, Nat.reduceEqDiff, Nat.reduceLT, Nat.reduceLeDiff, Nat.reduceMul, Nat.reduceSub, reduceCtorEq, reduceIte] <;> rfl))
    | (apply wo_gU (hg := rfl) (hd := rfl); (simp only [go_sem, Nat.reduceAdd, Nat.reduceBEq, Nat.reduceEqDiff, Nat.reduceLT, Nat.reduceLeDiff, Nat.reduceMul, Nat.reduceSub, reduceCtorEq, reduceIte] <;> rfl); (simp only [go_sem, Nat.reduceAdd, Nat.reduceBEq, Nat.reduceEqDiff, Nat.reduceLT, Nat.reduceLeDiff, Nat.reduceMul, Nat.reduceSub, reduceCtorEq, reduceIte] <;> rfl))
    | (apply wo_gF (hg := rfl) (hd := rfl); (simp only [go_sem, Nat.reduceAdd, Nat.reduceBEq, Nat.reduceEqDiff, Nat.reduceLT, Nat.reduceLeDiff, Nat.reduceMul, Nat.reduceSub, reduceCtorEq, reduceIte] <;> rfl); (simp only [go_sem, Nat.reduceAdd, Nat.reduceBEq, Nat.reduceEqDiff, Nat.reduceLT, Nat.reduceLeDiff, Nat.reduceMul, Nat.reduceSub, reduceCtorEq, reduceIte] <;> rfl))
    | exact wo_nil rfl)) ?_
            exact h19n htj _ 0 [] x (by simp) hx hg0 (gh_keep [6, 8, 47, 48, 49, 9, 11] [32, 69] rfl (by simp [St.keep, St.kp, Go.Pm.look, lowO, lowT, isSome', Function.comp_def, St.set, St.put, D.cells]))
          · cases hc
        · have hj0 : j = 0 := by omega
          have hO0 : O = [] := List.eq_nil_of_length_eq_zero (by omega)
          have d1 : decide ((t : Int) < (j : Int)) = false := by simp; omega
          (repeat refine wc_assoc ?_); refine wc_then (by simp only [d1, go_sem, Nat.reduceAdd, Nat.reduceBEq, Nat.reduceEqDiff, Nat.reduceLT, Nat.reduceLeDiff, Nat.reduceMul, Nat.reduceSub, reduceCtorEq, reduceIte] <;> rfl) ?_
          (repeat refine wc_assoc ?_); refine wc_condThen (by simp only [go_sem, Nat.reduceAdd, Nat.reduceBEq, Nat.reduceEqDiff, Nat.reduceLT, Nat.reduceLeDiff, Nat.reduceMul, Nat.reduceSub, reduceCtorEq, reduceIte] <;> rfl) (fun hc => ?_) (fun hc => ?_)
          · cases hc
          refine wc_exitThen ?_
          subst hLK
          refine loop_exit ?_
          (repeat refine wc_assoc ?_); refine wc_then (by simp only [go_sem, Nat.reduceAdd, Nat.reduceBEq, Nat.reduceEqDiff, Nat.reduceLT, Nat.reduceLeDiff, Nat.reduceMul, Nat.reduceSub, reduceCtorEq, reduceIte] <;> rfl) ?_
          refine wc_ret ⟨.inr rfl, _, (by simp only [Try.f55, go_sem, Nat.reduceAdd, Nat.reduceBEq, Nat.reduceEqDiff, Nat.reduceLT, Nat.reduceLeDiff, Nat.reduceMul, Nat.reduceSub, reduceCtorEq, reduceIte] <;> rfl), ?_⟩
          rw [hRr, hO0]
          exact .cons D.nil_le (.refl _)
      · by_cases htj : t < j
        · have hto : t < O.length := by omega
          have d1 : decide ((t : Int) < (j : Int)) = true := by simp; omega
          have d0 : ((t : Int) == 0) = false := by simp; omega
          have l1 : (t : Int) < (j : Int) := by omega
          have l2 : ((t - 1 : Nat) : Int) < (j : Int) := by omega
          have a1 := ar_head hto
          have a2 : (((O.map (D.int .i64)).map T.d).drop (t - 1)).head? = some (.d (.int .i64 p)) := by
            rw [List.head?_drop]; simp [hp]
          have hx : O[t]? = some O[t] := List.getElem?_eq_getElem hto
          have hwt : IntKind.i64.wrap ((t : Int) - 1) = ((t - 1 : Nat) : Int) := by rw [IntKind.wrap_i64]; omega
          rw [List.drop_eq_getElem_cons hto, grpGo] at hgrp
          have hxm := hOm O[t] (List.getElem_mem hto)
          have hpm := hOm p (List.mem_of_getElem? hp)
          generalize O[t] = x at *
          have hsp := groups1_spec k' i' s' ks' es' p x hpm hxm
          rw [hcc] at hsp
          (repeat refine wc_assoc ?_); refine wc_then (by simp only [d1, go_sem, Nat.reduceAdd, Nat.reduceBEq, Nat.reduceEqDiff, Nat.reduceLT, Nat.reduceLeDiff, Nat.reduceMul, Nat.reduceSub, reduceCtorEq, reduceIte] <;> rfl) ?_
          (repeat refine wc_assoc ?_); refine wc_condThen (by simp only [go_sem, Nat.reduceAdd, Nat.reduceBEq, Nat.reduceEqDiff, Nat.reduceLT, Nat.reduceLeDiff, Nat.reduceMul, Nat.reduceSub, reduceCtorEq, reduceIte] <;> rfl) (fun hc => ?_) (fun hc => ?_)
          · refine wc_skip ?_
            refine wc_blockThen ?_
            (repeat refine wc_assoc ?_); refine wc_then (by simp only [l1, a1, Nat.mul_one, Int.toNat_natCast, Int.natCast_nonneg, go_sem, Nat.reduceAdd, Nat.reduceBEq, Nat.reduceEqDiff, Nat.reduceLT, Nat.reduceLeDiff, Nat.reduceMul, Nat.reduceSub, reduceCtorEq, reduceIte] <;> rfl) ?_
            refine wc_assoc (wc_then (by
              repeat (first
    | (apply wo_op (hg := rfl) (hc := rfl) (hd := rfl); (simp only [d0, l2, a2, hwt, Nat.mul_one, Int.toNat_natCast, Int.natCast_nonneg, go_sem, Nat.reduceAdd, Nat.reduceBEq, Nat.reduceEqDiff, Nat.reduceLT, Nat.reduceLeDiff, Nat.reduceMul, Nat.reduceSub, reduceCtorEq, reduceIte] <;> rfl); (simp only [go_sem, Nat.reduceAdd, Nat.reduceBEq, Nat.reduceEqDiff, Nat.reduceLT, Nat.reduceLeDiff, Nat.reduceMul, Nat.reduceSub, reduceCtorEq, reduceIte] <;> rfl))
    | (apply wo_eff (hg := rfl) (hc := rfl) (hd := rfl); (simp only [d0, l2, a2, hwt, Nat.mul_one, Int.toNat_natCast, Int.natCast_nonneg, go_sem, Nat.reduceAdd, Nat.reduceBEq, Nat.reduceEqDiff, Nat.reduceLT, Nat.reduceLeDiff, Nat.reduceMul, Nat.reduceSub, reduceCtorEq, reduceIte] <;> rfl); (simp only [go_sem, Nat.reduceAdd, Nat.reduceBEq, Nat.reduceEqDiff, Nat.reduceLT, Nat.reduceLeDiff, Nat.reduceMul, Nat.reduceSub, reduceCtorEq, reduceIte] <;> rfl))
    | (apply wo_gT (hg := rfl); (simp only [d0, l2, a2, hwt, Nat.mul_one, Int.toNat_natCast, Int.natCast_nonneg, go_sem, Nat.reduceAdd, Nat.reduceBEq, Nat.reduceEqDiff, Nat.reduceLT, Nat.reduceLeDiff, Nat.reduceMul, Nat.reduceSub, reduceCtorEq, reduceIte] <;> rfl))
    | (apply wo_gU (hg := rfl) (hd := rfl); (simp only [d0, l2, a2, hwt, Nat.mul_one, Int.toNat_natCast, Int.natCast_nonneg, go_sem, Nat.reduceAdd, Nat.reduceBEq, Nat.reduceEqDiff, Nat.reduceLT, Nat.reduceLeDiff, Nat.reduceMul, Nat.reduceSub, reduceCtorEq, reduceIte] <;> rfl); (simp only [go_sem, Nat.reduceAdd, Nat.reduceBEq, Nat.reduceEqDiff, Nat.reduceLT, Nat.reduceLeDiff, Nat.reduceMul, Nat.reduceSub, reduceCtorEq, reduceIte] <;> rfl))
    | (apply wo_gF (hg := rfl) (hd := rfl); (simp only [d0, l2, a2, hwt, Nat.mul_one, Int.toNat_natCast, Int.natCast_nonneg, go_sem, Nat.reduceAdd, Nat.reduceBEq, Nat.reduceEqDiff, Nat.reduceLT, Nat.reduceLeDiff, Nat.reduceMul, Nat.reduceSub, reduceCtorEq, reduceIte] <;> rfl); (simp only [go_sem, Nat.reduceAdd, Nat.reduceBEq, Nat.reduceEqDiff, Nat.reduceLT, Nat.reduceLeDiff, Nat.reduceMul, Nat.reduceSub, reduceCtorEq, reduceIte] <;> rfl))
    | exact wo_nil rfl)
              refine wo_call rfl rfl (by simp only [go_sem, Nat.reduceAdd, Nat.reduceBEq, Nat.reduceEqDiff, Nat.reduceLT, Nat.reduceLeDiff, Nat.reduceMul, Nat.reduceSub, reduceCtorEq, reduceIte] <;> rfl) (by simp only [go_sem, Nat.reduceAdd, Nat.reduceBEq, Nat.reduceEqDiff, Nat.reduceLT, Nat.reduceLeDiff, Nat.reduceMul, Nat.reduceSub, reduceCtorEq, reduceIte] <;> rfl) (.refl _) (up2 (hsp)) rfl (by simp only [go_sem, Nat.reduceAdd, Nat.reduceBEq, Nat.reduceEqDiff, Nat.reduceLT, Nat.reduceLeDiff, Nat.reduceMul, Nat.reduceSub, reduceCtorEq, reduceIte] <;> rfl) ?_
              repeat (first
    | (apply wo_op (hg := rfl) (hc := rfl) (hd := rfl); (simp only [go_sem, Nat.reduceAdd, Nat.reduceBEq, Nat.reduceEqDiff, Nat.reduceLT, Nat.reduceLeDiff, Nat.reduceMul, Nat.reduceSub, reduceCtorEq, reduceIte] <;> rfl); (simp only [go_sem, Nat.reduceAdd, Nat.reduceBEq, Nat.reduceEqDiff, Nat.reduceLT, Nat.reduceLeDiff, Nat.reduceMul, Nat.reduceSub, reduceCtorEq, reduceIte] <;> rfl))
    | (apply wo_eff (hg := rfl) (hc := rfl) (hd := rfl); (simp only [go_sem, Nat.reduceAdd, Nat.reduceBEq, Nat.reduceEqDiff, Nat.reduceLT, Nat.reduceLeDiff, Nat.reduceMul, Nat.reduceSub, reduceCtorEq, reduceIte] <;> rfl); (simp only [go_sem, Nat.reduceAdd, Nat.reduceBEq, Nat.reduceEqDiff, Nat.reduceLT, Nat.reduceLeDiff, Nat.reduceMul, Nat.reduceSub, reduceCtorEq, reduceIte] <;> rfl))
    | (apply wo_gT (hg := rfl); (simp only [go_sem, Nat.reduceAdd, Nat.reduceBEq, Nat.reduceEqDiff, Nat.reduceLT, Nat.reduceLeDiff, Nat.reduceMul, Nat.reduceSub, reduceCtorEq, reduceIte] <;> rfl))
    | (apply wo_gU (hg := rfl) (hd := rfl); (simp only [go_sem, Nat.reduceAdd, Nat.reduceBEq, Nat.reduceEqDiff, Nat.reduceLT, Nat.reduceLeDiff, Nat.reduceMul, Nat.reduceSub, reduceCtorEq, reduceIte] <;> rfl); (simp only [go_sem, Nat.reduceAdd, Nat.reduceBEq, Nat.reduceEqDiff, Nat.reduceLT, Nat.reduceLeDiff, Nat.reduceMul, Nat.reduceSub, reduceCtorEq, reduceIte] <;> rfl))
    | (apply wo_gF (hg := rfl) (hd := rfl); (simp only [go_sem, Nat.reduceAdd, Nat.reduceBEq, Nat.reduceEqDiff, Nat.reduceLT, Nat.reduceLeDiff, Nat.reduceMul, Nat.reduceSub, reduceCtorEq, reduceIte] <;> rfl); (simp only [go_sem, Nat.reduceAdd, Nat.reduceBEq, Nat.reduceEqDiff, Nat.reduceLT, Nat.reduceLeDiff, Nat.reduceMul, Nat.reduceSub, reduceCtorEq, reduceIte] <;> rfl))
    | exact wo_nil rfl)) ?_)
            generalize hcv : c p x = cv at *
            by_cases h0 : cv = 0
            · rw [if_neg (by simp [h0])] at hgrp
              refine wc_condThen (t := (cv != 0)) (by rfl) (fun hc => absurd h0 (by simpa using hc)) (fun hc => ?_)
              refine wc_skip ?_
              exact h19c htj _ g done cur x (by omega) hcl hx hgrp (gh_keep [6, 8, 47, 48, 49, 9, 11] [32, 69, 82] rfl (by simp [St.keep, St.kp, Go.Pm.look, lowO, lowT, isSome', Function.comp_def, St.set, St.put, D.cells]))
            · rw [if_pos h0] at hgrp
              refine wc_condThen (t := (cv != 0)) (by rfl) (fun hc => ?_) (fun hc => absurd (by simpa using hc) h0)
              have hlE : ((done.map gD).map T.d ++ [T.own 82 (cur.map (D.int .i64))]).length = done.length + 1 := by simp
              have b1 : (done.length + 1 + 1) * 24 ≤ 140737488355328 := by omega
              have b2 : done.length + 1 + 1 ≤ 140737488355328 := by omega
              refine wc_then (by
                repeat (first
    | (apply wo_op (hg := rfl) (hc := rfl) (hd := rfl); (simp only [go_sem, Nat.reduceAdd, Nat.reduceBEq, Nat.reduceEqDiff, Nat.reduceLT, Nat.reduceLeDiff, Nat.reduceMul, Nat.reduceSub, reduceCtorEq, reduceIte] <;> rfl); (simp only [go_sem, Nat.reduceAdd, Nat.reduceBEq, Nat.reduceEqDiff, Nat.reduceLT, Nat.reduceLeDiff, Nat.reduceMul, Nat.reduceSub, reduceCtorEq, reduceIte] <;> rfl))
    | (apply wo_eff (hg := rfl) (hc := rfl) (hd := rfl); (simp only [go_sem, Nat.reduceAdd, Nat.reduceBEq, Nat.reduceEqDiff, Nat.reduceLT, Nat.reduceLeDiff, Nat.reduceMul, Nat.reduceSub, reduceCtorEq, reduceIte] <;> rfl); (simp only [go_sem, Nat.reduceAdd, Nat.reduceBEq, Nat.reduceEqDiff, Nat.reduceLT, Nat.reduceLeDiff, Nat.reduceMul, Nat.reduceSub, reduceCtorEq, reduceIte] <;> rfl))
    | (apply wo_gT (hg := rfl); (simp only [go_sem, Nat.reduceAdd, Nat.reduceBEq, Nat.reduceEqDiff, Nat.reduceLT, Nat.reduceLeDiff, Nat.reduceMul, Nat.reduceSub, reduceCtorEq, reduceIte] <;> rfl))
    | (apply wo_gU (hg := rfl) (hd := rfl); (simp only [go_sem, Nat.reduceAdd, Nat.reduceBEq, Nat.reduceEqDiff, Nat.reduceLT, Nat.reduceLeDiff, Nat.reduceMul, Nat.reduceSub, reduceCtorEq, reduceIte] <;> rfl); (simp only [go_sem, Nat.reduceAdd, Nat.reduceBEq, Nat.reduceEqDiff, Nat.reduceLT, Nat.reduceLeDiff, Nat.reduceMul, Nat.reduceSub, reduceCtorEq, reduceIte] <;> rfl))
    | (apply wo_gF (hg := rfl) (hd := rfl); (simp only [go_sem, Nat.reduceAdd, Nat.reduceBEq, Nat.reduceEqDiff, Nat.reduceLT, Nat.reduceLeDiff, Nat.reduceMul, Nat.reduceSub, reduceCtorEq, reduceIte] <;> rfl); (simp only [go_sem, Nat.reduceAdd, Nat.reduceBEq, Nat.reduceEqDiff, Nat.reduceLT, Nat.reduceLeDiff, Nat.reduceMul, Nat.reduceSub, reduceCtorEq, reduceIte] <;> rfl))
    | exact wo_nil rfl)
                (apply wo_x (hg := rfl) (hc := rfl) (hd := rfl); (first | rfl | (simp only [List.isEmpty_cons, Nat.le_refl, go_sem, Nat.reduceAdd, Nat.reduceBEq, Nat.reduceEqDiff, Nat.reduceLT, Nat.reduceLeDiff, Nat.reduceMul, Nat.reduceSub, reduceCtorEq, reduceIte] <;> rfl)); (simp only [List.isEmpty_cons, Nat.le_refl, evX, srcT, T.emp, List.flatMap_cons, List.flatMap_nil, go_sem, Nat.reduceAdd, Nat.reduceBEq, Nat.reduceEqDiff, Nat.reduceLT, Nat.reduceLeDiff, Nat.reduceMul, Nat.reduceSub, reduceCtorEq, reduceIte] <;> rfl); (simp only [List.isEmpty_cons, Nat.le_refl, go_sem, Nat.reduceAdd, Nat.reduceBEq, Nat.reduceEqDiff, Nat.reduceLT, Nat.reduceLeDiff, Nat.reduceMul, Nat.reduceSub, reduceCtorEq, reduceIte] <;> rfl))
                repeat (first
    | (apply wo_op (hg := rfl) (hc := rfl) (hd := rfl); (simp only [go_sem, Nat.reduceAdd, Nat.reduceBEq, Nat.reduceEqDiff, Nat.reduceLT, Nat.reduceLeDiff, Nat.reduceMul, Nat.reduceSub, reduceCtorEq, reduceIte] <;> rfl); (simp only [go_sem, Nat.reduceAdd, Nat.reduceBEq, Nat.reduceEqDiff, Nat.reduceLT, Nat.reduceLeDiff, Nat.reduceMul, Nat.reduceSub, reduceCtorEq, reduceIte] <;> rfl))
    | (apply wo_eff (hg := rfl) (hc := rfl) (hd := rfl); (simp only [go_sem, Nat.reduceAdd, Nat.reduceBEq, Nat.reduceEqDiff, Nat.reduceLT, Nat.reduceLeDiff, Nat.reduceMul, Nat.reduceSub, reduceCtorEq, reduceIte] <;> rfl); (simp only [go_sem, Nat.reduceAdd, Nat.reduceBEq, Nat.reduceEqDiff, Nat.reduceLT, Nat.reduceLeDiff, Nat.reduceMul, Nat.reduceSub, reduceCtorEq, reduceIte] <;> rfl))
    | (apply wo_gT (hg := rfl); (simp only [go_sem, Nat.reduceAdd, Nat.reduceBEq, Nat.reduceEqDiff, Nat.reduceLT, Nat.reduceLeDiff, Nat.reduceMul, Nat.reduceSub, reduceCtorEq, reduceIte] <;> rfl))
    | (apply wo_gU (hg := rfl) (hd := rfl); (simp only [go_sem, Nat.reduceAdd, Nat.reduceBEq, Nat.reduceEqDiff, Nat.reduceLT, Nat.reduceLeDiff, Nat.reduceMul, Nat.reduceSub, reduceCtorEq, reduceIte] <;> rfl); (simp only [go_sem, Nat.reduceAdd, Nat.reduceBEq, Nat.reduceEqDiff, Nat.reduceLT, Nat.reduceLeDiff, Nat.reduceMul, Nat.reduceSub, reduceCtorEq, reduceIte] <;> rfl))
    | (apply wo_gF (hg := rfl) (hd := rfl); (simp only [go_sem, Nat.reduceAdd, Nat.reduceBEq, Nat.reduceEqDiff, Nat.reduceLT, Nat.reduceLeDiff, Nat.reduceMul, Nat.reduceSub, reduceCtorEq, reduceIte] <;> rfl); (simp only [go_sem, Nat.reduceAdd, Nat.reduceBEq, Nat.reduceEqDiff, Nat.reduceLT, Nat.reduceLeDiff, Nat.reduceMul, Nat.reduceSub, reduceCtorEq, reduceIte] <;> rfl))
    | exact wo_nil rfl)
                (apply wo_x (hg := rfl) (hc := rfl) (hd := rfl); (first | rfl | (simp only [List.isEmpty_cons, Nat.le_refl, Nat.mul_one, hlE, b1, b2, go_sem, Nat.reduceAdd, Nat.reduceBEq, Nat.reduceEqDiff, Nat.reduceLT, Nat.reduceLeDiff, Nat.reduceMul, Nat.reduceSub, reduceCtorEq, reduceIte] <;> rfl)); (simp only [List.isEmpty_cons, Nat.le_refl, Nat.mul_one, hlE, b1, b2, evX, srcT, T.emp, List.flatMap_cons, List.flatMap_nil, go_sem, Nat.reduceAdd, Nat.reduceBEq, Nat.reduceEqDiff, Nat.reduceLT, Nat.reduceLeDiff, Nat.reduceMul, Nat.reduceSub, reduceCtorEq, reduceIte] <;> rfl); (simp only [List.isEmpty_cons, Nat.le_refl, Nat.mul_one, hlE, b1, b2, go_sem, Nat.reduceAdd, Nat.reduceBEq, Nat.reduceEqDiff, Nat.reduceLT, Nat.reduceLeDiff, Nat.reduceMul, Nat.reduceSub, reduceCtorEq, reduceIte] <;> rfl))
                repeat (first
    | (apply wo_op (hg := rfl) (hc := rfl) (hd := rfl); (simp only [go_sem, Nat.reduceAdd, Nat.reduceBEq, Nat.reduceEqDiff, Nat.reduceLT, Nat.reduceLeDiff, Nat.reduceMul, Nat.reduceSub, reduceCtorEq, reduceIte] <;> rfl); (simp only [go_sem, Nat.reduceAdd, Nat.reduceBEq, Nat.reduceEqDiff, Nat.reduceLT, Nat.reduceLeDiff, Nat.reduceMul, Nat.reduceSub, reduceCtorEq, reduceIte] <;> rfl))
    | (apply wo_eff (hg := rfl) (hc := rfl) (hd := rfl); (simp only [go_sem, Nat.reduceAdd, Nat.reduceBEq, Nat.reduceEqDiff, Nat.reduceLT, Nat.reduceLeDiff, Nat.reduceMul, Nat.reduceSub, reduceCtorEq, reduceIte] <;> rfl); (simp only [go_sem, Nat.reduceAdd, Nat.reduceBEq, Nat.reduceEqDiff, Nat.reduceLT, Nat.reduceLeDiff, Nat.reduceMul, Nat.reduceSub, reduceCtorEq, reduceIte] <;> rfl))
    | (apply wo_gT (hg := rfl); (simp only [go_sem, Nat.reduceAdd, Nat.reduceBEq, Nat.reduceEqDiff, Nat.reduceLT, Nat.reduceLeDiff, Nat.reduceMul, Nat.reduceSub, reduceCtorEq, reduceIte] <;> rfl))
    | (apply wo_gU (hg := rfl) (hd := rfl); (simp only [go_sem, Nat.reduceAdd, Nat.reduceBEq, Nat.reduceEqDiff, Nat.reduceLT, Nat.reduceLeDiff, Nat.reduceMul, Nat.reduceSub, reduceCtorEq, reduceIte] <;> rfl); (simp only [go_sem, Nat.reduceAdd, Nat.reduceBEq, Nat.reduceEqDiff, Nat.reduceLT, Nat.reduceLeDiff, Nat.reduceMul, Nat.reduceSub, reduceCtorEq, reduceIte] <;> rfl))
    | (apply wo_gF (hg := rfl) (hd := rfl); (simp only [go_sem, Nat.reduceAdd, Nat.reduceBEq, Nat.reduceEqDiff, Nat.reduceLT, Nat.reduceLeDiff, Nat.reduceMul, Nat.reduceSub, reduceCtorEq, reduceIte] <;> rfl); (simp only [go_sem, Nat.reduceAdd, Nat.reduceBEq, Nat.reduceEqDiff, Nat.reduceLT, Nat.reduceLeDiff, Nat.reduceMul, Nat.reduceSub, reduceCtorEq, reduceIte] <;> rfl))
    | exact wo_nil rfl)) ?_
              exact h19n htj _ (g + 1) (done ++ [cur]) x (by simp; omega) hx hgrp (gh_keep [6, 8, 47, 48, 49, 9, 11] [32, 69] rfl (by simp [gD, St.keep, St.kp, Go.Pm.look, lowO, lowT, isSome', Function.comp_def, St.set, St.put, D.cells]))
          · cases hc
        · have htj : t = j := by omega
          have d1 : decide ((t : Int) < (j : Int)) = false := by simp; omega
          (repeat refine wc_assoc ?_); refine wc_then (by simp only [d1, go_sem, Nat.reduceAdd, Nat.reduceBEq, Nat.reduceEqDiff, Nat.reduceLT, Nat.reduceLeDiff, Nat.reduceMul, Nat.reduceSub, reduceCtorEq, reduceIte] <;> rfl) ?_
          (repeat refine wc_assoc ?_); refine wc_condThen (by simp only [go_sem, Nat.reduceAdd, Nat.reduceBEq, Nat.reduceEqDiff, Nat.reduceLT, Nat.reduceLeDiff, Nat.reduceMul, Nat.reduceSub, reduceCtorEq, reduceIte] <;> rfl) (fun hc => ?_) (fun hc => ?_)
          · cases hc
          refine wc_exitThen ?_
          subst hLK
          refine loop_exit ?_
          have hxs : grp c O = done ++ [cur] := by rw [hgrp, List.drop_eq_nil_of_le (by omega), grpGo]
          have hg9 : ∀ σ' : St, Gh X2.refs σ' ⟨[(9, .view 69 g 1 0 ((done ++ [cur]).map gD).length)], [(69, .box g (((done ++ [cur]).map gD).map T.d))]⟩ → Gh X2.refs σ' ⟨[(9, .d (.slice ((done ++ [cur]).map gD)))], []⟩ := by
            intro σ' h
            have hcells : ((done ++ [cur]).map gD).flatMap D.cells = (done ++ [cur]).map gD := by
              generalize done ++ [cur] = l
              induction l with
              | nil => rfl
              | cons a l ih => simp only [List.map_cons, List.flatMap_cons, ih]; rfl
            refine .trans h (.trans (.close (t := 9) (id := 69) (g := g) (sz := 1) (xs := (done ++ [cur]).map gD) rfl rfl rfl (by rw [allD_d, hcells]) ?_) (gh_keep [9] [] rfl (by simp [St.keep, St.kp, Go.Pm.look, lowO, lowT, isSome', Function.comp_def, St.set, St.put, D.cells])))
            intro y hy
            obtain ⟨l, _, rfl⟩ := List.mem_map.1 hy
            rfl
          (repeat refine wc_assoc ?_);  refine wc_ghost (hg9 _ (gh_keep [9] [69] rfl (by simp [gD, St.keep, St.kp, Go.Pm.look, lowO, lowT, isSome', Function.comp_def, St.set, St.put, D.cells]))) (by simp only [go_sem, Nat.reduceAdd, Nat.reduceBEq, Nat.reduceEqDiff, Nat.reduceLT, Nat.reduceLeDiff, Nat.reduceMul, Nat.reduceSub, reduceCtorEq, reduceIte] <;> rfl) ?_
          refine wc_ret ⟨.inr rfl, _, (by simp only [Try.f55, go_sem, Nat.reduceAdd, Nat.reduceBEq, Nat.reduceEqDiff, Nat.reduceLT, Nat.reduceLeDiff, Nat.reduceMul, Nat.reduceSub, reduceCtorEq, reduceIte] <;> rfl), ?_⟩
          rw [hRr, hxs]
          exact .refl _
  clear hK
  generalize h1 : (k != 5) = b1 at *
  generalize h2 : (k' != 5) = b2 at *
  refine wc_regCondEnd (b1 || b2) ⟨[(2, .obj 2 0 0), (3, .obj 3 0 0)], [(3, .box 0 [.d (.int .i64 k'), .d (.int .i64 i'), .d (.str s'), .d (.slice (ks'.map .str)), .d (.slice (encL es'))]), (2, .box 0 [.d (.int .i64 k), .d (.int .i64 i), .d (.str s), .d (.slice (ks.map .str)), .d (.slice (encL es))])]⟩ (.refl _) (by
    clear hrest hret
    repeat' (first | (apply wo_op (hg := rfl) (hc := rfl) (hd := rfl); (simp only [h1, h2, go_sem, Nat.reduceAdd, Nat.reduceBEq, Nat.reduceEqDiff, Nat.reduceLT, Nat.reduceLeDiff, Nat.reduceMul, Nat.reduceSub, reduceCtorEq, reduceIte] <;> rfl); (simp only [go_sem, Nat.reduceAdd, Nat.reduceBEq, Nat.reduceEqDiff, Nat.reduceLT, Nat.reduceLeDiff, Nat.reduceMul, Nat.reduceSub, reduceCtorEq, reduceIte] <;> rfl)) | (apply wo_eff (hg := rfl) (hc := rfl) (hd := rfl); (simp only [h1, h2, go_sem, Nat.reduceAdd, Nat.reduceBEq, Nat.reduceEqDiff, Nat.reduceLT, Nat.reduceLeDiff, Nat.reduceMul, Nat.reduceSub, reduceCtorEq, reduceIte] <;> rfl); (simp only [go_sem, Nat.reduceAdd, Nat.reduceBEq, Nat.reduceEqDiff, Nat.reduceLT, Nat.reduceLeDiff, Nat.reduceMul, Nat.reduceSub, reduceCtorEq, reduceIte] <;> rfl)) | (apply wo_gT (hg := rfl); (simp only [h1, h2, go_sem, Nat.reduceAdd, Nat.reduceBEq, Nat.reduceEqDiff, Nat.reduceLT, Nat.reduceLeDiff, Nat.reduceMul, Nat.reduceSub, reduceCtorEq, reduceIte] <;> rfl)) | (apply wo_gU (hg := rfl) (hd := rfl); (simp only [h1, h2, go_sem, Nat.reduceAdd, Nat.reduceBEq, Nat.reduceEqDiff, Nat.reduceLT, Nat.reduceLeDiff, Nat.reduceMul, Nat.reduceSub, reduceCtorEq, reduceIte] <;> rfl); (simp only [go_sem, Nat.reduceAdd, Nat.reduceBEq, Nat.reduceEqDiff, Nat.reduceLT, Nat.reduceLeDiff, Nat.reduceMul, Nat.reduceSub, reduceCtorEq, reduceIte] <;> rfl)) | (apply wo_gF (hg := rfl) (hd := rfl); (simp only [h1, h2, go_sem, Nat.reduceAdd, Nat.reduceBEq, Nat.reduceEqDiff, Nat.reduceLT, Nat.reduceLeDiff, Nat.reduceMul, Nat.reduceSub, reduceCtorEq, reduceIte] <;> rfl); (simp only [go_sem, Nat.reduceAdd, Nat.reduceBEq, Nat.reduceEqDiff, Nat.reduceLT, Nat.reduceLeDiff, Nat.reduceMul, Nat.reduceSub, reduceCtorEq, reduceIte] <;> rfl)) | (refine wo_gST rfl (by simp only [h1, h2, go_sem, Nat.reduceAdd, Nat.reduceBEq, Nat.reduceEqDiff, Nat.reduceLT, Nat.reduceLeDiff, Nat.reduceMul, Nat.reduceSub, reduceCtorEq, reduceIte] <;> rfl) rfl (fun hb => ?_) (fun hb => ?_) <;> (first | subst hb | (rw [Bool.not_eq_true'] at hb; subst hb) | (rw [Bool.not_eq_false'] at hb; subst hb))) | (refine wo_gSF rfl (by simp only [h1, h2, go_sem, Nat.reduceAdd, Nat.reduceBEq, Nat.reduceEqDiff, Nat.reduceLT, Nat.reduceLeDiff, Nat.reduceMul, Nat.reduceSub, reduceCtorEq, reduceIte] <;> rfl) rfl (fun hb => ?_) (fun hb => ?_) <;> (first | subst hb | (rw [Bool.not_eq_true'] at hb; subst hb) | (rw [Bool.not_eq_false'] at hb; subst hb))) | refine wo_nil ?_)
    all_goals exact ⟨rfl, gh_keep [2, 3] [3, 2] rfl rfl⟩) (fun hc σ' hg => ?_) (fun hc σ' hg => ?_)
  · rw [if_pos hc] at hR
    (repeat refine wc_assoc ?_); refine wc_ghost (hg) (by simp only [go_sem, Nat.reduceAdd, Nat.reduceBEq, Nat.reduceEqDiff, Nat.reduceLT, Nat.reduceLeDiff, Nat.reduceMul, Nat.reduceSub, reduceCtorEq, reduceIte] <;> rfl) ?_
    refine wc_ret (hret _ ⟨.inr rfl, _, (by simp only [Try.f55, go_sem, Nat.reduceAdd, Nat.reduceBEq, Nat.reduceEqDiff, Nat.reduceLT, Nat.reduceLeDiff, Nat.reduceMul, Nat.reduceSub, reduceCtorEq, reduceIte] <;> rfl), ?_⟩)
    rw [hR]
    exact .cons D.nil_le (.refl _)
  rw [if_neg (by simp [hc])] at hR
  have hk : k = 5 := by
    by_cases h : k = 5
    · exact h
    · have : b1 = true := by rw [← h1]; simpa using h
      rw [this] at hc; cases hc
  have hk' : k' = 5 := by
    by_cases h : k' = 5
    · exact h
    · have : b2 = true := by rw [← h2]; simpa using h
      rw [this] at hc; cases b1 <;> cases hc
  by_cases h3 : es.length = es'.length
  · have d3 : ((es.length : Int) != (es'.length : Int)) = false := by simp [h3]
    rw [if_neg (by simp [d3])] at hR
    (repeat refine wc_assoc ?_); refine wc_ghost (hg) (by simp only [encL_length, d3, go_sem, Nat.reduceAdd, Nat.reduceBEq, Nat.reduceEqDiff, Nat.reduceLT, Nat.reduceLeDiff, Nat.reduceMul, Nat.reduceSub, reduceCtorEq, reduceIte] <;> rfl) ?_
    (repeat refine wc_assoc ?_); refine wc_cond (by simp only [go_sem, Nat.reduceAdd, Nat.reduceBEq, Nat.reduceEqDiff, Nat.reduceLT, Nat.reduceLeDiff, Nat.reduceMul, Nat.reduceSub, reduceCtorEq, reduceIte] <;> rfl) (fun hc => ?_) (fun hc => ?_)
    · cases hc
    refine wc_skipEnd (hrest _ hk hk' h3 hR (gh_keep [2, 3] [3, 2] rfl rfl))
  · have d3 : ((es.length : Int) != (es'.length : Int)) = true := by simp; omega
    rw [if_pos d3] at hR
    (repeat refine wc_assoc ?_); refine wc_ghost (hg) (by simp only [encL_length, d3, go_sem, Nat.reduceAdd, Nat.reduceBEq, Nat.reduceEqDiff, Nat.reduceLT, Nat.reduceLeDiff, Nat.reduceMul, Nat.reduceSub, reduceCtorEq, reduceIte] <;> rfl) ?_
    (repeat refine wc_assoc ?_); refine wc_cond (by simp only [go_sem, Nat.reduceAdd, Nat.reduceBEq, Nat.reduceEqDiff, Nat.reduceLT, Nat.reduceLeDiff, Nat.reduceMul, Nat.reduceSub, reduceCtorEq, reduceIte] <;> rfl) (fun hc => ?_) (fun hc => ?_)
    · (repeat refine wc_assoc ?_); refine wc_then (by simp only [go_sem, Nat.reduceAdd, Nat.reduceBEq, Nat.reduceEqDiff, Nat.reduceLT, Nat.reduceLeDiff, Nat.reduceMul, Nat.reduceSub, reduceCtorEq, reduceIte] <;> rfl) ?_
      refine wc_ret (hret _ ⟨.inr rfl, _, (by simp only [Try.f55, go_sem, Nat.reduceAdd, Nat.reduceBEq, Nat.reduceEqDiff, Nat.reduceLT, Nat.reduceLeDiff, Nat.reduceMul, Nat.reduceSub, reduceCtorEq, reduceIte] <;> rfl), ?_⟩)
      rw [hR]
      exact .cons D.nil_le (.refl _)
    · cases hc
end Go.Proofs.Ytnkknmdpakebhaa
