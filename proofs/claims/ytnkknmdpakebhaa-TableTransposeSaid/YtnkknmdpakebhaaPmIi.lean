/- What sorting numbers by keys gives; the sanity check. -/
import Derived.Test.YtnkknmdpakebhaaPmIh
set_option linter.unusedSimpArgs false
set_option linter.unusedVariables false
set_option maxHeartbeats 4000000
namespace Go.Proofs.Ytnkknmdpakebhaa
open Go Go.Pm
attribute [local irreducible] WC WOps WOpsG
attribute [local go_sem] WOps WOp callOf gtmp gval gvalT evOp evBuiltin binT St.ev constT St.m envOf Go.Pm.look St.upd St.putO St.put St.set allT allP T.toD unD1 T.cells T.asSlice D.cells D.sz eqTy binD unD cvD cv2 fillD ldT ldD TyI.agg allD splice isSome' cut bnd resT resOf Done Option.all_some Option.all_none Option.getD_some Option.getD_none Option.bind_some Option.bind_none Option.map_some Option.map_none List.map List.map_cons List.map_nil List.cons_append List.nil_append List.append_nil List.take_succ_cons List.drop_succ_cons List.take_zero List.drop_zero List.take_nil List.drop_nil List.head?_cons List.length_cons List.length_nil List.getElem?_cons_zero List.getElem?_cons_succ List.getElem?_toArray List.all_cons List.all_nil ite_true ite_false if_true if_false Bool.not_false Bool.not_true decide_true decide_false and_true true_and and_self false_and and_false Bool.and_true Bool.true_and Bool.or_true Bool.true_or List.size_toArray seqFrom beq_self_eq_true BEq.rfl eq_self Nat.succ_ne_self false_or or_false Nat.zero_add Nat.add_zero Nat.not_lt_zero Nat.one_ne_zero tab2 tab3 tab4 tab5 tab9 tab22 tab24 tab25 tab27 tab30 tab54 tab57 tab78 tab85
def keyOf (ks : List Int) (x : Int) : Int := ks.getD x.toNat 0
theorem kc_num {ks : List Int} {x y : Int} (hx : 0 ≤ x ∧ x < (ks.length : Int)) (hy : 0 ≤ y ∧ y < (ks.length : Int)) : kc (ks.map V.num) x y = iord (keyOf ks x) (keyOf ks y) := by
  have h1 : x.toNat < ks.length := by omega
  have h2 : y.toNat < ks.length := by omega
  unfold kc keyOf
  rw [show (ks.map V.num).getD x.toNat V.zero = V.num ks[x.toNat] by simp [List.getD, h1], show (ks.map V.num).getD y.toNat V.zero = V.num ks[y.toNat] by simp [List.getD, h2],
    show ks.getD x.toNat 0 = ks[x.toNat] by simp [List.getD, h1], show ks.getD y.toNat 0 = ks[y.toNat] by simp [List.getD, h2], num_cmp]
def ordK (n : Nat) (ks : List Int) : List Int := isort (fun a b => iord (keyOf ks a) (keyOf ks b)) ((List.range n).map Int.ofNat)
theorem range_mem {n : Nat} {x : Int} (h : x ∈ (List.range n).map Int.ofNat) : 0 ≤ x ∧ x < (n : Int) := by
  obtain ⟨a, ha, rfl⟩ := List.mem_map.1 h
  have := List.mem_range.1 ha
  exact ⟨Int.natCast_nonneg _, Int.ofNat_lt.2 this⟩
theorem ordK_mem {n : Nat} {ks : List Int} {x : Int} (h : x ∈ ordK n ks) : 0 ≤ x ∧ x < (n : Int) := by
  unfold ordK at h
  rw [isort_mem] at h
  exact range_mem h
theorem ordK_length (n : Nat) (ks : List Int) : (ordK n ks).length = n := by simp [ordK, isort_length]
theorem range_lt (n : Nat) : ((List.range n).map Int.ofNat).Pairwise (· < ·) := by
  rw [List.pairwise_map]
  exact List.pairwise_lt_range.imp (fun h => Int.ofNat_lt.2 h)
theorem ordK_lex (n : Nat) (ks : List Int) : (ordK n ks).Pairwise (Lex (keyOf ks)) := isort_lex (range_lt n)
theorem ordO_num {ns ks : List Int} (h : ns.length = ks.length) : ordO (V.arr (ns.map V.num)) (V.arr (ks.map V.num)) = ordK ns.length ks := by
  unfold ordO ordK
  simp only [V.arr, V.els, List.length_map]
  refine isort_congr (fun x hx y hy => ?_)
  have h1 := range_mem hx
  have h2 := range_mem hy
  exact kc_num (by omega) (by omega)
theorem grpOf_num {ns ks : List Int} (h : ns.length = ks.length) : grpOf (V.arr (ns.map V.num)) (V.arr (ks.map V.num)) = (grp (fun a b => iord (keyOf ks a) (keyOf ks b)) (ordK ns.length ks), 0) := by
  unfold grpOf grpRes
  rw [ordO_num h]
  have e1 : (V.arr (ns.map V.num)).kd = 5 := rfl
  have e2 : (V.arr (ks.map V.num)).kd = 5 := rfl
  have e3 : (V.arr (ns.map V.num)).els = ns.map V.num := rfl
  have e4 : (V.arr (ks.map V.num)).els = ks.map V.num := rfl
  rw [e1, e2, e3, e4, if_neg (by simp), if_neg (by simp [h])]
  congr 1
  refine grp_congr (fun x hx y hy => ?_)
  have h1 := ordK_mem hx
  have h2 := ordK_mem hy
  exact kc_num (by omega) (by omega)
theorem pick_num (ns : List Int) {g : List Int} (h : ∀ x ∈ g, 0 ≤ x ∧ x < (ns.length : Int)) : pickL (ns.map V.num) g = (g.map (keyOf ns)).map V.num := by
  unfold pickL
  rw [List.map_map]
  refine List.map_congr_left (fun x hx => ?_)
  have := h x hx
  have h1 : x.toNat < ns.length := by omega
  simp [keyOf, List.getD, h1]
theorem sort_val {ns ks : List Int} (h : ns.length = ks.length) (hn : ns.length ≤ 1024) :
    applyRes [V.arr (ns.map V.num), V.arr (ks.map V.num)] (sortByRes (V.arr (ns.map V.num)) (V.arr (ks.map V.num))) = (V.arr (((ordK ns.length ks).map (keyOf ns)).map V.num), 0) := by
  unfold applyRes
  rw [if_pos (by simp [nums_valid ns hn, nums_valid ks (by omega)])]
  unfold sortByRes
  rw [grpOf_num h]
  unfold chosenRes
  rw [if_neg (by simp)]
  simp only []
  rw [pick_flat, grp_flat]
  have e3 : (V.arr (ns.map V.num)).els = ns.map V.num := rfl
  rw [e3, pick_num ns (fun x hx => ordK_mem hx), nums_fit _ (by simp [ordK_length]; omega)]
theorem awake_val : applyRes [V.arr [V.num 3, V.num 1, V.num 2], V.arr [V.num 1, V.num 0, V.num 1]] (groupByRes (V.arr [V.num 3, V.num 1, V.num 2]) (V.arr [V.num 1, V.num 0, V.num 1])) = (V.arr [V.arr [V.num 1], V.arr [V.num 3, V.num 2]], 0) := by
  have e1 : [V.num 3, V.num 1, V.num 2] = [3, 1, 2].map V.num := rfl
  have e2 : [V.num 1, V.num 0, V.num 1] = [1, 0, 1].map V.num := rfl
  rw [e1, e2]
  unfold applyRes
  rw [if_pos (by simp [-List.map_cons, nums_valid])]
  unfold groupByRes
  rw [grpOf_num (ns := [3, 1, 2]) (ks := [1, 0, 1]) rfl]
  have e5 : grp (fun a b => iord (keyOf [1, 0, 1] a) (keyOf [1, 0, 1] b)) (ordK ([3, 1, 2] : List Int).length [1, 0, 1]) = [[1], [0, 2]] := by decide
  rw [e5]
  unfold chosenRes
  rw [if_neg (by simp)]
  have e6 : ([[1], [0, 2]] : List (List Int)).flatMap (fun g => [V.arr (pickL (V.arr ([3, 1, 2].map V.num)).els g)]) = [V.arr ([1].map V.num), V.arr ([3, 2].map V.num)] := rfl
  simp only [e6]
  have f1 : (V.arr ([1].map V.num)).fits 1 false 1 0 = (true, 3, 0) := by
    rw [arr_fits _ 1 false 1 0 (by omega) (by omega) (by omega) (by omega) (by omega) (by omega) (by simp), nums_fits [1] _ _ _ _ (by omega) (by simp) (by omega) (by omega)]; rfl
  have f2 : (V.arr ([3, 2].map V.num)).fits 1 false 3 0 = (true, 6, 0) := by
    rw [arr_fits _ 1 false 3 0 (by omega) (by omega) (by omega) (by omega) (by omega) (by omega) (by simp), nums_fits [3, 2] _ _ _ _ (by omega) (by simp) (by omega) (by omega)]; rfl
  have f3 : fitsL [V.arr ([1].map V.num), V.arr ([3, 2].map V.num)] 1 false 1 0 = (true, 6, 0) := by
    rw [fitsL, f1, if_pos rfl]
    show fitsL [V.arr ([3, 2].map V.num)] 1 false 3 0 = _
    rw [fitsL, f2, if_pos rfl]
    rfl
  have f4 : (V.arr [V.arr ([1].map V.num), V.arr ([3, 2].map V.num)]).fits 0 false 0 0 = (true, 6, 0) := by
    rw [arr_fits _ 0 false 0 0 (by omega) (by omega) (by omega) (by omega) (by omega) (by omega) (by simp)]
    exact f3
  unfold V.fit
  rw [f4, if_pos rfl]
  rfl
theorem awake_spec : Pm.Spec X0.P 6 [] [.bool true] := by
  have hn : ∀ n : Int, Pm.Spec X0.P 7 [.int .i64 n] [.agg [.int .i64 3, .int .i64 n, .str ⟨#[]⟩, .slice [], .slice []]] := fun n => by
    have := num_spec n
    simpa only [V.num, V.enc, encL, List.map_nil] using this
  have hl : ∀ l : List V, Pm.Spec X0.P 10 [.slice (encL l)] [.agg [.int .i64 5, .int .i64 0, .str ⟨#[]⟩, .slice [], .slice (encL l)]] := fun l => by
    have := list_spec l
    simpa only [V.arr, V.enc, List.map_nil] using this
  have l1 := hl [V.num 3, V.num 1, V.num 2]
  have l2 := hl [V.num 1, V.num 0, V.num 1]
  have l3 := hl [V.num 1]
  have l4 := hl [V.num 3, V.num 2]
  have l5 := hl [V.arr [V.num 1], V.arr [V.num 3, V.num 2]]
  have hg := tgroup_spec (V.arr [V.num 3, V.num 1, V.num 2]) (V.arr [V.num 1, V.num 0, V.num 1]) (by simp [V.arr, V.els]) (fun h => groupBy_tame (by simp [V.arr, V.els]) h)
  rw [awake_val] at hg
  have hs := same_spec (V.arr [V.arr [V.num 1], V.arr [V.num 3, V.num 2]]) (V.arr [V.arr [V.num 1], V.arr [V.num 3, V.num 2]])
  have hst : (V.arr [V.arr [V.num 1], V.arr [V.num 3, V.num 2]]).same (V.arr [V.arr [V.num 1], V.arr [V.num 3, V.num 2]]) = true := by
    simp [V.arr, V.num, V.same, sameL]
  rw [hst] at hs
  simp only [V.arr, V.num, V.enc, encL, List.map_nil] at l1 l2 l3 l4 l5 hg hs
  refine Spec.of fn6 rfl rfl (by show 0 ≤ 32; decide) ?_
  show WC X0 32 _ _ _
  (repeat refine wc_assoc ?_); refine wc_then (by simp only [go_sem, Nat.reduceAdd, Nat.reduceBEq, Nat.reduceEqDiff, Nat.reduceLT, Nat.reduceLeDiff, Nat.reduceMul, Nat.reduceSub, reduceCtorEq, reduceIte] <;> rfl) ?_
  (repeat refine wc_assoc ?_);  refine wc_then (by
    repeat (first
    | (apply wo_op (hg := rfl) (hc := rfl) (hd := rfl); (simp only [go_sem, Nat.reduceAdd, Nat.reduceBEq, Nat.reduceEqDiff, Nat.reduceLT, Nat.reduceLeDiff, Nat.reduceMul, Nat.reduceSub, reduceCtorEq, reduceIte] <;> rfl); (simp only [go_sem, Nat.reduceAdd, Nat.reduceBEq, Nat.reduceEqDiff, Nat.reduceLT, Nat.reduceLeDiff, Nat.reduceMul, Nat.reduceSub, reduceCtorEq, reduceIte] <;> rfl))
    | (apply wo_eff (hg := rfl) (hc := rfl) (hd := rfl); (simp only [go_sem, Nat.reduceAdd, Nat.reduceBEq, Nat.reduceEqDiff, Nat.reduceLT, Nat.reduceLeDiff, Nat.reduceMul, Nat.reduceSub, reduceCtorEq, reduceIte] <;> rfl); (simp only [go_sem, Nat.reduceAdd, Nat.reduceBEq, Nat.reduceEqDiff, Nat.reduceLT, Nat.reduceLeDiff, Nat.reduceMul, Nat.reduceSub, reduceCtorEq, reduceIte] <;> rfl))
    | (apply wo_gT (hg := rfl); (simp only [go_sem, Nat.reduceAdd, Nat.reduceBEq, Nat.reduceEqDiff, Nat.reduceLT, Nat.reduceLeDiff, Nat.reduceMul, Nat.reduceSub, reduceCtorEq, reduceIte] <;> rfl))
    | (apply wo_gU (hg := rfl) (hd := rfl); (simp only [go_sem, Nat.reduceAdd, Nat.reduceBEq, Nat.reduceEqDiff, Nat.reduceLT, Nat.reduceLeDiff, Nat.reduceMul, Nat.reduceSub, reduceCtorEq, reduceIte] <;> rfl); (simp only [go_sem, Nat.reduceAdd, Nat.reduceBEq, Nat.reduceEqDiff, Nat.reduceLT, Nat.reduceLeDiff, Nat.reduceMul, Nat.reduceSub, reduceCtorEq, reduceIte] <;> rfl))
    | (apply wo_gF (hg := rfl) (hd := rfl); (simp only [go_sem, Nat.reduceAdd, Nat.reduceBEq, Nat.reduceEqDiff, Nat.reduceLT, Nat.reduceLeDiff, Nat.reduceMul, Nat.reduceSub, reduceCtorEq, reduceIte] <;> rfl); (simp only [go_sem, Nat.reduceAdd, Nat.reduceBEq, Nat.reduceEqDiff, Nat.reduceLT, Nat.reduceLeDiff, Nat.reduceMul, Nat.reduceSub, reduceCtorEq, reduceIte] <;> rfl))
    | exact wo_nil rfl)
    refine wo_call rfl rfl (by simp only [go_sem, Nat.reduceAdd, Nat.reduceBEq, Nat.reduceEqDiff, Nat.reduceLT, Nat.reduceLeDiff, Nat.reduceMul, Nat.reduceSub, reduceCtorEq, reduceIte] <;> rfl) (by simp only [go_sem, Nat.reduceAdd, Nat.reduceBEq, Nat.reduceEqDiff, Nat.reduceLT, Nat.reduceLeDiff, Nat.reduceMul, Nat.reduceSub, reduceCtorEq, reduceIte] <;> rfl) (.refl _) ((hn 3)) rfl (by simp only [go_sem, Nat.reduceAdd, Nat.reduceBEq, Nat.reduceEqDiff, Nat.reduceLT, Nat.reduceLeDiff, Nat.reduceMul, Nat.reduceSub, reduceCtorEq, reduceIte] <;> rfl) ?_
    repeat (first
    | (apply wo_op (hg := rfl) (hc := rfl) (hd := rfl); (simp only [go_sem, Nat.reduceAdd, Nat.reduceBEq, Nat.reduceEqDiff, Nat.reduceLT, Nat.reduceLeDiff, Nat.reduceMul, Nat.reduceSub, reduceCtorEq, reduceIte] <;> rfl); (simp only [go_sem, Nat.reduceAdd, Nat.reduceBEq, Nat.reduceEqDiff, Nat.reduceLT, Nat.reduceLeDiff, Nat.reduceMul, Nat.reduceSub, reduceCtorEq, reduceIte] <;> rfl))
    | (apply wo_eff (hg := rfl) (hc := rfl) (hd := rfl); (simp only [go_sem, Nat.reduceAdd, Nat.reduceBEq, Nat.reduceEqDiff, Nat.reduceLT, Nat.reduceLeDiff, Nat.reduceMul, Nat.reduceSub, reduceCtorEq, reduceIte] <;> rfl); (simp only [go_sem, Nat.reduceAdd, Nat.reduceBEq, Nat.reduceEqDiff, Nat.reduceLT, Nat.reduceLeDiff, Nat.reduceMul, Nat.reduceSub, reduceCtorEq, reduceIte] <;> rfl))
    | (apply wo_gT (hg := rfl); (simp only [go_sem, Nat.reduceAdd, Nat.reduceBEq, Nat.reduceEqDiff, Nat.reduceLT, Nat.reduceLeDiff, Nat.reduceMul, Nat.reduceSub, reduceCtorEq, reduceIte] <;> rfl))
    | (apply wo_gU (hg := rfl) (hd := rfl); (simp only [go_sem, Nat.reduceAdd, Nat.reduceBEq, Nat.reduceEqDiff, Nat.reduceLT, Nat.reduceLeDiff, Nat.reduceMul, Nat.reduceSub, reduceCtorEq, reduceIte] <;> rfl); (simp only [go_sem, Nat.reduceAdd, Nat.reduceBEq, Nat.reduceEqDiff, Nat.reduceLT, Nat.reduceLeDiff, Nat.reduceMul, Nat.reduceSub, reduceCtorEq, reduceIte] <;> rfl))
    | (apply wo_gF (hg := rfl) (hd := rfl); (simp only [go_sem, Nat.reduceAdd, Nat.reduceBEq, Nat.reduceEqDiff, Nat.reduceLT, Nat.reduceLeDiff, Nat.reduceMul, Nat.reduceSub, reduceCtorEq, reduceIte] <;> rfl); (simp only [go_sem, Nat.reduceAdd, Nat.reduceBEq, Nat.reduceEqDiff, Nat.reduceLT, Nat.reduceLeDiff, Nat.reduceMul, Nat.reduceSub, reduceCtorEq, reduceIte] <;> rfl))
    | exact wo_nil rfl)
    refine wo_call rfl rfl (by simp only [go_sem, Nat.reduceAdd, Nat.reduceBEq, Nat.reduceEqDiff, Nat.reduceLT, Nat.reduceLeDiff, Nat.reduceMul, Nat.reduceSub, reduceCtorEq, reduceIte] <;> rfl) (by simp only [go_sem, Nat.reduceAdd, Nat.reduceBEq, Nat.reduceEqDiff, Nat.reduceLT, Nat.reduceLeDiff, Nat.reduceMul, Nat.reduceSub, reduceCtorEq, reduceIte] <;> rfl) (.refl _) ((hn 1)) rfl (by simp only [go_sem, Nat.reduceAdd, Nat.reduceBEq, Nat.reduceEqDiff, Nat.reduceLT, Nat.reduceLeDiff, Nat.reduceMul, Nat.reduceSub, reduceCtorEq, reduceIte] <;> rfl) ?_
    repeat (first
    | (apply wo_op (hg := rfl) (hc := rfl) (hd := rfl); (simp only [go_sem, Nat.reduceAdd, Nat.reduceBEq, Nat.reduceEqDiff, Nat.reduceLT, Nat.reduceLeDiff, Nat.reduceMul, Nat.reduceSub, reduceCtorEq, reduceIte] <;> rfl); (simp only [go_sem, Nat.reduceAdd, Nat.reduceBEq, Nat.reduceEqDiff, Nat.reduceLT, Nat.reduceLeDiff, Nat.reduceMul, Nat.reduceSub, reduceCtorEq, reduceIte] <;> rfl))
    | (apply wo_eff (hg := rfl) (hc := rfl) (hd := rfl); (simp only [go_sem, Nat.reduceAdd, Nat.reduceBEq, Nat.reduceEqDiff, Nat.reduceLT, Nat.reduceLeDiff, Nat.reduceMul, Nat.reduceSub, reduceCtorEq, reduceIte] <;> rfl); (simp only [go_sem, Nat.reduceAdd, Nat.reduceBEq, Nat.reduceEqDiff, Nat.reduceLT, Nat.reduceLeDiff, Nat.reduceMul, Nat.reduceSub, reduceCtorEq, reduceIte] <;> rfl))
    | (apply wo_gT (hg := rfl); (simp only [go_sem, Nat.reduceAdd, Nat.reduceBEq, Nat.reduceEqDiff, Nat.reduceLT, Nat.reduceLeDiff, Nat.reduceMul, Nat.reduceSub, reduceCtorEq, reduceIte] <;> rfl))
    | (apply wo_gU (hg := rfl) (hd := rfl); (simp only [go_sem, Nat.reduceAdd, Nat.reduceBEq, Nat.reduceEqDiff, Nat.reduceLT, Nat.reduceLeDiff, Nat.reduceMul, Nat.reduceSub, reduceCtorEq, reduceIte] <;> rfl); (simp only [go_sem, Nat.reduceAdd, Nat.reduceBEq, Nat.reduceEqDiff, Nat.reduceLT, Nat.reduceLeDiff, Nat.reduceMul, Nat.reduceSub, reduceCtorEq, reduceIte] <;> rfl))
    | (apply wo_gF (hg := rfl) (hd := rfl); (simp only [go_sem, Nat.reduceAdd, Nat.reduceBEq, Nat.reduceEqDiff, Nat.reduceLT, Nat.reduceLeDiff, Nat.reduceMul, Nat.reduceSub, reduceCtorEq, reduceIte] <;> rfl); (simp only [go_sem, Nat.reduceAdd, Nat.reduceBEq, Nat.reduceEqDiff, Nat.reduceLT, Nat.reduceLeDiff, Nat.reduceMul, Nat.reduceSub, reduceCtorEq, reduceIte] <;> rfl))
    | exact wo_nil rfl)
    refine wo_call rfl rfl (by simp only [go_sem, Nat.reduceAdd, Nat.reduceBEq, Nat.reduceEqDiff, Nat.reduceLT, Nat.reduceLeDiff, Nat.reduceMul, Nat.reduceSub, reduceCtorEq, reduceIte] <;> rfl) (by simp only [go_sem, Nat.reduceAdd, Nat.reduceBEq, Nat.reduceEqDiff, Nat.reduceLT, Nat.reduceLeDiff, Nat.reduceMul, Nat.reduceSub, reduceCtorEq, reduceIte] <;> rfl) (.refl _) ((hn 2)) rfl (by simp only [go_sem, Nat.reduceAdd, Nat.reduceBEq, Nat.reduceEqDiff, Nat.reduceLT, Nat.reduceLeDiff, Nat.reduceMul, Nat.reduceSub, reduceCtorEq, reduceIte] <;> rfl) ?_
    repeat (first
    | (apply wo_op (hg := rfl) (hc := rfl) (hd := rfl); (simp only [go_sem, Nat.reduceAdd, Nat.reduceBEq, Nat.reduceEqDiff, Nat.reduceLT, Nat.reduceLeDiff, Nat.reduceMul, Nat.reduceSub, reduceCtorEq, reduceIte] <;> rfl); (simp only [go_sem, Nat.reduceAdd, Nat.reduceBEq, Nat.reduceEqDiff, Nat.reduceLT, Nat.reduceLeDiff, Nat.reduceMul, Nat.reduceSub, reduceCtorEq, reduceIte] <;> rfl))
    | (apply wo_eff (hg := rfl) (hc := rfl) (hd := rfl); (simp only [go_sem, Nat.reduceAdd, Nat.reduceBEq, Nat.reduceEqDiff, Nat.reduceLT, Nat.reduceLeDiff, Nat.reduceMul, Nat.reduceSub, reduceCtorEq, reduceIte] <;> rfl); (simp only [go_sem, Nat.reduceAdd, Nat.reduceBEq, Nat.reduceEqDiff, Nat.reduceLT, Nat.reduceLeDiff, Nat.reduceMul, Nat.reduceSub, reduceCtorEq, reduceIte] <;> rfl))
    | (apply wo_gT (hg := rfl); (simp only [go_sem, Nat.reduceAdd, Nat.reduceBEq, Nat.reduceEqDiff, Nat.reduceLT, Nat.reduceLeDiff, Nat.reduceMul, Nat.reduceSub, reduceCtorEq, reduceIte] <;> rfl))
    | (apply wo_gU (hg := rfl) (hd := rfl); (simp only [go_sem, Nat.reduceAdd, Nat.reduceBEq, Nat.reduceEqDiff, Nat.reduceLT, Nat.reduceLeDiff, Nat.reduceMul, Nat.reduceSub, reduceCtorEq, reduceIte] <;> rfl); (simp only [go_sem, Nat.reduceAdd, Nat.reduceBEq, Nat.reduceEqDiff, Nat.reduceLT, Nat.reduceLeDiff, Nat.reduceMul, Nat.reduceSub, reduceCtorEq, reduceIte] <;> rfl))
    | (apply wo_gF (hg := rfl) (hd := rfl); (simp only [go_sem, Nat.reduceAdd, Nat.reduceBEq, Nat.reduceEqDiff, Nat.reduceLT, Nat.reduceLeDiff, Nat.reduceMul, Nat.reduceSub, reduceCtorEq, reduceIte] <;> rfl); (simp only [go_sem, Nat.reduceAdd, Nat.reduceBEq, Nat.reduceEqDiff, Nat.reduceLT, Nat.reduceLeDiff, Nat.reduceMul, Nat.reduceSub, reduceCtorEq, reduceIte] <;> rfl))
    | exact wo_nil rfl)
    refine wo_call rfl rfl (by simp only [go_sem, Nat.reduceAdd, Nat.reduceBEq, Nat.reduceEqDiff, Nat.reduceLT, Nat.reduceLeDiff, Nat.reduceMul, Nat.reduceSub, reduceCtorEq, reduceIte] <;> rfl) (by simp only [go_sem, Nat.reduceAdd, Nat.reduceBEq, Nat.reduceEqDiff, Nat.reduceLT, Nat.reduceLeDiff, Nat.reduceMul, Nat.reduceSub, reduceCtorEq, reduceIte] <;> rfl) (.refl _) ((l1)) rfl (by simp only [go_sem, Nat.reduceAdd, Nat.reduceBEq, Nat.reduceEqDiff, Nat.reduceLT, Nat.reduceLeDiff, Nat.reduceMul, Nat.reduceSub, reduceCtorEq, reduceIte] <;> rfl) ?_
    repeat (first
    | (apply wo_op (hg := rfl) (hc := rfl) (hd := rfl); (simp only [go_sem, Nat.reduceAdd, Nat.reduceBEq, Nat.reduceEqDiff, Nat.reduceLT, Nat.reduceLeDiff, Nat.reduceMul, Nat.reduceSub, reduceCtorEq, reduceIte] <;> rfl); (simp only [go_sem, Nat.reduceAdd, Nat.reduceBEq, Nat.reduceEqDiff, Nat.reduceLT, Nat.reduceLeDiff, Nat.reduceMul, Nat.reduceSub, reduceCtorEq, reduceIte] <;> rfl))
    | (apply wo_eff (hg := rfl) (hc := rfl) (hd := rfl); (simp only [go_sem, Nat.reduceAdd, Nat.reduceBEq, Nat.reduceEqDiff, Nat.reduceLT, Nat.reduceLeDiff, Nat.reduceMul, Nat.reduceSub, reduceCtorEq, reduceIte] <;> rfl); (simp only [go_sem, Nat.reduceAdd, Nat.reduceBEq, Nat.reduceEqDiff, Nat.reduceLT, Nat.reduceLeDiff, Nat.reduceMul, Nat.reduceSub, reduceCtorEq, reduceIte] <;> rfl))
    | (apply wo_gT (hg := rfl); (simp only [go_sem, Nat.reduceAdd, Nat.reduceBEq, Nat.reduceEqDiff, Nat.reduceLT, Nat.reduceLeDiff, Nat.reduceMul, Nat.reduceSub, reduceCtorEq, reduceIte] <;> rfl))
    | (apply wo_gU (hg := rfl) (hd := rfl); (simp only [go_sem, Nat.reduceAdd, Nat.reduceBEq, Nat.reduceEqDiff, Nat.reduceLT, Nat.reduceLeDiff, Nat.reduceMul, Nat.reduceSub, reduceCtorEq, reduceIte] <;> rfl); (simp only [go_sem, Nat.reduceAdd, Nat.reduceBEq, Nat.reduceEqDiff, Nat.reduceLT, Nat.reduceLeDiff, Nat.reduceMul, Nat.reduceSub, reduceCtorEq, reduceIte] <;> rfl))
    | (apply wo_gF (hg := rfl) (hd := rfl); (simp only [go_sem, Nat.reduceAdd, Nat.reduceBEq, Nat.reduceEqDiff, Nat.reduceLT, Nat.reduceLeDiff, Nat.reduceMul, Nat.reduceSub, reduceCtorEq, reduceIte] <;> rfl); (simp only [go_sem, Nat.reduceAdd, Nat.reduceBEq, Nat.reduceEqDiff, Nat.reduceLT, Nat.reduceLeDiff, Nat.reduceMul, Nat.reduceSub, reduceCtorEq, reduceIte] <;> rfl))
    | exact wo_nil rfl)
    refine wo_call rfl rfl (by simp only [go_sem, Nat.reduceAdd, Nat.reduceBEq, Nat.reduceEqDiff, Nat.reduceLT, Nat.reduceLeDiff, Nat.reduceMul, Nat.reduceSub, reduceCtorEq, reduceIte] <;> rfl) (by simp only [go_sem, Nat.reduceAdd, Nat.reduceBEq, Nat.reduceEqDiff, Nat.reduceLT, Nat.reduceLeDiff, Nat.reduceMul, Nat.reduceSub, reduceCtorEq, reduceIte] <;> rfl) (.refl _) ((hn 1)) rfl (by simp only [go_sem, Nat.reduceAdd, Nat.reduceBEq, Nat.reduceEqDiff, Nat.reduceLT, Nat.reduceLeDiff, Nat.reduceMul, Nat.reduceSub, reduceCtorEq, reduceIte] <;> rfl) ?_
    repeat (first
    | (apply wo_op (hg := rfl) (hc := rfl) (hd := rfl); (simp only [go_sem, Nat.reduceAdd, Nat.reduceBEq, Nat.reduceEqDiff, Nat.reduceLT, Nat.reduceLeDiff, Nat.reduceMul, Nat.reduceSub, reduceCtorEq, reduceIte] <;> rfl); (simp only [go_sem, Nat.reduceAdd, Nat.reduceBEq, Nat.reduceEqDiff, Nat.reduceLT, Nat.reduceLeDiff, Nat.reduceMul, Nat.reduceSub, reduceCtorEq, reduceIte] <;> rfl))
    | (apply wo_eff (hg := rfl) (hc := rfl) (hd := rfl); (simp only [go_sem, Nat.reduceAdd, Nat.reduceBEq, Nat.reduceEqDiff, Nat.reduceLT, Nat.reduceLeDiff, Nat.reduceMul, Nat.reduceSub, reduceCtorEq, reduceIte] <;> rfl); (simp only [go_sem, Nat.reduceAdd, Nat.reduceBEq, Nat.reduceEqDiff, Nat.reduceLT, Nat.reduceLeDiff, Nat.reduceMul, Nat.reduceSub, reduceCtorEq, reduceIte] <;> rfl))
    | (apply wo_gT (hg := rfl); (simp only [go_sem, Nat.reduceAdd, Nat.reduceBEq, Nat.reduceEqDiff, Nat.reduceLT, Nat.reduceLeDiff, Nat.reduceMul, Nat.reduceSub, reduceCtorEq, reduceIte] <;> rfl))
    | (apply wo_gU (hg := rfl) (hd := rfl); (simp only [go_sem, Nat.reduceAdd, Nat.reduceBEq, Nat.reduceEqDiff, Nat.reduceLT, Nat.reduceLeDiff, Nat.reduceMul, Nat.reduceSub, reduceCtorEq, reduceIte] <;> rfl); (simp only [go_sem, Nat.reduceAdd, Nat.reduceBEq, Nat.reduceEqDiff, Nat.reduceLT, Nat.reduceLeDiff, Nat.reduceMul, Nat.reduceSub, reduceCtorEq, reduceIte] <;> rfl))
    | (apply wo_gF (hg := rfl) (hd := rfl); (simp only [go_sem, Nat.reduceAdd, Nat.reduceBEq, Nat.reduceEqDiff, Nat.reduceLT, Nat.reduceLeDiff, Nat.reduceMul, Nat.reduceSub, reduceCtorEq, reduceIte] <;> rfl); (simp only [go_sem, Nat.reduceAdd, Nat.reduceBEq, Nat.reduceEqDiff, Nat.reduceLT, Nat.reduceLeDiff, Nat.reduceMul, Nat.reduceSub, reduceCtorEq, reduceIte] <;> rfl))
    | exact wo_nil rfl)
    refine wo_call rfl rfl (by simp only [go_sem, Nat.reduceAdd, Nat.reduceBEq, Nat.reduceEqDiff, Nat.reduceLT, Nat.reduceLeDiff, Nat.reduceMul, Nat.reduceSub, reduceCtorEq, reduceIte] <;> rfl) (by simp only [go_sem, Nat.reduceAdd, Nat.reduceBEq, Nat.reduceEqDiff, Nat.reduceLT, Nat.reduceLeDiff, Nat.reduceMul, Nat.reduceSub, reduceCtorEq, reduceIte] <;> rfl) (.refl _) ((hn 0)) rfl (by simp only [go_sem, Nat.reduceAdd, Nat.reduceBEq, Nat.reduceEqDiff, Nat.reduceLT, Nat.reduceLeDiff, Nat.reduceMul, Nat.reduceSub, reduceCtorEq, reduceIte] <;> rfl) ?_
    repeat (first
    | (apply wo_op (hg := rfl) (hc := rfl) (hd := rfl); (simp only [go_sem, Nat.reduceAdd, Nat.reduceBEq, Nat.reduceEqDiff, Nat.reduceLT, Nat.reduceLeDiff, Nat.reduceMul, Nat.reduceSub, reduceCtorEq, reduceIte] <;> rfl); (simp only [go_sem, Nat.reduceAdd, Nat.reduceBEq, Nat.reduceEqDiff, Nat.reduceLT, Nat.reduceLeDiff, Nat.reduceMul, Nat.reduceSub, reduceCtorEq, reduceIte] <;> rfl))
    | (apply wo_eff (hg := rfl) (hc := rfl) (hd := rfl); (simp only [go_sem, Nat.reduceAdd, Nat.reduceBEq, Nat.reduceEqDiff, Nat.reduceLT, Nat.reduceLeDiff, Nat.reduceMul, Nat.reduceSub, reduceCtorEq, reduceIte] <;> rfl); (simp only [go_sem, Nat.reduceAdd, Nat.reduceBEq, Nat.reduceEqDiff, Nat.reduceLT, Nat.reduceLeDiff, Nat.reduceMul, Nat.reduceSub, reduceCtorEq, reduceIte] <;> rfl))
    | (apply wo_gT (hg := rfl); (simp only [go_sem, Nat.reduceAdd, Nat.reduceBEq, Nat.reduceEqDiff, Nat.reduceLT, Nat.reduceLeDiff, Nat.reduceMul, Nat.reduceSub, reduceCtorEq, reduceIte] <;> rfl))
    | (apply wo_gU (hg := rfl) (hd := rfl); (simp only [go_sem, Nat.reduceAdd, Nat.reduceBEq, Nat.reduceEqDiff, Nat.reduceLT, Nat.reduceLeDiff, Nat.reduceMul, Nat.reduceSub, reduceCtorEq, reduceIte] <;> rfl); (simp only [go_sem, Nat.reduceAdd, Nat.reduceBEq, Nat.reduceEqDiff, Nat.reduceLT, Nat.reduceLeDiff, Nat.reduceMul, Nat.reduceSub, reduceCtorEq, reduceIte] <;> rfl))
    | (apply wo_gF (hg := rfl) (hd := rfl); (simp only [go_sem, Nat.reduceAdd, Nat.reduceBEq, Nat.reduceEqDiff, Nat.reduceLT, Nat.reduceLeDiff, Nat.reduceMul, Nat.reduceSub, reduceCtorEq, reduceIte] <;> rfl); (simp only [go_sem, Nat.reduceAdd, Nat.reduceBEq, Nat.reduceEqDiff, Nat.reduceLT, Nat.reduceLeDiff, Nat.reduceMul, Nat.reduceSub, reduceCtorEq, reduceIte] <;> rfl))
    | exact wo_nil rfl)
    refine wo_call rfl rfl (by simp only [go_sem, Nat.reduceAdd, Nat.reduceBEq, Nat.reduceEqDiff, Nat.reduceLT, Nat.reduceLeDiff, Nat.reduceMul, Nat.reduceSub, reduceCtorEq, reduceIte] <;> rfl) (by simp only [go_sem, Nat.reduceAdd, Nat.reduceBEq, Nat.reduceEqDiff, Nat.reduceLT, Nat.reduceLeDiff, Nat.reduceMul, Nat.reduceSub, reduceCtorEq, reduceIte] <;> rfl) (.refl _) ((hn 1)) rfl (by simp only [go_sem, Nat.reduceAdd, Nat.reduceBEq, Nat.reduceEqDiff, Nat.reduceLT, Nat.reduceLeDiff, Nat.reduceMul, Nat.reduceSub, reduceCtorEq, reduceIte] <;> rfl) ?_
    repeat (first
    | (apply wo_op (hg := rfl) (hc := rfl) (hd := rfl); (simp only [go_sem, Nat.reduceAdd, Nat.reduceBEq, Nat.reduceEqDiff, Nat.reduceLT, Nat.reduceLeDiff, Nat.reduceMul, Nat.reduceSub, reduceCtorEq, reduceIte] <;> rfl); (simp only [go_sem, Nat.reduceAdd, Nat.reduceBEq, Nat.reduceEqDiff, Nat.reduceLT, Nat.reduceLeDiff, Nat.reduceMul, Nat.reduceSub, reduceCtorEq, reduceIte] <;> rfl))
    | (apply wo_eff (hg := rfl) (hc := rfl) (hd := rfl); (simp only [go_sem, Nat.reduceAdd, Nat.reduceBEq, Nat.reduceEqDiff, Nat.reduceLT, Nat.reduceLeDiff, Nat.reduceMul, Nat.reduceSub, reduceCtorEq, reduceIte] <;> rfl); (simp only [go_sem, Nat.reduceAdd, Nat.reduceBEq, Nat.reduceEqDiff, Nat.reduceLT, Nat.reduceLeDiff, Nat.reduceMul, Nat.reduceSub, reduceCtorEq, reduceIte] <;> rfl))
    | (apply wo_gT (hg := rfl); (simp only [go_sem, Nat.reduceAdd, Nat.reduceBEq, Nat.reduceEqDiff, Nat.reduceLT, Nat.reduceLeDiff, Nat.reduceMul, Nat.reduceSub, reduceCtorEq, reduceIte] <;> rfl))
    | (apply wo_gU (hg := rfl) (hd := rfl); (simp only [go_sem, Nat.reduceAdd, Nat.reduceBEq, Nat.reduceEqDiff, Nat.reduceLT, Nat.reduceLeDiff, Nat.reduceMul, Nat.reduceSub, reduceCtorEq, reduceIte] <;> rfl); (simp only [go_sem, Nat.reduceAdd, Nat.reduceBEq, Nat.reduceEqDiff, Nat.reduceLT, Nat.reduceLeDiff, Nat.reduceMul, Nat.reduceSub, reduceCtorEq, reduceIte] <;> rfl))
    | (apply wo_gF (hg := rfl) (hd := rfl); (simp only [go_sem, Nat.reduceAdd, Nat.reduceBEq, Nat.reduceEqDiff, Nat.reduceLT, Nat.reduceLeDiff, Nat.reduceMul, Nat.reduceSub, reduceCtorEq, reduceIte] <;> rfl); (simp only [go_sem, Nat.reduceAdd, Nat.reduceBEq, Nat.reduceEqDiff, Nat.reduceLT, Nat.reduceLeDiff, Nat.reduceMul, Nat.reduceSub, reduceCtorEq, reduceIte] <;> rfl))
    | exact wo_nil rfl)
    refine wo_call rfl rfl (by simp only [go_sem, Nat.reduceAdd, Nat.reduceBEq, Nat.reduceEqDiff, Nat.reduceLT, Nat.reduceLeDiff, Nat.reduceMul, Nat.reduceSub, reduceCtorEq, reduceIte] <;> rfl) (by simp only [go_sem, Nat.reduceAdd, Nat.reduceBEq, Nat.reduceEqDiff, Nat.reduceLT, Nat.reduceLeDiff, Nat.reduceMul, Nat.reduceSub, reduceCtorEq, reduceIte] <;> rfl) (.refl _) ((l2)) rfl (by simp only [go_sem, Nat.reduceAdd, Nat.reduceBEq, Nat.reduceEqDiff, Nat.reduceLT, Nat.reduceLeDiff, Nat.reduceMul, Nat.reduceSub, reduceCtorEq, reduceIte] <;> rfl) ?_
    repeat (first
    | (apply wo_op (hg := rfl) (hc := rfl) (hd := rfl); (simp only [go_sem, Nat.reduceAdd, Nat.reduceBEq, Nat.reduceEqDiff, Nat.reduceLT, Nat.reduceLeDiff, Nat.reduceMul, Nat.reduceSub, reduceCtorEq, reduceIte] <;> rfl); (simp only [go_sem, Nat.reduceAdd, Nat.reduceBEq, Nat.reduceEqDiff, Nat.reduceLT, Nat.reduceLeDiff, Nat.reduceMul, Nat.reduceSub, reduceCtorEq, reduceIte] <;> rfl))
    | (apply wo_eff (hg := rfl) (hc := rfl) (hd := rfl); (simp only [go_sem, Nat.reduceAdd, Nat.reduceBEq, Nat.reduceEqDiff, Nat.reduceLT, Nat.reduceLeDiff, Nat.reduceMul, Nat.reduceSub, reduceCtorEq, reduceIte] <;> rfl); (simp only [go_sem, Nat.reduceAdd, Nat.reduceBEq, Nat.reduceEqDiff, Nat.reduceLT, Nat.reduceLeDiff, Nat.reduceMul, Nat.reduceSub, reduceCtorEq, reduceIte] <;> rfl))
    | (apply wo_gT (hg := rfl); (simp only [go_sem, Nat.reduceAdd, Nat.reduceBEq, Nat.reduceEqDiff, Nat.reduceLT, Nat.reduceLeDiff, Nat.reduceMul, Nat.reduceSub, reduceCtorEq, reduceIte] <;> rfl))
    | (apply wo_gU (hg := rfl) (hd := rfl); (simp only [go_sem, Nat.reduceAdd, Nat.reduceBEq, Nat.reduceEqDiff, Nat.reduceLT, Nat.reduceLeDiff, Nat.reduceMul, Nat.reduceSub, reduceCtorEq, reduceIte] <;> rfl); (simp only [go_sem, Nat.reduceAdd, Nat.reduceBEq, Nat.reduceEqDiff, Nat.reduceLT, Nat.reduceLeDiff, Nat.reduceMul, Nat.reduceSub, reduceCtorEq, reduceIte] <;> rfl))
    | (apply wo_gF (hg := rfl) (hd := rfl); (simp only [go_sem, Nat.reduceAdd, Nat.reduceBEq, Nat.reduceEqDiff, Nat.reduceLT, Nat.reduceLeDiff, Nat.reduceMul, Nat.reduceSub, reduceCtorEq, reduceIte] <;> rfl); (simp only [go_sem, Nat.reduceAdd, Nat.reduceBEq, Nat.reduceEqDiff, Nat.reduceLT, Nat.reduceLeDiff, Nat.reduceMul, Nat.reduceSub, reduceCtorEq, reduceIte] <;> rfl))
    | exact wo_nil rfl)
    refine wo_call rfl rfl (by simp only [go_sem, Nat.reduceAdd, Nat.reduceBEq, Nat.reduceEqDiff, Nat.reduceLT, Nat.reduceLeDiff, Nat.reduceMul, Nat.reduceSub, reduceCtorEq, reduceIte] <;> rfl) (by simp only [go_sem, Nat.reduceAdd, Nat.reduceBEq, Nat.reduceEqDiff, Nat.reduceLT, Nat.reduceLeDiff, Nat.reduceMul, Nat.reduceSub, reduceCtorEq, reduceIte] <;> rfl) (.refl _) ((hg)) rfl (by simp only [go_sem, Nat.reduceAdd, Nat.reduceBEq, Nat.reduceEqDiff, Nat.reduceLT, Nat.reduceLeDiff, Nat.reduceMul, Nat.reduceSub, reduceCtorEq, reduceIte] <;> rfl) ?_
    repeat (first
    | (apply wo_op (hg := rfl) (hc := rfl) (hd := rfl); (simp only [go_sem, Nat.reduceAdd, Nat.reduceBEq, Nat.reduceEqDiff, Nat.reduceLT, Nat.reduceLeDiff, Nat.reduceMul, Nat.reduceSub, reduceCtorEq, reduceIte] <;> rfl); (simp only [go_sem, Nat.reduceAdd, Nat.reduceBEq, Nat.reduceEqDiff, Nat.reduceLT, Nat.reduceLeDiff, Nat.reduceMul, Nat.reduceSub, reduceCtorEq, reduceIte] <;> rfl))
    | (apply wo_eff (hg := rfl) (hc := rfl) (hd := rfl); (simp only [go_sem, Nat.reduceAdd, Nat.reduceBEq, Nat.reduceEqDiff, Nat.reduceLT, Nat.reduceLeDiff, Nat.reduceMul, Nat.reduceSub, reduceCtorEq, reduceIte] <;> rfl); (simp only [go_sem, Nat.reduceAdd, Nat.reduceBEq, Nat.reduceEqDiff, Nat.reduceLT, Nat.reduceLeDiff, Nat.reduceMul, Nat.reduceSub, reduceCtorEq, reduceIte] <;> rfl))
    | (apply wo_gT (hg := rfl); (simp only [go_sem, Nat.reduceAdd, Nat.reduceBEq, Nat.reduceEqDiff, Nat.reduceLT, Nat.reduceLeDiff, Nat.reduceMul, Nat.reduceSub, reduceCtorEq, reduceIte] <;> rfl))
    | (apply wo_gU (hg := rfl) (hd := rfl); (simp only [go_sem, Nat.reduceAdd, Nat.reduceBEq, Nat.reduceEqDiff, Nat.reduceLT, Nat.reduceLeDiff, Nat.reduceMul, Nat.reduceSub, reduceCtorEq, reduceIte] <;> rfl); (simp only [go_sem, Nat.reduceAdd, Nat.reduceBEq, Nat.reduceEqDiff, Nat.reduceLT, Nat.reduceLeDiff, Nat.reduceMul, Nat.reduceSub, reduceCtorEq, reduceIte] <;> rfl))
    | (apply wo_gF (hg := rfl) (hd := rfl); (simp only [go_sem, Nat.reduceAdd, Nat.reduceBEq, Nat.reduceEqDiff, Nat.reduceLT, Nat.reduceLeDiff, Nat.reduceMul, Nat.reduceSub, reduceCtorEq, reduceIte] <;> rfl); (simp only [go_sem, Nat.reduceAdd, Nat.reduceBEq, Nat.reduceEqDiff, Nat.reduceLT, Nat.reduceLeDiff, Nat.reduceMul, Nat.reduceSub, reduceCtorEq, reduceIte] <;> rfl))
    | exact wo_nil rfl)) ?_
  refine wc_thenD (by rfl) (by
    repeat (first
    | (apply wo_op (hg := rfl) (hc := rfl) (hd := rfl); (simp only [go_sem, Nat.reduceAdd, Nat.reduceBEq, Nat.reduceEqDiff, Nat.reduceLT, Nat.reduceLeDiff, Nat.reduceMul, Nat.reduceSub, reduceCtorEq, reduceIte] <;> rfl); (simp only [go_sem, Nat.reduceAdd, Nat.reduceBEq, Nat.reduceEqDiff, Nat.reduceLT, Nat.reduceLeDiff, Nat.reduceMul, Nat.reduceSub, reduceCtorEq, reduceIte] <;> rfl))
    | (apply wo_eff (hg := rfl) (hc := rfl) (hd := rfl); (simp only [go_sem, Nat.reduceAdd, Nat.reduceBEq, Nat.reduceEqDiff, Nat.reduceLT, Nat.reduceLeDiff, Nat.reduceMul, Nat.reduceSub, reduceCtorEq, reduceIte] <;> rfl); (simp only [go_sem, Nat.reduceAdd, Nat.reduceBEq, Nat.reduceEqDiff, Nat.reduceLT, Nat.reduceLeDiff, Nat.reduceMul, Nat.reduceSub, reduceCtorEq, reduceIte] <;> rfl))
    | (apply wo_gT (hg := rfl); (simp only [go_sem, Nat.reduceAdd, Nat.reduceBEq, Nat.reduceEqDiff, Nat.reduceLT, Nat.reduceLeDiff, Nat.reduceMul, Nat.reduceSub, reduceCtorEq, reduceIte] <;> rfl))
    | (apply wo_gU (hg := rfl) (hd := rfl); (simp only [go_sem, Nat.reduceAdd, Nat.reduceBEq, Nat.reduceEqDiff, Nat.reduceLT, Nat.reduceLeDiff, Nat.reduceMul, Nat.reduceSub, reduceCtorEq, reduceIte] <;> rfl); (simp only [go_sem, Nat.reduceAdd, Nat.reduceBEq, Nat.reduceEqDiff, Nat.reduceLT, Nat.reduceLeDiff, Nat.reduceMul, Nat.reduceSub, reduceCtorEq, reduceIte] <;> rfl))
    | (apply wo_gF (hg := rfl) (hd := rfl); (simp only [go_sem, Nat.reduceAdd, Nat.reduceBEq, Nat.reduceEqDiff, Nat.reduceLT, Nat.reduceLeDiff, Nat.reduceMul, Nat.reduceSub, reduceCtorEq, reduceIte] <;> rfl); (simp only [go_sem, Nat.reduceAdd, Nat.reduceBEq, Nat.reduceEqDiff, Nat.reduceLT, Nat.reduceLeDiff, Nat.reduceMul, Nat.reduceSub, reduceCtorEq, reduceIte] <;> rfl))
    | exact wo_nil rfl)
    refine wo_call rfl rfl (by simp only [go_sem, Nat.reduceAdd, Nat.reduceBEq, Nat.reduceEqDiff, Nat.reduceLT, Nat.reduceLeDiff, Nat.reduceMul, Nat.reduceSub, reduceCtorEq, reduceIte] <;> rfl) (by simp only [go_sem, Nat.reduceAdd, Nat.reduceBEq, Nat.reduceEqDiff, Nat.reduceLT, Nat.reduceLeDiff, Nat.reduceMul, Nat.reduceSub, reduceCtorEq, reduceIte] <;> rfl) (.refl _) ((hn 1)) rfl (by simp only [go_sem, Nat.reduceAdd, Nat.reduceBEq, Nat.reduceEqDiff, Nat.reduceLT, Nat.reduceLeDiff, Nat.reduceMul, Nat.reduceSub, reduceCtorEq, reduceIte] <;> rfl) ?_
    repeat (first
    | (apply wo_op (hg := rfl) (hc := rfl) (hd := rfl); (simp only [go_sem, Nat.reduceAdd, Nat.reduceBEq, Nat.reduceEqDiff, Nat.reduceLT, Nat.reduceLeDiff, Nat.reduceMul, Nat.reduceSub, reduceCtorEq, reduceIte] <;> rfl); (simp only [go_sem, Nat.reduceAdd, Nat.reduceBEq, Nat.reduceEqDiff, Nat.reduceLT, Nat.reduceLeDiff, Nat.reduceMul, Nat.reduceSub, reduceCtorEq, reduceIte] <;> rfl))
    | (apply wo_eff (hg := rfl) (hc := rfl) (hd := rfl); (simp only [go_sem, Nat.reduceAdd, Nat.reduceBEq, Nat.reduceEqDiff, Nat.reduceLT, Nat.reduceLeDiff, Nat.reduceMul, Nat.reduceSub, reduceCtorEq, reduceIte] <;> rfl); (simp only [go_sem, Nat.reduceAdd, Nat.reduceBEq, Nat.reduceEqDiff, Nat.reduceLT, Nat.reduceLeDiff, Nat.reduceMul, Nat.reduceSub, reduceCtorEq, reduceIte] <;> rfl))
    | (apply wo_gT (hg := rfl); (simp only [go_sem, Nat.reduceAdd, Nat.reduceBEq, Nat.reduceEqDiff, Nat.reduceLT, Nat.reduceLeDiff, Nat.reduceMul, Nat.reduceSub, reduceCtorEq, reduceIte] <;> rfl))
    | (apply wo_gU (hg := rfl) (hd := rfl); (simp only [go_sem, Nat.reduceAdd, Nat.reduceBEq, Nat.reduceEqDiff, Nat.reduceLT, Nat.reduceLeDiff, Nat.reduceMul, Nat.reduceSub, reduceCtorEq, reduceIte] <;> rfl); (simp only [go_sem, Nat.reduceAdd, Nat.reduceBEq, Nat.reduceEqDiff, Nat.reduceLT, Nat.reduceLeDiff, Nat.reduceMul, Nat.reduceSub, reduceCtorEq, reduceIte] <;> rfl))
    | (apply wo_gF (hg := rfl) (hd := rfl); (simp only [go_sem, Nat.reduceAdd, Nat.reduceBEq, Nat.reduceEqDiff, Nat.reduceLT, Nat.reduceLeDiff, Nat.reduceMul, Nat.reduceSub, reduceCtorEq, reduceIte] <;> rfl); (simp only [go_sem, Nat.reduceAdd, Nat.reduceBEq, Nat.reduceEqDiff, Nat.reduceLT, Nat.reduceLeDiff, Nat.reduceMul, Nat.reduceSub, reduceCtorEq, reduceIte] <;> rfl))
    | exact wo_nil rfl)
    refine wo_call rfl rfl (by simp only [go_sem, Nat.reduceAdd, Nat.reduceBEq, Nat.reduceEqDiff, Nat.reduceLT, Nat.reduceLeDiff, Nat.reduceMul, Nat.reduceSub, reduceCtorEq, reduceIte] <;> rfl) (by simp only [go_sem, Nat.reduceAdd, Nat.reduceBEq, Nat.reduceEqDiff, Nat.reduceLT, Nat.reduceLeDiff, Nat.reduceMul, Nat.reduceSub, reduceCtorEq, reduceIte] <;> rfl) (.refl _) ((l3)) rfl (by simp only [go_sem, Nat.reduceAdd, Nat.reduceBEq, Nat.reduceEqDiff, Nat.reduceLT, Nat.reduceLeDiff, Nat.reduceMul, Nat.reduceSub, reduceCtorEq, reduceIte] <;> rfl) ?_
    repeat (first
    | (apply wo_op (hg := rfl) (hc := rfl) (hd := rfl); (simp only [go_sem, Nat.reduceAdd, Nat.reduceBEq, Nat.reduceEqDiff, Nat.reduceLT, Nat.reduceLeDiff, Nat.reduceMul, Nat.reduceSub, reduceCtorEq, reduceIte] <;> rfl); (simp only [go_sem, Nat.reduceAdd, Nat.reduceBEq, Nat.reduceEqDiff, Nat.reduceLT, Nat.reduceLeDiff, Nat.reduceMul, Nat.reduceSub, reduceCtorEq, reduceIte] <;> rfl))
    | (apply wo_eff (hg := rfl) (hc := rfl) (hd := rfl); (simp only [go_sem, Nat.reduceAdd, Nat.reduceBEq, Nat.reduceEqDiff, Nat.reduceLT, Nat.reduceLeDiff, Nat.reduceMul, Nat.reduceSub, reduceCtorEq, reduceIte] <;> rfl); (simp only [go_sem, Nat.reduceAdd, Nat.reduceBEq, Nat.reduceEqDiff, Nat.reduceLT, Nat.reduceLeDiff, Nat.reduceMul, Nat.reduceSub, reduceCtorEq, reduceIte] <;> rfl))
    | (apply wo_gT (hg := rfl); (simp only [go_sem, Nat.reduceAdd, Nat.reduceBEq, Nat.reduceEqDiff, Nat.reduceLT, Nat.reduceLeDiff, Nat.reduceMul, Nat.reduceSub, reduceCtorEq, reduceIte] <;> rfl))
    | (apply wo_gU (hg := rfl) (hd := rfl); (simp only [go_sem, Nat.reduceAdd, Nat.reduceBEq, Nat.reduceEqDiff, Nat.reduceLT, Nat.reduceLeDiff, Nat.reduceMul, Nat.reduceSub, reduceCtorEq, reduceIte] <;> rfl); (simp only [go_sem, Nat.reduceAdd, Nat.reduceBEq, Nat.reduceEqDiff, Nat.reduceLT, Nat.reduceLeDiff, Nat.reduceMul, Nat.reduceSub, reduceCtorEq, reduceIte] <;> rfl))
    | (apply wo_gF (hg := rfl) (hd := rfl); (simp only [go_sem, Nat.reduceAdd, Nat.reduceBEq, Nat.reduceEqDiff, Nat.reduceLT, Nat.reduceLeDiff, Nat.reduceMul, Nat.reduceSub, reduceCtorEq, reduceIte] <;> rfl); (simp only [go_sem, Nat.reduceAdd, Nat.reduceBEq, Nat.reduceEqDiff, Nat.reduceLT, Nat.reduceLeDiff, Nat.reduceMul, Nat.reduceSub, reduceCtorEq, reduceIte] <;> rfl))
    | exact wo_nil rfl)
    refine wo_call rfl rfl (by simp only [go_sem, Nat.reduceAdd, Nat.reduceBEq, Nat.reduceEqDiff, Nat.reduceLT, Nat.reduceLeDiff, Nat.reduceMul, Nat.reduceSub, reduceCtorEq, reduceIte] <;> rfl) (by simp only [go_sem, Nat.reduceAdd, Nat.reduceBEq, Nat.reduceEqDiff, Nat.reduceLT, Nat.reduceLeDiff, Nat.reduceMul, Nat.reduceSub, reduceCtorEq, reduceIte] <;> rfl) (.refl _) ((hn 3)) rfl (by simp only [go_sem, Nat.reduceAdd, Nat.reduceBEq, Nat.reduceEqDiff, Nat.reduceLT, Nat.reduceLeDiff, Nat.reduceMul, Nat.reduceSub, reduceCtorEq, reduceIte] <;> rfl) ?_
    repeat (first
    | (apply wo_op (hg := rfl) (hc := rfl) (hd := rfl); (simp only [go_sem, Nat.reduceAdd, Nat.reduceBEq, Nat.reduceEqDiff, Nat.reduceLT, Nat.reduceLeDiff, Nat.reduceMul, Nat.reduceSub, reduceCtorEq, reduceIte] <;> rfl); (simp only [go_sem, Nat.reduceAdd, Nat.reduceBEq, Nat.reduceEqDiff, Nat.reduceLT, Nat.reduceLeDiff, Nat.reduceMul, Nat.reduceSub, reduceCtorEq, reduceIte] <;> rfl))
    | (apply wo_eff (hg := rfl) (hc := rfl) (hd := rfl); (simp only [go_sem, Nat.reduceAdd, Nat.reduceBEq, Nat.reduceEqDiff, Nat.reduceLT, Nat.reduceLeDiff, Nat.reduceMul, Nat.reduceSub, reduceCtorEq, reduceIte] <;> rfl); (simp only [go_sem, Nat.reduceAdd, Nat.reduceBEq, Nat.reduceEqDiff, Nat.reduceLT, Nat.reduceLeDiff, Nat.reduceMul, Nat.reduceSub, reduceCtorEq, reduceIte] <;> rfl))
    | (apply wo_gT (hg := rfl); (simp only [go_sem, Nat.reduceAdd, Nat.reduceBEq, Nat.reduceEqDiff, Nat.reduceLT, Nat.reduceLeDiff, Nat.reduceMul, Nat.reduceSub, reduceCtorEq, reduceIte] <;> rfl))
    | (apply wo_gU (hg := rfl) (hd := rfl); (simp only [go_sem, Nat.reduceAdd, Nat.reduceBEq, Nat.reduceEqDiff, Nat.reduceLT, Nat.reduceLeDiff, Nat.reduceMul, Nat.reduceSub, reduceCtorEq, reduceIte] <;> rfl); (simp only [go_sem, Nat.reduceAdd, Nat.reduceBEq, Nat.reduceEqDiff, Nat.reduceLT, Nat.reduceLeDiff, Nat.reduceMul, Nat.reduceSub, reduceCtorEq, reduceIte] <;> rfl))
    | (apply wo_gF (hg := rfl) (hd := rfl); (simp only [go_sem, Nat.reduceAdd, Nat.reduceBEq, Nat.reduceEqDiff, Nat.reduceLT, Nat.reduceLeDiff, Nat.reduceMul, Nat.reduceSub, reduceCtorEq, reduceIte] <;> rfl); (simp only [go_sem, Nat.reduceAdd, Nat.reduceBEq, Nat.reduceEqDiff, Nat.reduceLT, Nat.reduceLeDiff, Nat.reduceMul, Nat.reduceSub, reduceCtorEq, reduceIte] <;> rfl))
    | exact wo_nil rfl)
    refine wo_call rfl rfl (by simp only [go_sem, Nat.reduceAdd, Nat.reduceBEq, Nat.reduceEqDiff, Nat.reduceLT, Nat.reduceLeDiff, Nat.reduceMul, Nat.reduceSub, reduceCtorEq, reduceIte] <;> rfl) (by simp only [go_sem, Nat.reduceAdd, Nat.reduceBEq, Nat.reduceEqDiff, Nat.reduceLT, Nat.reduceLeDiff, Nat.reduceMul, Nat.reduceSub, reduceCtorEq, reduceIte] <;> rfl) (.refl _) ((hn 2)) rfl (by simp only [go_sem, Nat.reduceAdd, Nat.reduceBEq, Nat.reduceEqDiff, Nat.reduceLT, Nat.reduceLeDiff, Nat.reduceMul, Nat.reduceSub, reduceCtorEq, reduceIte] <;> rfl) ?_
    repeat (first
    | (apply wo_op (hg := rfl) (hc := rfl) (hd := rfl); (simp only [go_sem, Nat.reduceAdd, Nat.reduceBEq, Nat.reduceEqDiff, Nat.reduceLT, Nat.reduceLeDiff, Nat.reduceMul, Nat.reduceSub, reduceCtorEq, reduceIte] <;> rfl); (simp only [go_sem, Nat.reduceAdd, Nat.reduceBEq, Nat.reduceEqDiff, Nat.reduceLT, Nat.reduceLeDiff, Nat.reduceMul, Nat.reduceSub, reduceCtorEq, reduceIte] <;> rfl))
    | (apply wo_eff (hg := rfl) (hc := rfl) (hd := rfl); (simp only [go_sem, Nat.reduceAdd, Nat.reduceBEq, Nat.reduceEqDiff, Nat.reduceLT, Nat.reduceLeDiff, Nat.reduceMul, Nat.reduceSub, reduceCtorEq, reduceIte] <;> rfl); (simp only [go_sem, Nat.reduceAdd, Nat.reduceBEq, Nat.reduceEqDiff, Nat.reduceLT, Nat.reduceLeDiff, Nat.reduceMul, Nat.reduceSub, reduceCtorEq, reduceIte] <;> rfl))
    | (apply wo_gT (hg := rfl); (simp only [go_sem, Nat.reduceAdd, Nat.reduceBEq, Nat.reduceEqDiff, Nat.reduceLT, Nat.reduceLeDiff, Nat.reduceMul, Nat.reduceSub, reduceCtorEq, reduceIte] <;> rfl))
    | (apply wo_gU (hg := rfl) (hd := rfl); (simp only [go_sem, Nat.reduceAdd, Nat.reduceBEq, Nat.reduceEqDiff, Nat.reduceLT, Nat.reduceLeDiff, Nat.reduceMul, Nat.reduceSub, reduceCtorEq, reduceIte] <;> rfl); (simp only [go_sem, Nat.reduceAdd, Nat.reduceBEq, Nat.reduceEqDiff, Nat.reduceLT, Nat.reduceLeDiff, Nat.reduceMul, Nat.reduceSub, reduceCtorEq, reduceIte] <;> rfl))
    | (apply wo_gF (hg := rfl) (hd := rfl); (simp only [go_sem, Nat.reduceAdd, Nat.reduceBEq, Nat.reduceEqDiff, Nat.reduceLT, Nat.reduceLeDiff, Nat.reduceMul, Nat.reduceSub, reduceCtorEq, reduceIte] <;> rfl); (simp only [go_sem, Nat.reduceAdd, Nat.reduceBEq, Nat.reduceEqDiff, Nat.reduceLT, Nat.reduceLeDiff, Nat.reduceMul, Nat.reduceSub, reduceCtorEq, reduceIte] <;> rfl))
    | exact wo_nil rfl)
    refine wo_call rfl rfl (by simp only [go_sem, Nat.reduceAdd, Nat.reduceBEq, Nat.reduceEqDiff, Nat.reduceLT, Nat.reduceLeDiff, Nat.reduceMul, Nat.reduceSub, reduceCtorEq, reduceIte] <;> rfl) (by simp only [go_sem, Nat.reduceAdd, Nat.reduceBEq, Nat.reduceEqDiff, Nat.reduceLT, Nat.reduceLeDiff, Nat.reduceMul, Nat.reduceSub, reduceCtorEq, reduceIte] <;> rfl) (.refl _) ((l4)) rfl (by simp only [go_sem, Nat.reduceAdd, Nat.reduceBEq, Nat.reduceEqDiff, Nat.reduceLT, Nat.reduceLeDiff, Nat.reduceMul, Nat.reduceSub, reduceCtorEq, reduceIte] <;> rfl) ?_
    repeat (first
    | (apply wo_op (hg := rfl) (hc := rfl) (hd := rfl); (simp only [go_sem, Nat.reduceAdd, Nat.reduceBEq, Nat.reduceEqDiff, Nat.reduceLT, Nat.reduceLeDiff, Nat.reduceMul, Nat.reduceSub, reduceCtorEq, reduceIte] <;> rfl); (simp only [go_sem, Nat.reduceAdd, Nat.reduceBEq, Nat.reduceEqDiff, Nat.reduceLT, Nat.reduceLeDiff, Nat.reduceMul, Nat.reduceSub, reduceCtorEq, reduceIte] <;> rfl))
    | (apply wo_eff (hg := rfl) (hc := rfl) (hd := rfl); (simp only [go_sem, Nat.reduceAdd, Nat.reduceBEq, Nat.reduceEqDiff, Nat.reduceLT, Nat.reduceLeDiff, Nat.reduceMul, Nat.reduceSub, reduceCtorEq, reduceIte] <;> rfl); (simp only [go_sem, Nat.reduceAdd, Nat.reduceBEq, Nat.reduceEqDiff, Nat.reduceLT, Nat.reduceLeDiff, Nat.reduceMul, Nat.reduceSub, reduceCtorEq, reduceIte] <;> rfl))
    | (apply wo_gT (hg := rfl); (simp only [go_sem, Nat.reduceAdd, Nat.reduceBEq, Nat.reduceEqDiff, Nat.reduceLT, Nat.reduceLeDiff, Nat.reduceMul, Nat.reduceSub, reduceCtorEq, reduceIte] <;> rfl))
    | (apply wo_gU (hg := rfl) (hd := rfl); (simp only [go_sem, Nat.reduceAdd, Nat.reduceBEq, Nat.reduceEqDiff, Nat.reduceLT, Nat.reduceLeDiff, Nat.reduceMul, Nat.reduceSub, reduceCtorEq, reduceIte] <;> rfl); (simp only [go_sem, Nat.reduceAdd, Nat.reduceBEq, Nat.reduceEqDiff, Nat.reduceLT, Nat.reduceLeDiff, Nat.reduceMul, Nat.reduceSub, reduceCtorEq, reduceIte] <;> rfl))
    | (apply wo_gF (hg := rfl) (hd := rfl); (simp only [go_sem, Nat.reduceAdd, Nat.reduceBEq, Nat.reduceEqDiff, Nat.reduceLT, Nat.reduceLeDiff, Nat.reduceMul, Nat.reduceSub, reduceCtorEq, reduceIte] <;> rfl); (simp only [go_sem, Nat.reduceAdd, Nat.reduceBEq, Nat.reduceEqDiff, Nat.reduceLT, Nat.reduceLeDiff, Nat.reduceMul, Nat.reduceSub, reduceCtorEq, reduceIte] <;> rfl))
    | exact wo_nil rfl)
    refine wo_call rfl rfl (by simp only [go_sem, Nat.reduceAdd, Nat.reduceBEq, Nat.reduceEqDiff, Nat.reduceLT, Nat.reduceLeDiff, Nat.reduceMul, Nat.reduceSub, reduceCtorEq, reduceIte] <;> rfl) (by simp only [go_sem, Nat.reduceAdd, Nat.reduceBEq, Nat.reduceEqDiff, Nat.reduceLT, Nat.reduceLeDiff, Nat.reduceMul, Nat.reduceSub, reduceCtorEq, reduceIte] <;> rfl) (.refl _) ((l5)) rfl (by simp only [go_sem, Nat.reduceAdd, Nat.reduceBEq, Nat.reduceEqDiff, Nat.reduceLT, Nat.reduceLeDiff, Nat.reduceMul, Nat.reduceSub, reduceCtorEq, reduceIte] <;> rfl) ?_
    repeat (first
    | (apply wo_op (hg := rfl) (hc := rfl) (hd := rfl); (simp only [go_sem, Nat.reduceAdd, Nat.reduceBEq, Nat.reduceEqDiff, Nat.reduceLT, Nat.reduceLeDiff, Nat.reduceMul, Nat.reduceSub, reduceCtorEq, reduceIte] <;> rfl); (simp only [go_sem, Nat.reduceAdd, Nat.reduceBEq, Nat.reduceEqDiff, Nat.reduceLT, Nat.reduceLeDiff, Nat.reduceMul, Nat.reduceSub, reduceCtorEq, reduceIte] <;> rfl))
    | (apply wo_eff (hg := rfl) (hc := rfl) (hd := rfl); (simp only [go_sem, Nat.reduceAdd, Nat.reduceBEq, Nat.reduceEqDiff, Nat.reduceLT, Nat.reduceLeDiff, Nat.reduceMul, Nat.reduceSub, reduceCtorEq, reduceIte] <;> rfl); (simp only [go_sem, Nat.reduceAdd, Nat.reduceBEq, Nat.reduceEqDiff, Nat.reduceLT, Nat.reduceLeDiff, Nat.reduceMul, Nat.reduceSub, reduceCtorEq, reduceIte] <;> rfl))
    | (apply wo_gT (hg := rfl); (simp only [go_sem, Nat.reduceAdd, Nat.reduceBEq, Nat.reduceEqDiff, Nat.reduceLT, Nat.reduceLeDiff, Nat.reduceMul, Nat.reduceSub, reduceCtorEq, reduceIte] <;> rfl))
    | (apply wo_gU (hg := rfl) (hd := rfl); (simp only [go_sem, Nat.reduceAdd, Nat.reduceBEq, Nat.reduceEqDiff, Nat.reduceLT, Nat.reduceLeDiff, Nat.reduceMul, Nat.reduceSub, reduceCtorEq, reduceIte] <;> rfl); (simp only [go_sem, Nat.reduceAdd, Nat.reduceBEq, Nat.reduceEqDiff, Nat.reduceLT, Nat.reduceLeDiff, Nat.reduceMul, Nat.reduceSub, reduceCtorEq, reduceIte] <;> rfl))
    | (apply wo_gF (hg := rfl) (hd := rfl); (simp only [go_sem, Nat.reduceAdd, Nat.reduceBEq, Nat.reduceEqDiff, Nat.reduceLT, Nat.reduceLeDiff, Nat.reduceMul, Nat.reduceSub, reduceCtorEq, reduceIte] <;> rfl); (simp only [go_sem, Nat.reduceAdd, Nat.reduceBEq, Nat.reduceEqDiff, Nat.reduceLT, Nat.reduceLeDiff, Nat.reduceMul, Nat.reduceSub, reduceCtorEq, reduceIte] <;> rfl))
    | exact wo_nil rfl)
    refine wo_call rfl rfl (by simp only [go_sem, Nat.reduceAdd, Nat.reduceBEq, Nat.reduceEqDiff, Nat.reduceLT, Nat.reduceLeDiff, Nat.reduceMul, Nat.reduceSub, reduceCtorEq, reduceIte] <;> rfl) (by simp only [go_sem, Nat.reduceAdd, Nat.reduceBEq, Nat.reduceEqDiff, Nat.reduceLT, Nat.reduceLeDiff, Nat.reduceMul, Nat.reduceSub, reduceCtorEq, reduceIte] <;> rfl) (.refl _) ((hs)) rfl (by simp only [go_sem, Nat.reduceAdd, Nat.reduceBEq, Nat.reduceEqDiff, Nat.reduceLT, Nat.reduceLeDiff, Nat.reduceMul, Nat.reduceSub, reduceCtorEq, reduceIte] <;> rfl) ?_
    repeat (first
    | (apply wo_op (hg := rfl) (hc := rfl) (hd := rfl); (simp only [go_sem, Nat.reduceAdd, Nat.reduceBEq, Nat.reduceEqDiff, Nat.reduceLT, Nat.reduceLeDiff, Nat.reduceMul, Nat.reduceSub, reduceCtorEq, reduceIte] <;> rfl); (simp only [go_sem, Nat.reduceAdd, Nat.reduceBEq, Nat.reduceEqDiff, Nat.reduceLT, Nat.reduceLeDiff, Nat.reduceMul, Nat.reduceSub, reduceCtorEq, reduceIte] <;> rfl))
    | (apply wo_eff (hg := rfl) (hc := rfl) (hd := rfl); (simp only [go_sem, Nat.reduceAdd, Nat.reduceBEq, Nat.reduceEqDiff, Nat.reduceLT, Nat.reduceLeDiff, Nat.reduceMul, Nat.reduceSub, reduceCtorEq, reduceIte] <;> rfl); (simp only [go_sem, Nat.reduceAdd, Nat.reduceBEq, Nat.reduceEqDiff, Nat.reduceLT, Nat.reduceLeDiff, Nat.reduceMul, Nat.reduceSub, reduceCtorEq, reduceIte] <;> rfl))
    | (apply wo_gT (hg := rfl); (simp only [go_sem, Nat.reduceAdd, Nat.reduceBEq, Nat.reduceEqDiff, Nat.reduceLT, Nat.reduceLeDiff, Nat.reduceMul, Nat.reduceSub, reduceCtorEq, reduceIte] <;> rfl))
    | (apply wo_gU (hg := rfl) (hd := rfl); (simp only [go_sem, Nat.reduceAdd, Nat.reduceBEq, Nat.reduceEqDiff, Nat.reduceLT, Nat.reduceLeDiff, Nat.reduceMul, Nat.reduceSub, reduceCtorEq, reduceIte] <;> rfl); (simp only [go_sem, Nat.reduceAdd, Nat.reduceBEq, Nat.reduceEqDiff, Nat.reduceLT, Nat.reduceLeDiff, Nat.reduceMul, Nat.reduceSub, reduceCtorEq, reduceIte] <;> rfl))
    | (apply wo_gF (hg := rfl) (hd := rfl); (simp only [go_sem, Nat.reduceAdd, Nat.reduceBEq, Nat.reduceEqDiff, Nat.reduceLT, Nat.reduceLeDiff, Nat.reduceMul, Nat.reduceSub, reduceCtorEq, reduceIte] <;> rfl); (simp only [go_sem, Nat.reduceAdd, Nat.reduceBEq, Nat.reduceEqDiff, Nat.reduceLT, Nat.reduceLeDiff, Nat.reduceMul, Nat.reduceSub, reduceCtorEq, reduceIte] <;> rfl))
    | exact wo_nil rfl)) ?_
  refine wc_ret ⟨.inr rfl, _, (by simp only [Try.f6, go_sem, Nat.reduceAdd, Nat.reduceBEq, Nat.reduceEqDiff, Nat.reduceLT, Nat.reduceLeDiff, Nat.reduceMul, Nat.reduceSub, reduceCtorEq, reduceIte] <;> rfl), ?_⟩
  exact .refl _
end Go.Proofs.Ytnkknmdpakebhaa
