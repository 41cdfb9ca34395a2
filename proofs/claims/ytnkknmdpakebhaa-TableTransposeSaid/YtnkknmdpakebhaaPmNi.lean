/- Plain laws: rectangular arrays of numbers. -/
import Derived.Test.YtnkknmdpakebhaaPmNh
set_option linter.unusedSimpArgs false
set_option linter.unusedVariables false
set_option maxHeartbeats 4000000
namespace Go.Proofs.Ytnkknmdpakebhaa
open Go Go.Pm
attribute [local irreducible] WC WOps WOpsG
attribute [local go_sem] WOps WOp callOf gtmp gval gvalT evOp evBuiltin binT St.ev constT St.m envOf Go.Pm.look St.upd St.putO St.put St.set allT allP T.toD unD1 T.cells T.asSlice D.cells D.sz eqTy binD unD cvD cv2 fillD ldT ldD TyI.agg allD splice isSome' cut bnd resT resOf Done Option.all_some Option.all_none Option.getD_some Option.getD_none Option.bind_some Option.bind_none Option.map_some Option.map_none List.map List.map_cons List.map_nil List.cons_append List.nil_append List.append_nil List.take_succ_cons List.drop_succ_cons List.take_zero List.drop_zero List.take_nil List.drop_nil List.head?_cons List.length_cons List.length_nil List.getElem?_cons_zero List.getElem?_cons_succ List.getElem?_toArray List.all_cons List.all_nil ite_true ite_false if_true if_false Bool.not_false Bool.not_true decide_true decide_false and_true true_and and_self false_and and_false Bool.and_true Bool.true_and Bool.or_true Bool.true_or List.size_toArray seqFrom beq_self_eq_true BEq.rfl eq_self Nat.succ_ne_self false_or or_false Nat.zero_add Nat.add_zero Nat.not_lt_zero Nat.one_ne_zero tab2 tab3 tab4 tab5 tab9 tab22 tab24 tab25 tab27 tab30 tab54 tab57 tab78 tab85
def numA (r : List Int) : V := V.arr (r.map V.num)
def matV (M : List (List Int)) : V := V.arr (M.map numA)
theorem num_good (n : Int) : (V.num n).good := by
  have := num_formed n
  unfold V.num at this ⊢
  rw [V.good]
  exact ⟨by omega, by omega, by omega, this, by simp, by rw [goodL]; trivial⟩
theorem nums_meas (r : List Int) : goodL (r.map V.num) ∧ depthL (r.map V.num) = 0 ∧ nodesL (r.map V.num) = r.length ∧ bytesL (r.map V.num) = 0 := by
  induction r with
  | nil => simp [goodL, depthL, nodesL, bytesL]
  | cons a r ih =>
    obtain ⟨h1, h2, h3, h4⟩ := ih
    have hd : (V.num a).depth = 0 := by unfold V.num; rw [V.depth, if_pos (by omega)]
    have hn : (V.num a).nodes = 1 := by unfold V.num; rw [V.nodes, nodesL]
    have hb : (V.num a).bytes = 0 := by unfold V.num; rw [V.bytes, bytesL]; rfl
    rw [List.map_cons, goodL, depthL, nodesL, bytesL, h2, h3, h4, hd, hn, hb, List.length_cons]
    exact ⟨⟨num_good a, h1⟩, rfl, by omega, rfl⟩
theorem mat_meas (M : List (List Int)) (h : ∀ r ∈ M, r.length ≤ 24) : goodL (M.map numA) ∧ depthL (M.map numA) ≤ 1 ∧ nodesL (M.map numA) ≤ 25 * M.length ∧ bytesL (M.map numA) = 0 := by
  induction M with
  | nil => simp [goodL, depthL, nodesL, bytesL]
  | cons r q ih =>
    obtain ⟨h1, h2, h3, h4⟩ := ih (fun x hx => h x (by simp [hx]))
    obtain ⟨g1, g2, g3, g4⟩ := nums_meas r
    have hr := h r (by simp)
    have e1 : (numA r).good := arr_good.2 ⟨by simp; omega, g1⟩
    have e2 : (numA r).depth = 1 := by unfold numA; rw [arr_depth, g2]
    have e3 : (numA r).nodes = 1 + r.length := by unfold numA; rw [arr_nodes, g3]
    have e4 : (numA r).bytes = 0 := by unfold numA; rw [arr_bytes, g4]
    rw [List.map_cons, goodL, depthL, nodesL, bytesL, e2, e3, e4, h4, List.length_cons]
    exact ⟨⟨e1, h1⟩, by omega, by omega, rfl⟩
theorem mat_valid {M : List (List Int)} (h1 : M.length ≤ 24) (h : ∀ r ∈ M, r.length ≤ 24) : (matV M).valid = true ∧ (matV M).fit = (matV M, 0) := by
  obtain ⟨g1, g2, g3, g4⟩ := mat_meas M h
  have hg : (matV M).good := arr_good.2 ⟨by simp; omega, g1⟩
  have hd : (matV M).depth ≤ 32 := by unfold matV; rw [arr_depth]; omega
  have hn : (matV M).nodes ≤ 4096 := by unfold matV; rw [arr_nodes]; omega
  have hb : (matV M).bytes ≤ 65536 := by unfold matV; rw [arr_bytes]; omega
  exact ⟨good_valid hg hd hn hb, good_fit hg hd hn hb⟩
def tr (n : Nat) (M : List (List Int)) : List (List Int) := (List.range n).map fun i => M.map fun r => r.getD i 0
theorem tr_tr {n : Nat} {M : List (List Int)} (h : ∀ r ∈ M, r.length = n) : tr M.length (tr n M) = M := by
  unfold tr
  refine List.ext_getElem (by simp) (fun i h1 h2 => ?_)
  simp only [List.getElem_map, List.getElem_range, List.map_map]
  have hr := h M[i] (List.getElem_mem h2)
  refine List.ext_getElem (by simp [hr]) (fun j h3 h4 => ?_)
  simp [List.getD, h2, h4]
theorem tmax_all {n : Nat} : ∀ {es : List V} {m : Nat}, (∀ r ∈ es, r.els.length = n) → m ≤ n → es ≠ [] → tmax m es = n
  | [], _, _, _, h => absurd rfl h
  | r :: q, m, h, hm, _ => by
    have hr := h r (by simp)
    rw [tmax, hr]
    have e : (if n > m then n else m) = n := by split <;> omega
    rw [e]
    cases q with
    | nil => rfl
    | cons a q => exact tmax_all (fun x hx => h x (by simp [hx])) (Nat.le_refl _) (by simp)
theorem tr_mat {n : Nat} {M : List (List Int)} (h : ∀ r ∈ M, r.length = n) (hM : M ≠ []) (h1 : M.length ≤ 24) (hn : n ≤ 24) : transposeRes (matV M) = (matV (tr n M), 0) := by
  unfold transposeRes
  have e0 : (matV M).kd = 5 := rfl
  have e1 : (matV M).els = M.map numA := rfl
  rw [e0, e1, if_neg (by simp)]
  have hk : ((M.map numA).all fun r => r.kd == 5) = true := by
    rw [List.all_eq_true]; intro r hr
    obtain ⟨x, _, rfl⟩ := List.mem_map.1 hr
    rfl
  rw [hk, if_neg (by simp)]
  have hl : ∀ r ∈ M.map numA, r.els.length = n := by
    intro r hr
    obtain ⟨x, hx, rfl⟩ := List.mem_map.1 hr
    show (x.map V.num).length = n
    rw [List.length_map]; exact h x hx
  have ht := tmax_all hl (Nat.zero_le n) (by simpa using hM)
  have hmul : n * M.length ≤ 24 * 24 := Nat.mul_le_mul hn h1
  rw [ht, if_neg (by rw [List.length_map]; omega)]
  have hmt : tmat (M.map numA) = (tr n M).map numA := by
    unfold tmat tr
    rw [ht, List.map_map]
    refine List.map_congr_left (fun i hi => ?_)
    have hi := List.mem_range.1 hi
    show V.arr (tcol (M.map numA) i) = numA (M.map fun r => r.getD i 0)
    unfold tcol numA
    rw [List.map_map, List.map_map]
    congr 1
    refine List.map_congr_left (fun r hr => ?_)
    have := h r hr
    show (r.map V.num).getD i V.zero = V.num (r.getD i 0)
    simp [List.getD, show i < r.length by omega]
  rw [hmt]
  refine (mat_valid (M := tr n M) (by simp [tr]; omega) (fun r hr => ?_)).2
  obtain ⟨i, _, rfl⟩ := List.mem_map.1 hr
  simp; omega
theorem tr_nil : transposeRes (matV []) = (matV [], 0) := by
  unfold transposeRes
  rw [if_neg (by simp [matV, V.arr, V.kd]), if_neg (by simp [matV, V.arr, V.els]), if_neg (by simp [matV, V.arr, V.els])]
  exact (mat_valid (M := []) (by simp) (by simp)).2
theorem rev_mat (M : List (List Int)) : reverseRes (matV M) = (matV M.reverse, 0) := by
  unfold reverseRes
  rw [if_neg (by simp [matV, V.arr, V.kd]), if_pos (by simp [matV, V.arr, V.kd])]
  simp [matV, V.arr, V.els, List.map_reverse]
theorem flat0 : ∀ l : List V, flatL l 0 = l
  | [] => by rw [flatL]
  | .mk k i s ks es :: l => by rw [flatL, V.flat, if_neg (by simp), flat0 l]; rfl
theorem flat1 (M : List (List Int)) : flatL (M.map numA) 1 = M.flatten.map V.num := by
  induction M with
  | nil => rw [List.map_nil, flatL]; rfl
  | cons r q ih =>
    rw [List.map_cons, flatL, ih, List.flatten_cons, List.map_append]
    congr 1
    unfold numA V.arr
    rw [V.flat, if_pos (by simp), show IntKind.i64.wrap (1 - 1) = 0 by decide, flat0]
theorem flat0_mat {M : List (List Int)} (h1 : M.length ≤ 24) (h : ∀ r ∈ M, r.length ≤ 24) : flattenRes (matV M) (V.num 0) = (matV M, 0) := by
  unfold flattenRes
  rw [if_neg (by simp [matV, V.arr, V.num, V.kd]), if_neg (by simp [V.num, V.iv])]
  show (V.arr (flatL (M.map numA) 0)).fit = _
  rw [flat0]
  exact (mat_valid h1 h).2
theorem flat1_mat {M : List (List Int)} (h : M.flatten.length ≤ 24) : flattenRes (matV M) (V.num 1) = (numA M.flatten, 0) := by
  unfold flattenRes
  rw [if_neg (by simp [matV, V.arr, V.num, V.kd]), if_neg (by simp [V.num, V.iv])]
  show (V.arr (flatL (M.map numA) 1)).fit = _
  rw [flat1]
  exact nums_fit _ (by omega)
end Go.Proofs.Ytnkknmdpakebhaa
