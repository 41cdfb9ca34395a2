/- ops and table: SortBy, GroupBy. -/
import Derived.Test.YtnkknmdpakebhaaPmIe
set_option linter.unusedSimpArgs false
set_option linter.unusedVariables false
set_option maxHeartbeats 4000000
namespace Go.Proofs.Ytnkknmdpakebhaa
open Go Go.Pm
attribute [local irreducible] WC WOps WOpsG
attribute [local go_sem] WOps WOp callOf gtmp gval gvalT evOp evBuiltin binT St.ev constT St.m envOf Go.Pm.look St.upd St.putO St.put St.set allT allP T.toD unD1 T.cells T.asSlice D.cells D.sz eqTy binD unD cvD cv2 fillD ldT ldD TyI.agg allD splice isSome' cut bnd resT resOf Done Option.all_some Option.all_none Option.getD_some Option.getD_none Option.bind_some Option.bind_none Option.map_some Option.map_none List.map List.map_cons List.map_nil List.cons_append List.nil_append List.append_nil List.take_succ_cons List.drop_succ_cons List.take_zero List.drop_zero List.take_nil List.drop_nil List.head?_cons List.length_cons List.length_nil List.getElem?_cons_zero List.getElem?_cons_succ List.getElem?_toArray List.all_cons List.all_nil ite_true ite_false if_true if_false Bool.not_false Bool.not_true decide_true decide_false and_true true_and and_self false_and and_false Bool.and_true Bool.true_and Bool.or_true Bool.true_or List.size_toArray seqFrom beq_self_eq_true BEq.rfl eq_self Nat.succ_ne_self false_or or_false Nat.zero_add Nat.add_zero Nat.not_lt_zero Nat.one_ne_zero tab2 tab3 tab4 tab5 tab9 tab22 tab24 tab25 tab27 tab30 tab54 tab57 tab78 tab85
theorem grpGo_flat (c : Int → Int → Int) : ∀ (l : List Int) (done : List (List Int)) (cur : List Int) (p : Int), (grpGo c done cur p l).flatten = done.flatten ++ cur ++ l
  | [], done, cur, p => by simp [grpGo]
  | k :: r, done, cur, p => by
    unfold grpGo
    split
    · rw [grpGo_flat c r]; simp
    · rw [grpGo_flat c r]; simp
theorem grp_flat (c : Int → Int → Int) (l : List Int) : (grp c l).flatten = l := by
  cases l with
  | nil => rfl
  | cons k r => simp [grp, grpGo_flat]
theorem grpGo_ne (c : Int → Int → Int) : ∀ (l : List Int) (done : List (List Int)) (cur : List Int) (p : Int), (∀ g ∈ done, g ≠ []) → cur ≠ [] → ∀ g ∈ grpGo c done cur p l, g ≠ []
  | [], done, cur, p, h1, h2 => by
    intro g hg
    simp only [grpGo, List.mem_append, List.mem_singleton] at hg
    rcases hg with hg | hg
    · exact h1 g hg
    · exact hg ▸ h2
  | k :: r, done, cur, p, h1, h2 => by
    unfold grpGo
    split
    · refine grpGo_ne c r _ _ _ ?_ (by simp)
      intro g hg
      rcases List.mem_append.1 hg with hg | hg
      · exact h1 g hg
      · rw [List.mem_singleton.1 hg]; exact h2
    · exact grpGo_ne c r _ _ _ h1 (by simp)
theorem grp_ne (c : Int → Int → Int) (l : List Int) : ∀ g ∈ grp c l, g ≠ [] := by
  cases l with
  | nil => simp [grp]
  | cons k r => exact grpGo_ne c r [] [k] k (by simp) (by simp)
theorem flat_mem {gs : List (List Int)} {g : List Int} (h : g ∈ gs) {x : Int} (hx : x ∈ g) : x ∈ gs.flatten := List.mem_flatten.2 ⟨g, h, hx⟩
theorem flat_len : ∀ {gs : List (List Int)} {g : List Int}, g ∈ gs → g.length ≤ gs.flatten.length
  | [], g, h => by simp at h
  | a :: r, g, h => by
    rw [List.flatten_cons, List.length_append]
    rcases List.mem_cons.1 h with e | h
    · subst e; omega
    · have := flat_len h; omega
theorem flat_num : ∀ {gs : List (List Int)}, (∀ g ∈ gs, g ≠ []) → gs.length ≤ gs.flatten.length
  | [], h => by simp
  | a :: r, h => by
    rw [List.flatten_cons, List.length_append, List.length_cons]
    have h1 := flat_num (gs := r) (fun g hg => h g (by simp [hg]))
    have h2 : a ≠ [] := h a (by simp)
    have h3 : 0 < a.length := List.length_pos_iff.2 h2
    omega
theorem pick_flat (es : List V) (gs : List (List Int)) : gs.flatMap (pickL es) = pickL es gs.flatten := by
  induction gs with
  | nil => rfl
  | cons a r ih => simp only [List.flatMap_cons, ih, List.flatten_cons, pickL, List.map_append]
theorem pick_len (es : List V) (l : List Int) : (pickL es l).length = l.length := by simp [pickL]
def V.kd : V → Int | .mk k _ _ _ _ => k
def V.els : V → List V | .mk _ _ _ _ es => es
def ordO (v w : V) : List Int := isort (kc w.els) ((List.range v.els.length).map Int.ofNat)
def grpOf (v w : V) : List (List Int) × Int := grpRes (kc w.els) v.kd w.kd v.els.length w.els.length (ordO v w)
def sortByRes (v w : V) : V × Int := chosenRes (pickL v.els) (grpOf v w)
def groupByRes (v w : V) : V × Int := chosenRes (fun g => [V.arr (pickL v.els g)]) (grpOf v w)
theorem ordO_mem {v w : V} {x : Int} (h : x ∈ ordO v w) : 0 ≤ x ∧ x < (v.els.length : Int) := by
  unfold ordO at h
  rw [isort_mem] at h
  obtain ⟨a, ha, rfl⟩ := List.mem_map.1 h
  have := List.mem_range.1 ha
  constructor
  · exact Int.natCast_nonneg _
  · exact Int.ofNat_lt.2 this
theorem ordO_length (v w : V) : (ordO v w).length = v.els.length := by simp [ordO, isort_length]
theorem grpOf_flat {v w : V} {g : List Int} (hg : g ∈ (grpOf v w).1) : (∀ x ∈ g, 0 ≤ x ∧ x < (v.els.length : Int)) ∧ g.length ≤ v.els.length := by
  unfold grpOf grpRes at hg
  split at hg
  · simp at hg
  · split at hg
    · simp at hg
    · simp only [] at hg
      refine ⟨fun x hx => ordO_mem (v := v) (w := w) ?_, ?_⟩
      · rw [← grp_flat (kc w.els) (ordO v w)]; exact flat_mem hg hx
      · have := flat_len hg; rwa [grp_flat, ordO_length] at this
theorem grpOf_len (v w : V) : (grpOf v w).1.length ≤ v.els.length ∧ (grpOf v w).1.flatten.length ≤ v.els.length := by
  unfold grpOf grpRes
  split
  · simp
  · split
    · simp
    · simp only []
      have := flat_num (grp_ne (kc w.els) (ordO v w))
      rw [grp_flat, ordO_length] at this
      rw [grp_flat, ordO_length]
      exact ⟨this, Nat.le_refl _⟩
theorem grpOf_spec (v w : V) (hn : v.els.length ≤ 20) : Pm.Spec X0.P 55 [v.enc, w.enc] [.slice ((grpOf v w).1.map gD), .int .i64 (grpOf v w).2] := by
  cases v with
  | mk k i s ks es =>
  cases w with
  | mk k' i' s' ks' es' =>
  simp only [V.els] at hn
  refine groups_spec k i s ks es k' i' s' ks' es' _ (fun h1 h2 h3 => ⟨by omega, ?_, ?_, ?_⟩)
  · rw [ordO_length]; rfl
  · intro x hx
    have := ordO_mem hx
    simp only [V.els] at this
    omega
  · refine sort_spec (kc es') 73 _ _ es.length (by simp) hn ?_
    intro x hx y hy
    have hr : ∀ z ∈ (List.range es.length).map Int.ofNat, 0 ≤ z ∧ z < (es'.length : Int) := by
      intro z hz
      obtain ⟨a, ha, rfl⟩ := List.mem_map.1 hz
      have := List.mem_range.1 ha
      constructor
      · exact Int.natCast_nonneg _
      · rw [← h3]; exact Int.ofNat_lt.2 this
    exact groups1_spec k' i' s' ks' es' x y (hr x hx) (hr y hy)
theorem opsort_spec (v w : V) (hn : v.els.length ≤ 20) : Pm.Spec X0.P 27 [v.enc, w.enc] [(sortByRes v w).1.enc, .int .i64 (sortByRes v w).2] := by
  have hsp := fun caps hF => chosen_spec v w 50 caps (pickL v.els) (grpOf v w) (grpOf_spec v w hn) hF (by rw [pick_flat, pick_len]; have := (grpOf_len v w).2; omega) (by have := (grpOf_len v w).1; omega)
  have hr := fun g hg => @grpOf_flat v w g hg
  unfold sortByRes
  generalize chosenRes (pickL v.els) (grpOf v w) = R at *
  obtain ⟨R1, R2⟩ := R
  cases v with
  | mk k i s ks es =>
  cases w with
  | mk k' i' s' ks' es' =>
  cases R1 with
  | mk k1 i1 s1 ks1 es1 =>
  have hsp := hsp [.ptr [.int .i64 k, .int .i64 i, .str s, .slice (ks.map .str), .slice (encL es)]] (fun g hg => sortf_spec k i s ks es g (hr g hg).1 (by have := (hr g hg).2; simp only [V.els] at this hn; omega))
  simp only [V.enc] at hsp ⊢
  refine Spec.of fn27 rfl rfl (by show 2 ≤ 12; decide) ?_
  show WC X0 12 _ _ _
  (repeat refine wc_assoc ?_); refine wc_then (by simp only [go_sem, Nat.reduceAdd, Nat.reduceBEq, Nat.reduceEqDiff, Nat.reduceLT, Nat.reduceLeDiff, Nat.reduceMul, Nat.reduceSub, reduceCtorEq, reduceIte] <;> rfl) ?_
  have hg2 : ∀ σ', Gh X0.refs σ' ⟨[(2, .obj 2 0 0), (3, .obj 3 0 0), (4, .obj 4 0 0)], [(2, .box 0 [.d (.int .i64 k), .d (.int .i64 i), .d (.str s), .d (.slice (ks.map .str)), .d (.slice (encL es))]), (3, .box 0 [.d (.int .i64 k'), .d (.int .i64 i'), .d (.str s'), .d (.slice (ks'.map .str)), .d (.slice (encL es'))]), (4, .box 0 [.d (.int .i64 0), .d (.int .i64 0), .d (.str ⟨#[]⟩), .d .nil, .d .nil])]⟩ → Gh X0.refs σ' ⟨[(2, .d (.ptr [.int .i64 k, .int .i64 i, .str s, .slice (ks.map .str), .slice (encL es)])), (3, .obj 3 0 0), (4, .obj 4 0 0)], [(3, .box 0 [.d (.int .i64 k'), .d (.int .i64 i'), .d (.str s'), .d (.slice (ks'.map .str)), .d (.slice (encL es'))]), (4, .box 0 [.d (.int .i64 0), .d (.int .i64 0), .d (.str ⟨#[]⟩), .d .nil, .d .nil])]⟩ := by
    intro σ' h
    refine .trans h (.trans (.freeze (t := 2) (id := 2) (g := 0) rfl rfl rfl rfl) (gh_keep [2, 3, 4] [3, 4] rfl (by simp [St.keep, St.kp, Go.Pm.look, lowO, lowT, isSome', Function.comp_def, St.set, St.put, D.cells])))
  (repeat refine wc_assoc ?_);  refine wc_ghost (hg2 _ (gh_keep [2, 3, 4] [2, 3, 4] rfl rfl)) (by
    repeat (first
    | (apply wo_op (hg := rfl) (hc := rfl) (hd := rfl); (simp only [go_sem, Nat.reduceAdd, Nat.reduceBEq, Nat.reduceEqDiff, Nat.reduceLT, Nat.reduceLeDiff, Nat.reduceMul, Nat.reduceSub, reduceCtorEq, reduceIte] <;> rfl); (simp only [go_sem, Nat.reduceAdd, Nat.reduceBEq, Nat.reduceEqDiff, Nat.reduceLT, Nat.reduceLeDiff, Nat.reduceMul, Nat.reduceSub, reduceCtorEq, reduceIte] <;> rfl))
    | (apply wo_eff (hg := rfl) (hc := rfl) (hd := rfl); (simp only [go_sem, Nat.reduceAdd, Nat.reduceBEq, Nat.reduceEqDiff, Nat.reduceLT, Nat.reduceLeDiff, Nat.reduceMul, Nat.reduceSub, reduceCtorEq, reduceIte] <;> rfl); (simp only [go_sem, Nat.reduceAdd, Nat.reduceBEq, Nat.reduceEqDiff, Nat.reduceLT, Nat.reduceLeDiff, Nat.reduceMul, Nat.reduceSub, reduceCtorEq, reduceIte] <;> rfl))
    | (apply wo_gT (hg := rfl); (simp only [go_sem, Nat.reduceAdd, Nat.reduceBEq, Nat.reduceEqDiff, Nat.reduceLT, Nat.reduceLeDiff, Nat.reduceMul, Nat.reduceSub, reduceCtorEq, reduceIte] <;> rfl))
    | (apply wo_gU (hg := rfl) (hd := rfl); (simp only [go_sem, Nat.reduceAdd, Nat.reduceBEq, Nat.reduceEqDiff, Nat.reduceLT, Nat.reduceLeDiff, Nat.reduceMul, Nat.reduceSub, reduceCtorEq, reduceIte] <;> rfl); (simp only [go_sem, Nat.reduceAdd, Nat.reduceBEq, Nat.reduceEqDiff, Nat.reduceLT, Nat.reduceLeDiff, Nat.reduceMul, Nat.reduceSub, reduceCtorEq, reduceIte] <;> rfl))
    | (apply wo_gF (hg := rfl) (hd := rfl); (simp only [go_sem, Nat.reduceAdd, Nat.reduceBEq, Nat.reduceEqDiff, Nat.reduceLT, Nat.reduceLeDiff, Nat.reduceMul, Nat.reduceSub, reduceCtorEq, reduceIte] <;> rfl); (simp only [go_sem, Nat.reduceAdd, Nat.reduceBEq, Nat.reduceEqDiff, Nat.reduceLT, Nat.reduceLeDiff, Nat.reduceMul, Nat.reduceSub, reduceCtorEq, reduceIte] <;> rfl))
    | exact wo_nil rfl)
    refine wo_call rfl rfl (by simp only [go_sem, Nat.reduceAdd, Nat.reduceBEq, Nat.reduceEqDiff, Nat.reduceLT, Nat.reduceLeDiff, Nat.reduceMul, Nat.reduceSub, reduceCtorEq, reduceIte] <;> rfl) (by simp only [go_sem, Nat.reduceAdd, Nat.reduceBEq, Nat.reduceEqDiff, Nat.reduceLT, Nat.reduceLeDiff, Nat.reduceMul, Nat.reduceSub, reduceCtorEq, reduceIte] <;> rfl) (.refl _) ((hsp)) rfl (by simp only [go_sem, Nat.reduceAdd, Nat.reduceBEq, Nat.reduceEqDiff, Nat.reduceLT, Nat.reduceLeDiff, Nat.reduceMul, Nat.reduceSub, reduceCtorEq, reduceIte] <;> rfl) ?_
    repeat (first
    | (apply wo_op (hg := rfl) (hc := rfl) (hd := rfl); (simp only [go_sem, Nat.reduceAdd, Nat.reduceBEq, Nat.reduceEqDiff, Nat.reduceLT, Nat.reduceLeDiff, Nat.reduceMul, Nat.reduceSub, reduceCtorEq, reduceIte] <;> rfl); (simp only [go_sem, Nat.reduceAdd, Nat.reduceBEq, Nat.reduceEqDiff, Nat.reduceLT, Nat.reduceLeDiff, Nat.reduceMul, Nat.reduceSub, reduceCtorEq, reduceIte] <;> rfl))
    | (apply wo_eff (hg := rfl) (hc := rfl) (hd := rfl); (simp only [go_sem, Nat.reduceAdd, Nat.reduceBEq, Nat.reduceEqDiff, Nat.reduceLT, Nat.reduceLeDiff, Nat.reduceMul, Nat.reduceSub, reduceCtorEq, reduceIte] <;> rfl); (simp only [go_sem, Nat.reduceAdd, Nat.reduceBEq, Nat.reduceEqDiff, Nat.reduceLT, Nat.reduceLeDiff, Nat.reduceMul, Nat.reduceSub, reduceCtorEq, reduceIte] <;> rfl))
    | (apply wo_gT (hg := rfl); (simp only [go_sem, Nat.reduceAdd, Nat.reduceBEq, Nat.reduceEqDiff, Nat.reduceLT, Nat.reduceLeDiff, Nat.reduceMul, Nat.reduceSub, reduceCtorEq, reduceIte] <;> rfl))
    | (apply wo_gU (hg := rfl) (hd := rfl); (simp only [go_sem, Nat.reduceAdd, Nat.reduceBEq, Nat.reduceEqDiff, Nat.reduceLT, Nat.reduceLeDiff, Nat.reduceMul, Nat.reduceSub, reduceCtorEq, reduceIte] <;> rfl); (simp only [go_sem, Nat.reduceAdd, Nat.reduceBEq, Nat.reduceEqDiff, Nat.reduceLT, Nat.reduceLeDiff, Nat.reduceMul, Nat.reduceSub, reduceCtorEq, reduceIte] <;> rfl))
    | (apply wo_gF (hg := rfl) (hd := rfl); (simp only [go_sem, Nat.reduceAdd, Nat.reduceBEq, Nat.reduceEqDiff, Nat.reduceLT, Nat.reduceLeDiff, Nat.reduceMul, Nat.reduceSub, reduceCtorEq, reduceIte] <;> rfl); (simp only [go_sem, Nat.reduceAdd, Nat.reduceBEq, Nat.reduceEqDiff, Nat.reduceLT, Nat.reduceLeDiff, Nat.reduceMul, Nat.reduceSub, reduceCtorEq, reduceIte] <;> rfl))
    | exact wo_nil rfl)) ?_
  refine wc_ret ⟨.inr rfl, _, (by simp only [Try.f27, go_sem, Nat.reduceAdd, Nat.reduceBEq, Nat.reduceEqDiff, Nat.reduceLT, Nat.reduceLeDiff, Nat.reduceMul, Nat.reduceSub, reduceCtorEq, reduceIte] <;> rfl), ?_⟩
  exact .refl _
theorem opgroup_spec (v w : V) (hn : v.els.length ≤ 20) : Pm.Spec X0.P 31 [v.enc, w.enc] [(groupByRes v w).1.enc, .int .i64 (groupByRes v w).2] := by
  have hl : ∀ (es : List V) (gs : List (List Int)), (gs.flatMap (fun g => [V.arr (pickL es g)])).length = gs.length := fun es gs => by
    induction gs with
    | nil => rfl
    | cons a r ih => simp only [List.flatMap_cons, List.length_append, ih, List.length_cons, List.length_nil]; omega
  have hsp := fun caps hF => chosen_spec v w 53 caps (fun g => [V.arr (pickL v.els g)]) (grpOf v w) (grpOf_spec v w hn) hF (by rw [hl]; have := (grpOf_len v w).1; omega) (by have := (grpOf_len v w).1; omega)
  have hr := fun g hg => @grpOf_flat v w g hg
  unfold groupByRes
  generalize chosenRes (fun g => [V.arr (pickL v.els g)]) (grpOf v w) = R at *
  obtain ⟨R1, R2⟩ := R
  cases v with
  | mk k i s ks es =>
  cases w with
  | mk k' i' s' ks' es' =>
  cases R1 with
  | mk k1 i1 s1 ks1 es1 =>
  have hsp := hsp [.ptr [.int .i64 k, .int .i64 i, .str s, .slice (ks.map .str), .slice (encL es)]] (fun g hg => groupf_spec k i s ks es g (hr g hg).1 (by have := (hr g hg).2; simp only [V.els] at this hn; omega))
  simp only [V.enc] at hsp ⊢
  refine Spec.of fn31 rfl rfl (by show 2 ≤ 12; decide) ?_
  show WC X0 12 _ _ _
  (repeat refine wc_assoc ?_); refine wc_then (by simp only [go_sem, Nat.reduceAdd, Nat.reduceBEq, Nat.reduceEqDiff, Nat.reduceLT, Nat.reduceLeDiff, Nat.reduceMul, Nat.reduceSub, reduceCtorEq, reduceIte] <;> rfl) ?_
  have hg2 : ∀ σ', Gh X0.refs σ' ⟨[(2, .obj 2 0 0), (3, .obj 3 0 0), (4, .obj 4 0 0)], [(2, .box 0 [.d (.int .i64 k), .d (.int .i64 i), .d (.str s), .d (.slice (ks.map .str)), .d (.slice (encL es))]), (3, .box 0 [.d (.int .i64 k'), .d (.int .i64 i'), .d (.str s'), .d (.slice (ks'.map .str)), .d (.slice (encL es'))]), (4, .box 0 [.d (.int .i64 0), .d (.int .i64 0), .d (.str ⟨#[]⟩), .d .nil, .d .nil])]⟩ → Gh X0.refs σ' ⟨[(2, .d (.ptr [.int .i64 k, .int .i64 i, .str s, .slice (ks.map .str), .slice (encL es)])), (3, .obj 3 0 0), (4, .obj 4 0 0)], [(3, .box 0 [.d (.int .i64 k'), .d (.int .i64 i'), .d (.str s'), .d (.slice (ks'.map .str)), .d (.slice (encL es'))]), (4, .box 0 [.d (.int .i64 0), .d (.int .i64 0), .d (.str ⟨#[]⟩), .d .nil, .d .nil])]⟩ := by
    intro σ' h
    refine .trans h (.trans (.freeze (t := 2) (id := 2) (g := 0) rfl rfl rfl rfl) (gh_keep [2, 3, 4] [3, 4] rfl (by simp [St.keep, St.kp, Go.Pm.look, lowO, lowT, isSome', Function.comp_def, St.set, St.put, D.cells])))
  (repeat refine wc_assoc ?_);  refine wc_ghost (hg2 _ (gh_keep [2, 3, 4] [2, 3, 4] rfl rfl)) (by
    repeat (first
    | (apply wo_op (hg := rfl) (hc := rfl) (hd := rfl); (simp only [go_sem, Nat.reduceAdd, Nat.reduceBEq, Nat.reduceEqDiff, Nat.reduceLT, Nat.reduceLeDiff, Nat.reduceMul, Nat.reduceSub, reduceCtorEq, reduceIte] <;> rfl); (simp only [go_sem, Nat.reduceAdd, Nat.reduceBEq, Nat.reduceEqDiff, Nat.reduceLT, Nat.reduceLeDiff, Nat.reduceMul, Nat.reduceSub, reduceCtorEq, reduceIte] <;> rfl))
    | (apply wo_eff (hg := rfl) (hc := rfl) (hd := rfl); (simp only [go_sem, Nat.reduceAdd, Nat.reduceBEq, Nat.reduceEqDiff, Nat.reduceLT, Nat.reduceLeDiff, Nat.reduceMul, Nat.reduceSub, reduceCtorEq, reduceIte] <;> rfl); (simp only [go_sem, Nat.reduceAdd, Nat.reduceBEq, Nat.reduceEqDiff, Nat.reduceLT, Nat.reduceLeDiff, Nat.reduceMul, Nat.reduceSub, reduceCtorEq, reduceIte] <;> rfl))
    | (apply wo_gT (hg := rfl); (simp only [go_sem, Nat.reduceAdd, Nat.reduceBEq, Nat.reduceEqDiff, Nat.reduceLT, Nat.reduceLeDiff, Nat.reduceMul, Nat.reduceSub, reduceCtorEq, reduceIte] <;> rfl))
    | (apply wo_gU (hg := rfl) (hd := rfl); (simp only [go_sem, Nat.reduceAdd, Nat.reduceBEq, Nat.reduceEqDiff, Nat.reduceLT, Nat.reduceLeDiff, Nat.reduceMul, Nat.reduceSub, reduceCtorEq, reduceIte] <;> rfl); (simp only [go_sem, Nat.reduceAdd, Nat.reduceBEq, Nat.reduceEqDiff, Nat.reduceLT, Nat.reduceLeDiff, Nat.reduceMul, Nat.reduceSub, reduceCtorEq, reduceIte] <;> rfl))
    | (apply wo_gF (hg := rfl) (hd := rfl); (simp only [go_sem, Nat.reduceAdd, Nat.reduceBEq, Nat.reduceEqDiff, Nat.reduceLT, Nat.reduceLeDiff, Nat.reduceMul, Nat.reduceSub, reduceCtorEq, reduceIte] <;> rfl); (simp only [go_sem, Nat.reduceAdd, Nat.reduceBEq, Nat.reduceEqDiff, Nat.reduceLT, Nat.reduceLeDiff, Nat.reduceMul, Nat.reduceSub, reduceCtorEq, reduceIte] <;> rfl))
    | exact wo_nil rfl)
    refine wo_call rfl rfl (by simp only [go_sem, Nat.reduceAdd, Nat.reduceBEq, Nat.reduceEqDiff, Nat.reduceLT, Nat.reduceLeDiff, Nat.reduceMul, Nat.reduceSub, reduceCtorEq, reduceIte] <;> rfl) (by simp only [go_sem, Nat.reduceAdd, Nat.reduceBEq, Nat.reduceEqDiff, Nat.reduceLT, Nat.reduceLeDiff, Nat.reduceMul, Nat.reduceSub, reduceCtorEq, reduceIte] <;> rfl) (.refl _) ((hsp)) rfl (by simp only [go_sem, Nat.reduceAdd, Nat.reduceBEq, Nat.reduceEqDiff, Nat.reduceLT, Nat.reduceLeDiff, Nat.reduceMul, Nat.reduceSub, reduceCtorEq, reduceIte] <;> rfl) ?_
    repeat (first
    | (apply wo_op (hg := rfl) (hc := rfl) (hd := rfl); (simp only [go_sem, Nat.reduceAdd, Nat.reduceBEq, Nat.reduceEqDiff, Nat.reduceLT, Nat.reduceLeDiff, Nat.reduceMul, Nat.reduceSub, reduceCtorEq, reduceIte] <;> rfl); (simp only [go_sem, Nat.reduceAdd, Nat.reduceBEq, Nat.reduceEqDiff, Nat.reduceLT, Nat.reduceLeDiff, Nat.reduceMul, Nat.reduceSub, reduceCtorEq, reduceIte] <;> rfl))
    | (apply wo_eff (hg := rfl) (hc := rfl) (hd := rfl); (simp only [go_sem, Nat.reduceAdd, Nat.reduceBEq, Nat.reduceEqDiff, Nat.reduceLT, Nat.reduceLeDiff, Nat.reduceMul, Nat.reduceSub, reduceCtorEq, reduceIte] <;> rfl); (simp only [go_sem, Nat.reduceAdd, Nat.reduceBEq, Nat.reduceEqDiff, Nat.reduceLT, Nat.reduceLeDiff, Nat.reduceMul, Nat.reduceSub, reduceCtorEq, reduceIte] <;> rfl))
    | (apply wo_gT (hg := rfl); (simp only [go_sem, Nat.reduceAdd, Nat.reduceBEq, Nat.reduceEqDiff, Nat.reduceLT, Nat.reduceLeDiff, Nat.reduceMul, Nat.reduceSub, reduceCtorEq, reduceIte] <;> rfl))
    | (apply wo_gU (hg := rfl) (hd := rfl); (simp only [go_sem, Nat.reduceAdd, Nat.reduceBEq, Nat.reduceEqDiff, Nat.reduceLT, Nat.reduceLeDiff, Nat.reduceMul, Nat.reduceSub, reduceCtorEq, reduceIte] <;> rfl); (simp only [go_sem, Nat.reduceAdd, Nat.reduceBEq, Nat.reduceEqDiff, Nat.reduceLT, Nat.reduceLeDiff, Nat.reduceMul, Nat.reduceSub, reduceCtorEq, reduceIte] <;> rfl))
    | (apply wo_gF (hg := rfl) (hd := rfl); (simp only [go_sem, Nat.reduceAdd, Nat.reduceBEq, Nat.reduceEqDiff, Nat.reduceLT, Nat.reduceLeDiff, Nat.reduceMul, Nat.reduceSub, reduceCtorEq, reduceIte] <;> rfl); (simp only [go_sem, Nat.reduceAdd, Nat.reduceBEq, Nat.reduceEqDiff, Nat.reduceLT, Nat.reduceLeDiff, Nat.reduceMul, Nat.reduceSub, reduceCtorEq, reduceIte] <;> rfl))
    | exact wo_nil rfl)) ?_
  refine wc_ret ⟨.inr rfl, _, (by simp only [Try.f31, go_sem, Nat.reduceAdd, Nat.reduceBEq, Nat.reduceEqDiff, Nat.reduceLT, Nat.reduceLeDiff, Nat.reduceMul, Nat.reduceSub, reduceCtorEq, reduceIte] <;> rfl), ?_⟩
  exact .refl _
theorem sort1_spec (v w : V) (hn : v.els.length ≤ 20) : Pm.Spec X0.P 26 [.slice (encL [v, w])] [(sortByRes v w).1.enc, .int .i64 (sortByRes v w).2] := by
  have hsp := opsort_spec v w hn
  generalize sortByRes v w = R at *
  obtain ⟨R1, R2⟩ := R
  cases v with
  | mk k i s ks es =>
  cases w with
  | mk k' i' s' ks' es' =>
  cases R1 with
  | mk k1 i1 s1 ks1 es1 =>
  simp only [V.enc, encL] at hsp ⊢
  refine Spec.of fn26 rfl rfl (by show 1 ≤ 13; decide) ?_
  show WC X0 13 _ _ _
  (repeat refine wc_assoc ?_); refine wc_then (by simp only [go_sem, Nat.reduceAdd, Nat.reduceBEq, Nat.reduceEqDiff, Nat.reduceLT, Nat.reduceLeDiff, Nat.reduceMul, Nat.reduceSub, reduceCtorEq, reduceIte] <;> rfl) ?_
  refine wc_thenD (by rfl) (by
    repeat (first
    | (apply wo_op (hg := rfl) (hc := rfl) (hd := rfl); (simp only [Int.toNat_zero, Int.toNat_one, Int.le_refl, Nat.le_refl, go_sem, Nat.reduceAdd, Nat.reduceBEq, Nat.reduceEqDiff, Nat.reduceLT, Nat.reduceLeDiff, Nat.reduceMul, Nat.reduceSub, reduceCtorEq, reduceIte] <;> rfl); (simp only [go_sem, Nat.reduceAdd, Nat.reduceBEq, Nat.reduceEqDiff, Nat.reduceLT, Nat.reduceLeDiff, Nat.reduceMul, Nat.reduceSub, reduceCtorEq, reduceIte] <;> rfl))
    | (apply wo_eff (hg := rfl) (hc := rfl) (hd := rfl); (simp only [Int.toNat_zero, Int.toNat_one, Int.le_refl, Nat.le_refl, go_sem, Nat.reduceAdd, Nat.reduceBEq, Nat.reduceEqDiff, Nat.reduceLT, Nat.reduceLeDiff, Nat.reduceMul, Nat.reduceSub, reduceCtorEq, reduceIte] <;> rfl); (simp only [go_sem, Nat.reduceAdd, Nat.reduceBEq, Nat.reduceEqDiff, Nat.reduceLT, Nat.reduceLeDiff, Nat.reduceMul, Nat.reduceSub, reduceCtorEq, reduceIte] <;> rfl))
    | (apply wo_gT (hg := rfl); (simp only [Int.toNat_zero, Int.toNat_one, Int.le_refl, Nat.le_refl, go_sem, Nat.reduceAdd, Nat.reduceBEq, Nat.reduceEqDiff, Nat.reduceLT, Nat.reduceLeDiff, Nat.reduceMul, Nat.reduceSub, reduceCtorEq, reduceIte] <;> rfl))
    | (apply wo_gU (hg := rfl) (hd := rfl); (simp only [Int.toNat_zero, Int.toNat_one, Int.le_refl, Nat.le_refl, go_sem, Nat.reduceAdd, Nat.reduceBEq, Nat.reduceEqDiff, Nat.reduceLT, Nat.reduceLeDiff, Nat.reduceMul, Nat.reduceSub, reduceCtorEq, reduceIte] <;> rfl); (simp only [go_sem, Nat.reduceAdd, Nat.reduceBEq, Nat.reduceEqDiff, Nat.reduceLT, Nat.reduceLeDiff, Nat.reduceMul, Nat.reduceSub, reduceCtorEq, reduceIte] <;> rfl))
    | (apply wo_gF (hg := rfl) (hd := rfl); (simp only [Int.toNat_zero, Int.toNat_one, Int.le_refl, Nat.le_refl, go_sem, Nat.reduceAdd, Nat.reduceBEq, Nat.reduceEqDiff, Nat.reduceLT, Nat.reduceLeDiff, Nat.reduceMul, Nat.reduceSub, reduceCtorEq, reduceIte] <;> rfl); (simp only [go_sem, Nat.reduceAdd, Nat.reduceBEq, Nat.reduceEqDiff, Nat.reduceLT, Nat.reduceLeDiff, Nat.reduceMul, Nat.reduceSub, reduceCtorEq, reduceIte] <;> rfl))
    | exact wo_nil rfl)
    refine wo_call rfl rfl (by simp only [go_sem, Nat.reduceAdd, Nat.reduceBEq, Nat.reduceEqDiff, Nat.reduceLT, Nat.reduceLeDiff, Nat.reduceMul, Nat.reduceSub, reduceCtorEq, reduceIte] <;> rfl) (by simp only [go_sem, Nat.reduceAdd, Nat.reduceBEq, Nat.reduceEqDiff, Nat.reduceLT, Nat.reduceLeDiff, Nat.reduceMul, Nat.reduceSub, reduceCtorEq, reduceIte] <;> rfl) (.refl _) ((hsp)) rfl (by simp only [go_sem, Nat.reduceAdd, Nat.reduceBEq, Nat.reduceEqDiff, Nat.reduceLT, Nat.reduceLeDiff, Nat.reduceMul, Nat.reduceSub, reduceCtorEq, reduceIte] <;> rfl) ?_
    repeat (first
    | (apply wo_op (hg := rfl) (hc := rfl) (hd := rfl); (simp only [go_sem, Nat.reduceAdd, Nat.reduceBEq, Nat.reduceEqDiff, Nat.reduceLT, Nat.reduceLeDiff, Nat.reduceMul, Nat.reduceSub, reduceCtorEq, reduceIte] <;> rfl); (simp only [go_sem, Nat.reduceAdd, Nat.reduceBEq, Nat.reduceEqDiff, Nat.reduceLT, Nat.reduceLeDiff, Nat.reduceMul, Nat.reduceSub, reduceCtorEq, reduceIte] <;> rfl))
    | (apply wo_eff (hg := rfl) (hc := rfl) (hd := rfl); (simp only [go_sem, Nat.reduceAdd, Nat.reduceBEq, Nat.reduceEqDiff, Nat.reduceLT, Nat.reduceLeDiff, Nat.reduceMul, Nat.reduceSub, reduceCtorEq, reduceIte] <;> rfl); (simp only [go_sem, Nat.reduceAdd, Nat.reduceBEq, Nat.reduceEqDiff, Nat.reduceLT, Nat.reduceLeDiff, Nat.reduceMul, Nat.reduceSub, reduceCtorEq, reduceIte] <;> rfl))
    | (apply wo_gT (hg := rfl); (simp only [go_sem, Nat.reduceAdd, Nat.reduceBEq, Nat.reduceEqDiff, Nat.reduceLT, Nat.reduceLeDiff, Nat.reduceMul, Nat.reduceSub, reduceCtorEq, reduceIte] <;> rfl))
    | (apply wo_gU (hg := rfl) (hd := rfl); (simp only [go_sem, Nat.reduceAdd, Nat.reduceBEq, Nat.reduceEqDiff, Nat.reduceLT, Nat.reduceLeDiff, Nat.reduceMul, Nat.reduceSub, reduceCtorEq, reduceIte] <;> rfl); (simp only [go_sem, Nat.reduceAdd, Nat.reduceBEq, Nat.reduceEqDiff, Nat.reduceLT, Nat.reduceLeDiff, Nat.reduceMul, Nat.reduceSub, reduceCtorEq, reduceIte] <;> rfl))
    | (apply wo_gF (hg := rfl) (hd := rfl); (simp only [go_sem, Nat.reduceAdd, Nat.reduceBEq, Nat.reduceEqDiff, Nat.reduceLT, Nat.reduceLeDiff, Nat.reduceMul, Nat.reduceSub, reduceCtorEq, reduceIte] <;> rfl); (simp only [go_sem, Nat.reduceAdd, Nat.reduceBEq, Nat.reduceEqDiff, Nat.reduceLT, Nat.reduceLeDiff, Nat.reduceMul, Nat.reduceSub, reduceCtorEq, reduceIte] <;> rfl))
    | exact wo_nil rfl)) ?_
  refine wc_ret ⟨.inr rfl, _, (by simp only [Try.f26, go_sem, Nat.reduceAdd, Nat.reduceBEq, Nat.reduceEqDiff, Nat.reduceLT, Nat.reduceLeDiff, Nat.reduceMul, Nat.reduceSub, reduceCtorEq, reduceIte] <;> rfl), ?_⟩
  exact .refl _
end Go.Proofs.Ytnkknmdpakebhaa
