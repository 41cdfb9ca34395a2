/- Plain laws: comparisons turn round; sorting permutes and orders. -/
import Derived.Test.YtnkknmdpakebhaaPmLe
set_option linter.unusedSimpArgs false
set_option linter.unusedVariables false
set_option maxHeartbeats 4000000
namespace Go.Proofs.Ytnkknmdpakebhaa
open Go Go.Pm
attribute [local irreducible] WC WOps WOpsG
attribute [local go_sem] WOps WOp callOf gtmp gval gvalT evOp evBuiltin binT St.ev constT St.m envOf Go.Pm.look St.upd St.putO St.put St.set allT allP T.toD unD1 T.cells T.asSlice D.cells D.sz eqTy binD unD cvD cv2 fillD ldT ldD TyI.agg allD splice isSome' cut bnd resT resOf Done Option.all_some Option.all_none Option.getD_some Option.getD_none Option.bind_some Option.bind_none Option.map_some Option.map_none List.map List.map_cons List.map_nil List.cons_append List.nil_append List.append_nil List.take_succ_cons List.drop_succ_cons List.take_zero List.drop_zero List.take_nil List.drop_nil List.head?_cons List.length_cons List.length_nil List.getElem?_cons_zero List.getElem?_cons_succ List.getElem?_toArray List.all_cons List.all_nil ite_true ite_false if_true if_false Bool.not_false Bool.not_true decide_true decide_false and_true true_and and_self false_and and_false Bool.and_true Bool.true_and Bool.or_true Bool.true_or List.size_toArray seqFrom beq_self_eq_true BEq.rfl eq_self Nat.succ_ne_self false_or or_false Nat.zero_add Nat.add_zero Nat.not_lt_zero Nat.one_ne_zero tab2 tab3 tab4 tab5 tab9 tab22 tab24 tab25 tab27 tab30 tab54 tab57 tab78 tab85
theorem iord_neg_eq (a b : Int) : iord b a = - iord a b := by
  unfold iord
  by_cases h1 : a < b
  · rw [if_neg (by omega), if_pos (by omega), if_pos h1]; rfl
  · by_cases h2 : a > b
    · rw [if_pos (by omega), if_neg h1, if_pos h2]
    · rw [if_neg (by omega), if_neg (by omega), if_neg h1, if_neg h2]; rfl
theorem scmp_neg_eq (a b : ByteArray) : scmp b a = - scmp a b := by
  unfold scmp Go.Extern.BytealgCompare.cmp
  rw [Nat.min_comm b.size a.size, show (fun i => b[i]! != a[i]!) = (fun i => a[i]! != b[i]!) from funext fun i => by simp [bne, Bool.beq_comm]]
  cases hf : (List.range (min a.size b.size)).find? fun i => a[i]! != b[i]! with
  | none =>
    simp only []
    by_cases h1 : a.size < b.size
    · rw [if_neg (by omega), if_pos (by omega), if_pos h1]; rfl
    · by_cases h2 : a.size > b.size
      · rw [if_pos (by omega), if_neg h1, if_pos h2]
      · rw [if_neg (by omega), if_neg (by omega), if_neg h1, if_neg h2]; rfl
  | some i =>
    simp only []
    have hp := List.find?_some hf
    generalize a[i]! = x at *
    generalize b[i]! = y at *
    have hne : x ≠ y := by simpa using hp
    have hne' : x.toNat ≠ y.toNat := fun h => hne (UInt8.toNat_inj.1 h)
    by_cases h1 : x < y
    · have h2 : ¬ y < x := by rw [UInt8.lt_iff_toNat_lt] at h1 ⊢; omega
      rw [if_neg h2, if_pos h1]; rfl
    · have h2 : y < x := by rw [UInt8.lt_iff_toNat_lt] at h1 ⊢; omega
      rw [if_pos h2, if_neg h1]
theorem less_cases : ∀ (a b : List UInt8), (Op.bytesLess a b = true ∧ Op.bytesLess b a = false ∧ (a == b) = false) ∨ (Op.bytesLess a b = false ∧ Op.bytesLess b a = true ∧ (a == b) = false) ∨ (Op.bytesLess a b = false ∧ Op.bytesLess b a = false ∧ a = b)
  | [], [] => by simp [Op.bytesLess]
  | [], _ :: _ => by simp [Op.bytesLess]
  | _ :: _, [] => by simp [Op.bytesLess]
  | x :: a, y :: b => by
    simp only [Op.bytesLess]
    by_cases h : x = y
    · subst h
      have hxx : ¬ x < x := by rw [UInt8.lt_iff_toNat_lt]; omega
      rcases less_cases a b with ⟨h1, h2, h3⟩ | ⟨h1, h2, h3⟩ | ⟨h1, h2, h3⟩
      · left; have h3' : a ≠ b := by simpa using h3
        simp [h1, h2, h3', hxx]
      · right; left; have h3' : a ≠ b := by simpa using h3
        simp [h1, h2, h3', hxx]
      · right; right; simp [h1, h2, h3, hxx]; subst h3; exact h1
    · have hne : x.toNat ≠ y.toNat := fun q => h (UInt8.toNat_inj.1 q)
      by_cases h1 : x < y
      · have h2 : ¬ y < x := by rw [UInt8.lt_iff_toNat_lt] at h1 ⊢; omega
        left; simp [h, h1, h2, Ne.symm h]
      · have h2 : y < x := by rw [UInt8.lt_iff_toNat_lt] at h1 ⊢; omega
        right; left; simp [h, h1, h2, Ne.symm h]
theorem sord_neg_eq (a b : ByteArray) : sord b a = - sord a b := by
  unfold sord
  rcases less_cases a.toList b.toList with ⟨h1, h2, h3⟩ | ⟨h1, h2, h3⟩ | ⟨h1, h2, h3⟩
  · have h4 : (b.toList == a.toList) = false := by rw [Bool.beq_comm]; exact h3
    simp [h1, h2, h4]
  · have h4 : (b.toList == a.toList) = false := by rw [Bool.beq_comm]; exact h3
    simp [h1, h2, h3]
  · rw [h3] at h1 h2 ⊢
    simp [h1]
theorem ksord_neg_eq : ∀ a b : List ByteArray, ksord b a = - ksord a b
  | [], [] => rfl
  | [], _ :: _ => rfl
  | _ :: _, [] => rfl
  | a :: x, b :: y => by
    simp only [ksord]
    rw [sord_neg_eq a b, ksord_neg_eq x y]
    by_cases h : sord a b = 0
    · rw [if_neg (by simp [h]), if_neg (by simp [h])]
    · rw [if_pos (by omega), if_pos h]
mutual
theorem cmp_neg_eq : ∀ v w : V, w.cmp v = - v.cmp w
  | .mk k i s ks es, .mk k' i' s' ks' es' => by
    rw [V.cmp, V.cmp]
    by_cases h1 : k = k'
    · subst h1
      rw [if_neg (show ¬ (k ≠ k) by simp), if_neg (show ¬ (k ≠ k) by simp)]
      by_cases h3 : k = 3
      · rw [if_pos h3, if_pos h3]; exact iord_neg_eq _ _
      rw [if_neg h3, if_neg h3]
      by_cases h4 : k = 4
      · rw [if_pos h4, if_pos h4]; exact scmp_neg_eq _ _
      rw [if_neg h4, if_neg h4, ksord_neg_eq ks ks', cmpL_neg_eq es es']
      by_cases h6 : k = 6 ∧ ksord ks ks' ≠ 0
      · rw [if_pos h6, if_pos ⟨h6.1, by omega⟩]
      · rw [if_neg h6, if_neg (fun q => h6 ⟨q.1, by omega⟩)]
    · rw [if_pos (fun q => h1 q.symm), if_pos h1]; exact iord_neg_eq _ _
theorem cmpL_neg_eq : ∀ a b : List V, cmpL b a = - cmpL a b
  | [], [] => by rw [cmpL]; rfl
  | [], _ :: _ => by rw [cmpL, cmpL]; rfl
  | _ :: _, [] => by rw [cmpL, cmpL]
  | v :: l, w :: r => by
    rw [cmpL, cmpL, cmp_neg_eq v w, cmpL_neg_eq l r]
    by_cases h : v.cmp w = 0
    · rw [if_neg (by simp [h]), if_neg (by simp [h])]
    · rw [if_pos (by omega), if_pos h]
end
mutual
theorem same_refl : ∀ v : V, v.same v = true
  | .mk k i s ks es => by simp [V.same, sameL_refl es]
theorem sameL_refl : ∀ l : List V, sameL l l = true
  | [] => by simp [sameL]
  | v :: l => by simp [sameL, same_refl v, sameL_refl l]
end
/-! ### Sorting permutes -/
theorem insR_perm (c : Int → Int → Int) : ∀ (r : List Int) (x : Int), (insR c r x).Perm (x :: r)
  | [], x => .refl _
  | y :: r, x => by
    unfold insR
    split
    · exact (List.Perm.cons y (insR_perm c r x)).trans (List.Perm.swap x y r)
    · exact .refl _
theorem ins_perm (c : Int → Int → Int) (s : List Int) (x : Int) : (ins c s x).Perm (x :: s) := by
  unfold ins
  refine (List.reverse_perm _).trans ((insR_perm c _ x).trans ?_)
  exact List.Perm.cons x (List.reverse_perm s)
theorem isort_perm (c : Int → Int → Int) (l : List Int) : (isort c l).Perm l := by
  unfold isort
  suffices h : ∀ (m s : List Int), (m.foldl (ins c) s).Perm (m ++ s) by simpa using h l []
  intro m
  induction m with
  | nil => intro s; exact .refl _
  | cons x r ih =>
    intro s
    simp only [List.foldl_cons, List.cons_append]
    refine (ih _).trans ?_
    refine (List.Perm.append_left r (ins_perm c s x)).trans ?_
    exact List.perm_middle
theorem pick_range (l : List V) : pickL l ((List.range l.length).map Int.ofNat) = l := by
  unfold pickL
  rw [List.map_map]
  refine List.ext_getElem (by simp) (fun i h1 h2 => ?_)
  simp only [List.getElem_map, List.getElem_range, Function.comp]
  show l.getD i V.zero = _
  simp [List.getD, h2]
theorem pick_perm (l : List V) (c : Int → Int → Int) : (pickL l (isort c ((List.range l.length).map Int.ofNat))).Perm l := by
  have := (isort_perm c ((List.range l.length).map Int.ofNat)).map (fun x : Int => l.getD x.toNat V.zero)
  have h2 := pick_range l
  unfold pickL at h2 ⊢
  rwa [h2] at this
/-! ### Sorting orders neighbours -/
def Adj (R : Int → Int → Prop) (l : List Int) : Prop := ∀ l1 a b l2, l = l1 ++ a :: b :: l2 → R a b
theorem adj_cons {R : Int → Int → Prop} {x : Int} {l : List Int} (h : Adj R l) (hx : ∀ y r, l = y :: r → R x y) : Adj R (x :: l) := by
  intro l1 a b l2 e
  cases l1 with
  | nil =>
    simp only [List.nil_append, List.cons.injEq] at e
    obtain ⟨rfl, e⟩ := e
    exact hx b l2 e
  | cons z l1 =>
    simp only [List.cons_append, List.cons.injEq] at e
    exact h l1 a b l2 e.2
theorem Adj.tail {R : Int → Int → Prop} {x : Int} {l : List Int} (h : Adj R (x :: l)) : Adj R l := fun l1 a b l2 e => h (x :: l1) a b l2 (by rw [e]; rfl)
theorem Adj.rev {R : Int → Int → Prop} {l : List Int} (h : Adj R l) : Adj (fun a b => R b a) l.reverse := by
  intro l1 a b l2 e
  have := congrArg List.reverse e
  simp only [List.reverse_reverse, List.reverse_append, List.reverse_cons, List.append_assoc, List.singleton_append, List.cons_append, List.nil_append] at this
  exact h l2.reverse b a l1.reverse this
theorem Adj.get {R : Int → Int → Prop} {l : List Int} (h : Adj R l) {i : Nat} (h1 : i + 1 < l.length) : R l[i] l[i + 1] := by
  refine h (l.take i) _ _ (l.drop (i + 2)) ?_
  conv => lhs; rw [← List.take_append_drop i l, List.drop_eq_getElem_cons (show i < l.length by omega), List.drop_eq_getElem_cons h1]
theorem insR_adj {c : Int → Int → Int} (hc : ∀ a b, c b a = - c a b) : ∀ {r : List Int} {x : Int}, Adj (fun a b => c b a ≤ 0) r → Adj (fun a b => c b a ≤ 0) (insR c r x)
  | [], x, _ => adj_cons (fun l1 a b l2 e => by simp at e) (fun y r e => by cases e)
  | y :: r, x, h => by
    unfold insR
    split
    · rename_i hlt
      refine adj_cons (insR_adj hc h.tail) (fun z q e => ?_)
      cases r with
      | nil =>
        simp only [insR, List.cons.injEq] at e
        rw [← e.1]; omega
      | cons w r =>
        unfold insR at e
        split at e
        · simp only [List.cons.injEq] at e
          rw [← e.1]
          exact h [] y w r rfl
        · simp only [List.cons.injEq] at e
          rw [← e.1]; omega
    · rename_i hge
      refine adj_cons h (fun z q e => ?_)
      simp only [List.cons.injEq] at e
      rw [← e.1, hc]; omega
theorem isort_adj {c : Int → Int → Int} (hc : ∀ a b, c b a = - c a b) (l : List Int) : Adj (fun a b => c a b ≤ 0) (isort c l) := by
  unfold isort
  suffices h : ∀ (m s : List Int), Adj (fun a b => c a b ≤ 0) s → Adj (fun a b => c a b ≤ 0) (m.foldl (ins c) s) from h l [] (fun l1 a b l2 e => by simp at e)
  intro m
  induction m with
  | nil => intro s h; exact h
  | cons x r ih =>
    intro s h
    simp only [List.foldl_cons]
    refine ih _ ?_
    unfold ins
    exact (insR_adj hc h.rev).rev
end Go.Proofs.Ytnkknmdpakebhaa
