/- Plain laws on numbers, and on the insertion sort. -/
import Derived.Test.YtnkknmdpakebhaaPmIg
set_option linter.unusedSimpArgs false
set_option linter.unusedVariables false
set_option maxHeartbeats 4000000
namespace Go.Proofs.Ytnkknmdpakebhaa
open Go Go.Pm
attribute [local irreducible] WC WOps WOpsG
attribute [local go_sem] WOps WOp callOf gtmp gval gvalT evOp evBuiltin binT St.ev constT St.m envOf Go.Pm.look St.upd St.putO St.put St.set allT allP T.toD unD1 T.cells T.asSlice D.cells D.sz eqTy binD unD cvD cv2 fillD ldT ldD TyI.agg allD splice isSome' cut bnd resT resOf Done Option.all_some Option.all_none Option.getD_some Option.getD_none Option.bind_some Option.bind_none Option.map_some Option.map_none List.map List.map_cons List.map_nil List.cons_append List.nil_append List.append_nil List.take_succ_cons List.drop_succ_cons List.take_zero List.drop_zero List.take_nil List.drop_nil List.head?_cons List.length_cons List.length_nil List.getElem?_cons_zero List.getElem?_cons_succ List.getElem?_toArray List.all_cons List.all_nil ite_true ite_false if_true if_false Bool.not_false Bool.not_true decide_true decide_false and_true true_and and_self false_and and_false Bool.and_true Bool.true_and Bool.or_true Bool.true_or List.size_toArray seqFrom beq_self_eq_true BEq.rfl eq_self Nat.succ_ne_self false_or or_false Nat.zero_add Nat.add_zero Nat.not_lt_zero Nat.one_ne_zero tab2 tab3 tab4 tab5 tab9 tab22 tab24 tab25 tab27 tab30 tab54 tab57 tab78 tab85
theorem empty_valid : uValid ⟨#[]⟩ = true := by
  unfold uValid
  show (uCnt ⟨#[]⟩ 0 0 0).isSome = true
  rfl
theorem num_formed (n : Int) : (V.num n).formed = true := by
  simp [V.num, V.formed, headBad, empty_valid, nil_toList]
theorem arr_formed (l : List V) : (V.arr l).formed = true := by
  simp [V.arr, V.formed, headBad, empty_valid, nil_toList]
theorem wrap_small {m : Int} (h0 : 0 ≤ m) (h : m < 1000000) : IntKind.i64.wrap m = m := by rw [IntKind.wrap_i64]; omega
theorem num_fits (n ar : Int) (form : Bool) (m b : Int) (h0 : 0 ≤ m) (h : m + 1 ≤ 4096) (hb : 0 ≤ b) (hb' : b ≤ 65536) : (V.num n).fits ar form m b = (true, m + 1, b) := by
  have hf := num_formed n
  have w1 : IntKind.i64.wrap (m + 1) = m + 1 := wrap_small (by omega) (by omega)
  have w2 : IntKind.i64.wrap (b + ((ByteArray.size ⟨#[]⟩ : Nat) : Int)) = b := by
    show IntKind.i64.wrap (b + 0) = b
    rw [Int.add_zero]; exact wrap_small (by omega) (by omega)
  unfold V.num at hf ⊢
  rw [V.fits, w1, w2, hf]
  have e1 : ¬ (m + 1 > 4096) := by omega
  have e2 : ¬ (b > 65536) := by omega
  simp [keySum, e1, e2]
theorem nums_fits (ns : List Int) (ar : Int) (form : Bool) : ∀ (m b : Int), 0 ≤ m → m + ns.length ≤ 4096 → 0 ≤ b → b ≤ 65536 → fitsL (ns.map V.num) ar form m b = (true, m + ns.length, b) := by
  induction ns with
  | nil => intro m b _ _ _ _; simp [fitsL]
  | cons a r ih =>
    intro m b h0 h hb hb'
    rw [List.length_cons] at h ⊢
    rw [List.map_cons, fitsL, num_fits a ar form m b h0 (by omega) hb hb', if_pos rfl, ih (m + 1) b (by omega) (by omega) hb hb']
    congr 2
    omega
theorem arr_fits (l : List V) (ar : Int) (form : Bool) (m b : Int) (h0 : 0 ≤ m) (h : m + 1 ≤ 4096) (hb : 0 ≤ b) (hb' : b ≤ 65536) (ha : 0 ≤ ar) (ha' : ar < 32) (hl : l.length ≤ 1024) : (V.arr l).fits ar form m b = fitsL l (ar + 1) form (m + 1) b := by
  have hf := arr_formed l
  have w1 : IntKind.i64.wrap (m + 1) = m + 1 := wrap_small (by omega) (by omega)
  have w3 : IntKind.i64.wrap (ar + 1) = ar + 1 := wrap_small (by omega) (by omega)
  have w2 : IntKind.i64.wrap (b + ((ByteArray.size ⟨#[]⟩ : Nat) : Int)) = b := by
    show IntKind.i64.wrap (b + 0) = b
    rw [Int.add_zero]; exact wrap_small (by omega) (by omega)
  unfold V.arr at hf ⊢
  rw [V.fits, w1, w2, w3, hf]
  have e1 : ¬ (m + 1 > 4096) := by omega
  have e2 : ¬ (b > 65536) := by omega
  have e3 : ¬ (ar ≥ 32) := by omega
  have e4 : ¬ ((l.length : Int) > 1024) := by omega
  simp [keySum, e1, e2, e3, e4]
theorem nums_valid (ns : List Int) (h : ns.length ≤ 1024) : (V.arr (ns.map V.num)).valid = true := by
  unfold V.valid
  rw [arr_fits _ 0 true 0 0 (by omega) (by omega) (by omega) (by omega) (by omega) (by omega) (by simpa using h), nums_fits ns _ _ _ _ (by omega) (by omega) (by omega) (by omega)]
theorem nums_fit (ns : List Int) (h : ns.length ≤ 1024) : (V.arr (ns.map V.num)).fit = (V.arr (ns.map V.num), 0) := by
  unfold V.fit
  rw [arr_fits _ 0 false 0 0 (by omega) (by omega) (by omega) (by omega) (by omega) (by omega) (by simpa using h), nums_fits ns _ _ _ _ (by omega) (by omega) (by omega) (by omega)]
  rfl
theorem num_cmp (a b : Int) : (V.num a).cmp (V.num b) = iord a b := by
  simp [V.num, V.cmp]
theorem insR_congr {c c' : Int → Int → Int} {x : Int} : ∀ {r : List Int}, (∀ y ∈ r, c x y = c' x y) → insR c r x = insR c' r x
  | [], _ => rfl
  | y :: r, h => by
    unfold insR
    rw [h y (by simp), insR_congr (fun z hz => h z (by simp [hz]))]
theorem isort_congr {c c' : Int → Int → Int} {l : List Int} (h : ∀ x ∈ l, ∀ y ∈ l, c x y = c' x y) : isort c l = isort c' l := by
  unfold isort
  suffices hh : ∀ (m s : List Int), (∀ x ∈ m, x ∈ l) → (∀ x ∈ s, x ∈ l) → m.foldl (ins c) s = m.foldl (ins c') s from hh l [] (fun _ h => h) (by simp)
  intro m
  induction m with
  | nil => intro s _ _; rfl
  | cons x r ih =>
    intro s h1 h2
    simp only [List.foldl_cons]
    have : ins c s x = ins c' s x := by
      unfold ins
      rw [insR_congr]
      intro y hy
      exact h x (h1 x (by simp)) y (h2 y (by simpa using hy))
    rw [this]
    refine ih _ (fun z hz => h1 z (by simp [hz])) (fun z hz => ?_)
    rcases (ins_mem c' s x z).1 hz with e | hz
    · exact e ▸ h1 x (by simp)
    · exact h2 z hz
theorem grp_congr {c c' : Int → Int → Int} : ∀ {l : List Int}, (∀ x ∈ l, ∀ y ∈ l, c x y = c' x y) → grp c l = grp c' l := by
  intro l h
  cases l with
  | nil => rfl
  | cons k r =>
    unfold grp
    suffices hh : ∀ (m : List Int) (done : List (List Int)) (cur : List Int) (p : Int), (∀ x ∈ m, x ∈ k :: r) → p ∈ k :: r → grpGo c done cur p m = grpGo c' done cur p m from hh r [] [k] k (fun x hx => by simp [hx]) (by simp)
    intro m
    induction m with
    | nil => intro done cur p _ _; rfl
    | cons x q ih =>
      intro done cur p h1 h2
      unfold grpGo
      rw [h p h2 x (h1 x (by simp))]
      rw [ih _ _ _ (fun z hz => h1 z (by simp [hz])) (h1 x (by simp)), ih _ _ _ (fun z hz => h1 z (by simp [hz])) (h1 x (by simp))]
/-- The order by keys, then by place. -/
def Lex (key : Int → Int) (x y : Int) : Prop := key x < key y ∨ key x = key y ∧ x < y
theorem iord_neg {a b : Int} : iord a b < 0 ↔ a < b := by
  unfold iord
  split
  · simp [*]
  · split <;> simp <;> omega
theorem insR_lex {key : Int → Int} {x : Int} : ∀ {r : List Int}, r.Pairwise (fun a b => Lex key b a) → (∀ y ∈ r, y < x) → (insR (fun a b => iord (key a) (key b)) r x).Pairwise (fun a b => Lex key b a)
  | [], _, _ => by simp [insR]
  | y :: r, h, hx => by
    rw [List.pairwise_cons] at h
    unfold insR
    split
    · rename_i hc
      rw [iord_neg] at hc
      rw [List.pairwise_cons]
      refine ⟨fun z hz => ?_, insR_lex h.2 (fun z hz => hx z (by simp [hz]))⟩
      rcases (insR_mem _ r x z).1 hz with e | hz
      · exact e ▸ .inl hc
      · exact h.1 z hz
    · rename_i hc
      rw [iord_neg] at hc
      rw [List.pairwise_cons, List.pairwise_cons]
      have hyx : Lex key y x := by
        have := hx y (by simp)
        unfold Lex
        omega
      refine ⟨fun z hz => ?_, h.1, h.2⟩
      rcases List.mem_cons.1 hz with e | hz
      · exact e ▸ hyx
      · have h1 := h.1 z hz
        unfold Lex at h1 hyx ⊢
        omega
theorem isort_lex {key : Int → Int} {l : List Int} (h : l.Pairwise (· < ·)) : (isort (fun a b => iord (key a) (key b)) l).Pairwise (Lex key) := by
  unfold isort
  suffices hh : ∀ (m s : List Int), m.Pairwise (· < ·) → (∀ x ∈ m, ∀ y ∈ s, y < x) → s.Pairwise (Lex key) → (m.foldl (ins (fun a b => iord (key a) (key b))) s).Pairwise (Lex key) from hh l [] h (by simp) (by simp)
  intro m
  induction m with
  | nil => intro s _ _ hs; exact hs
  | cons x r ih =>
    intro s h1 h2 hs
    rw [List.pairwise_cons] at h1
    simp only [List.foldl_cons]
    refine ih _ h1.2 (fun z hz y hy => ?_) ?_
    · rcases (ins_mem _ s x y).1 hy with e | hy
      · exact e ▸ h1.1 z hz
      · exact h2 z (by simp [hz]) y hy
    · unfold ins
      rw [List.pairwise_reverse]
      exact insR_lex (by rw [List.pairwise_reverse]; exact hs) (fun y hy => h2 x (by simp) y (by simpa using hy))
end Go.Proofs.Ytnkknmdpakebhaa
