/- Plain laws: what is valid; comparisons; sorting. -/
import Derived.Test.YtnkknmdpakebhaaPmIh
set_option linter.unusedSimpArgs false
set_option linter.unusedVariables false
set_option maxHeartbeats 4000000
namespace Go.Proofs.Ytnkknmdpakebhaa
open Go Go.Pm
attribute [local irreducible] WC WOps WOpsG
attribute [local go_sem] WOps WOp callOf gtmp gval gvalT evOp evBuiltin binT St.ev constT St.m envOf Go.Pm.look St.upd St.putO St.put St.set allT allP T.toD unD1 T.cells T.asSlice D.cells D.sz eqTy binD unD cvD cv2 fillD ldT ldD TyI.agg allD splice isSome' cut bnd resT resOf Done Option.all_some Option.all_none Option.getD_some Option.getD_none Option.bind_some Option.bind_none Option.map_some Option.map_none List.map List.map_cons List.map_nil List.cons_append List.nil_append List.append_nil List.take_succ_cons List.drop_succ_cons List.take_zero List.drop_zero List.take_nil List.drop_nil List.head?_cons List.length_cons List.length_nil List.getElem?_cons_zero List.getElem?_cons_succ List.getElem?_toArray List.all_cons List.all_nil ite_true ite_false if_true if_false Bool.not_false Bool.not_true decide_true decide_false and_true true_and and_self false_and and_false Bool.and_true Bool.true_and Bool.or_true Bool.true_or List.size_toArray seqFrom beq_self_eq_true BEq.rfl eq_self Nat.succ_ne_self false_or or_false Nat.zero_add Nat.add_zero Nat.not_lt_zero Nat.one_ne_zero tab2 tab3 tab4 tab5 tab9 tab22 tab24 tab25 tab27 tab30 tab54 tab57 tab78 tab85
def keyB : List ByteArray → Nat
  | [] => 0
  | k :: r => k.size + keyB r
mutual
def V.nodes : V → Nat
  | .mk _ _ _ _ es => 1 + nodesL es
def nodesL : List V → Nat
  | [] => 0
  | v :: l => v.nodes + nodesL l
end
mutual
def V.bytes : V → Nat
  | .mk _ _ s ks es => s.size + keyB ks + bytesL es
def bytesL : List V → Nat
  | [] => 0
  | v :: l => v.bytes + bytesL l
end
mutual
def V.depth : V → Nat
  | .mk k _ _ _ es => if k < 5 then 0 else 1 + depthL es
def depthL : List V → Nat
  | [] => 0
  | v :: l => max v.depth (depthL l)
end
mutual
def V.good : V → Prop
  | .mk k i s ks es => 0 ≤ k ∧ k ≤ 6 ∧ (k = 4 → s.size ≤ 4096) ∧ (V.mk k i s ks es).formed = true ∧ es.length ≤ 1024 ∧ goodL es
def goodL : List V → Prop
  | [] => True
  | v :: l => v.good ∧ goodL l
end
theorem keysOK_size : ∀ {ks : List ByteArray} {p : Option ByteArray}, keysOK p ks = true → ∀ k ∈ ks, k.size ≤ 4096
  | [], _, _, k, hk => by simp at hk
  | a :: r, p, h, k, hk => by
    rw [keysOK, Bool.and_eq_true] at h
    rcases List.mem_cons.1 hk with e | hk
    · subst e
      have h1 := h.1
      simp only [keyBad, Bool.not_eq_true', Bool.or_eq_false_iff] at h1
      have := h1.1.1
      simp at this
      omega
    · exact keysOK_size h.2 k hk
theorem formed_facts {k i : Int} {s : ByteArray} {ks : List ByteArray} {es : List V} (h : (V.mk k i s ks es).formed = true) :
    (k ≠ 4 → s.size = 0) ∧ ks.length ≤ 1024 ∧ (∀ x ∈ ks, x.size ≤ 4096) ∧ (k < 5 → es = []) := by
  rw [V.formed] at h
  simp only [Bool.and_eq_true, Bool.not_eq_true', headBad, Bool.or_eq_true, Bool.or_eq_false_iff, Bool.and_eq_false_iff] at h
  obtain ⟨hh, hk⟩ := h
  refine ⟨fun h4 => ?_, ?_, ?_, fun h5 => ?_⟩
  · have := hh.1.1.1.2
    simp [h4] at this
    have e : s = ⟨#[]⟩ := bytes_inj (this.trans nil_toList.symm)
    subst e
    rfl
  · by_cases h6 : k = 6
    · have := (hk.resolve_left (by simp [h6])).1.2
      simp at this
      omega
    · have := hh.1.1.2
      simp [h6] at this
      simp [this]
  · by_cases h6 : k = 6
    · exact keysOK_size (hk.resolve_left (by simp [h6])).2
    · have := hh.1.1.2
      simp [h6] at this
      simp [this]
  · have := hh.1.2
    simp [h5] at this
    cases es with
    | nil => rfl
    | cons a r => simp at this
theorem keySum_eq : ∀ (ks : List ByteArray) (b : Int), (∀ x ∈ ks, x.size ≤ 4096) → 0 ≤ b → b + 4096 * ks.length ≤ 10000000 → keySum b ks = b + keyB ks
  | [], b, _, _, _ => by simp [keySum, keyB]
  | k :: r, b, h, h0, hb => by
    have hk := h k (by simp)
    rw [List.length_cons] at hb
    have hw : IntKind.i64.wrap (b + (k.size : Int)) = b + k.size := by rw [IntKind.wrap_i64]; omega
    have ih := keySum_eq r (b + k.size) (fun x hx => h x (by simp [hx])) (by omega) (by omega)
    show keySum (IntKind.i64.wrap (b + (k.size : Int))) r = _
    rw [hw, ih, keyB]
    omega
mutual
theorem good_fits : ∀ (v : V) (ar n b : Int) (form : Bool), v.good → 0 ≤ ar → ar + v.depth ≤ 32 → 0 ≤ n → n + v.nodes ≤ 4096 → 0 ≤ b → b + v.bytes ≤ 65536 → v.fits ar form n b = (true, n + v.nodes, b + v.bytes)
  | .mk k i s ks es, ar, n, b, form, hg, h1, h2, h3, h4, h5, h6 => by
    rw [V.good] at hg
    obtain ⟨g1, g2, g3, g4, g5, g6⟩ := hg
    obtain ⟨f1, f2, f3, f4⟩ := formed_facts g4
    rw [V.nodes] at h4 ⊢
    rw [V.bytes] at h6 ⊢
    rw [V.depth] at h2
    have hs : s.size ≤ 4096 := by
      by_cases h : k = 4
      · exact g3 h
      · have := f1 h; omega
    have w1 : IntKind.i64.wrap (n + 1) = n + 1 := wrap_small (by omega) (by omega)
    have w2 : IntKind.i64.wrap (b + (s.size : Int)) = b + s.size := wrap_small (by omega) (by omega)
    have w3 : keySum (b + s.size) ks = b + s.size + keyB ks := keySum_eq ks _ f3 (by omega) (by omega)
    rw [V.fits, w1, w2, w3, g4]
    have e1 : ¬ (n + 1 > 4096) := by omega
    have e2 : ¬ k < 0 := by omega
    have e3 : ¬ k > 6 := by omega
    have e4 : ¬ (b + (s.size : Int) + (keyB ks : Int) > 65536) := by omega
    have e5 : ((k == 4) && decide ((s.size : Int) > 4096)) = false := by
      have : decide ((s.size : Int) > 4096) = false := by simp; omega
      rw [this, Bool.and_false]
    rw [if_neg (by simp [e1, e2, e3]), if_neg (by simp [e5]), if_neg e4]
    by_cases h5' : k < 5
    · rw [if_pos h5', f4 h5']
      simp only [nodesL, bytesL]
      congr 2
      omega
    · rw [if_neg h5'] at h2 ⊢
      have e6 : ¬ ar ≥ 32 := by omega
      have e7 : ¬ ((es.length : Int) > 1024) := by omega
      rw [if_neg (by simp [e6, e7])]
      have w4 : IntKind.i64.wrap (ar + 1) = ar + 1 := wrap_small (by omega) (by omega)
      rw [w4, good_fitsL es (ar + 1) (n + 1) (b + s.size + keyB ks) form g6 (by omega) (by omega) (by omega) (by omega) (by omega) (by omega)]
      congr 2 <;> omega
theorem good_fitsL : ∀ (l : List V) (ar n b : Int) (form : Bool), goodL l → 0 ≤ ar → ar + depthL l ≤ 32 → 0 ≤ n → n + nodesL l ≤ 4096 → 0 ≤ b → b + bytesL l ≤ 65536 → fitsL l ar form n b = (true, n + nodesL l, b + bytesL l)
  | [], ar, n, b, form, _, _, _, _, _, _, _ => by simp [fitsL, nodesL, bytesL]
  | v :: l, ar, n, b, form, hg, h1, h2, h3, h4, h5, h6 => by
    rw [goodL] at hg
    rw [nodesL] at h4 ⊢
    rw [bytesL] at h6 ⊢
    rw [depthL] at h2
    rw [fitsL, good_fits v ar n b form hg.1 h1 (by omega) h3 (by omega) h5 (by omega), if_pos rfl]
    show fitsL l ar form (n + v.nodes) (b + v.bytes) = _
    rw [good_fitsL l ar (n + v.nodes) (b + v.bytes) form hg.2 h1 (by omega) (by omega) (by omega) (by omega) (by omega)]
    congr 2 <;> omega
end
mutual
theorem fits_good : ∀ (v : V) (ar n b : Int), (v.fits ar true n b).1 = true → 0 ≤ ar → ar ≤ 32 → 0 ≤ n → n ≤ 4096 → 0 ≤ b → b ≤ 65536 → v.good ∧ ar + v.depth ≤ 32 ∧ n + v.nodes ≤ 4096 ∧ b + v.bytes ≤ 65536
  | .mk k i s ks es, ar, n, b, h, h1, h1', h2, h2', h3, h3' => by
    rw [V.fits] at h
    have w1 : IntKind.i64.wrap (n + 1) = n + 1 := wrap_small (by omega) (by omega)
    rw [w1] at h
    split at h
    · cases h
    rename_i a1
    simp only [Bool.or_eq_true, decide_eq_true_eq, not_or] at a1
    split at h
    · cases h
    rename_i a2
    simp only [Bool.or_eq_true, Bool.and_eq_true, not_or, Bool.true_and, Bool.not_eq_true', decide_eq_true_eq, not_and, beq_iff_eq, Bool.not_eq_false] at a2
    obtain ⟨a2, a3⟩ := a2
    obtain ⟨f1, f2, f3, f4⟩ := formed_facts a3
    have hs : s.size ≤ 4096 := by
      by_cases hk : k = 4
      · have := a2 hk; omega
      · have := f1 hk; omega
    have w2 : IntKind.i64.wrap (b + (s.size : Int)) = b + s.size := wrap_small (by omega) (by omega)
    have w3 : keySum (b + s.size) ks = b + s.size + keyB ks := keySum_eq ks _ f3 (by omega) (by omega)
    rw [w2, w3] at h
    split at h
    · cases h
    rename_i a4
    rw [V.good, V.depth, V.nodes, V.bytes]
    split at h
    · rename_i a5
      have := f4 a5
      subst this
      rw [if_pos a5]
      simp only [nodesL, bytesL, goodL]
      exact ⟨⟨by omega, by omega, fun _ => hs, a3, by simp, trivial⟩, by omega, by omega, by omega⟩
    · rename_i a5
      split at h
      · cases h
      rename_i a6
      simp only [Bool.or_eq_true, decide_eq_true_eq, not_or] at a6
      have w4 : IntKind.i64.wrap (ar + 1) = ar + 1 := wrap_small (by omega) (by omega)
      rw [w4] at h
      obtain ⟨q1, q2, q3, q4⟩ := fitsL_good es (ar + 1) (n + 1) (b + s.size + keyB ks) h (by omega) (by omega) (by omega) (by omega) (by omega) (by omega)
      rw [if_neg a5]
      exact ⟨⟨by omega, by omega, fun _ => hs, a3, by omega, q1⟩, by omega, by omega, by omega⟩
theorem fitsL_good : ∀ (l : List V) (ar n b : Int), (fitsL l ar true n b).1 = true → 0 ≤ ar → ar ≤ 32 → 0 ≤ n → n ≤ 4096 → 0 ≤ b → b ≤ 65536 → goodL l ∧ ar + depthL l ≤ 32 ∧ n + nodesL l ≤ 4096 ∧ b + bytesL l ≤ 65536
  | [], ar, n, b, h, h1, h1', h2, h2', h3, h3' => by
    rw [goodL, depthL, nodesL, bytesL]
    exact ⟨trivial, by omega, by omega, by omega⟩
  | v :: l, ar, n, b, h, h1, h1', h2, h2', h3, h3' => by
    rw [fitsL] at h
    split at h
    · rename_i hv
      obtain ⟨q1, q2, q3, q4⟩ := fits_good v ar n b hv h1 h1' h2 h2' h3 h3'
      rw [good_fits v ar n b true q1 h1 q2 h2 q3 h3 q4] at h
      obtain ⟨p1, p2, p3, p4⟩ := fitsL_good l ar (n + v.nodes) (b + v.bytes) h h1 h1' (by omega) (by omega) (by omega) (by omega)
      rw [goodL, depthL, nodesL, bytesL]
      exact ⟨⟨q1, p1⟩, by omega, by omega, by omega⟩
    · cases h
end
theorem valid_good {v : V} (h : v.valid = true) : v.good ∧ v.depth ≤ 32 ∧ v.nodes ≤ 4096 ∧ v.bytes ≤ 65536 := by
  have := fits_good v 0 0 0 h (by omega) (by omega) (by omega) (by omega) (by omega) (by omega)
  exact ⟨this.1, by omega, by omega, by omega⟩
theorem good_valid {v : V} (h : v.good) (h1 : v.depth ≤ 32) (h2 : v.nodes ≤ 4096) (h3 : v.bytes ≤ 65536) : v.valid = true := by
  unfold V.valid
  rw [good_fits v 0 0 0 true h (by omega) (by omega) (by omega) (by omega) (by omega) (by omega)]
theorem good_fit {v : V} (h : v.good) (h1 : v.depth ≤ 32) (h2 : v.nodes ≤ 4096) (h3 : v.bytes ≤ 65536) : v.fit = (v, 0) := by
  unfold V.fit
  rw [good_fits v 0 0 0 false h (by omega) (by omega) (by omega) (by omega) (by omega) (by omega)]
  rfl
theorem goodL_iff : ∀ {l : List V}, goodL l ↔ ∀ v ∈ l, v.good
  | [] => by simp [goodL]
  | v :: l => by simp [goodL, goodL_iff (l := l)]
theorem arr_good {l : List V} : (V.arr l).good ↔ l.length ≤ 1024 ∧ goodL l := by
  have hf := arr_formed l
  unfold V.arr at hf ⊢
  rw [V.good]
  constructor
  · intro h; exact ⟨h.2.2.2.2.1, h.2.2.2.2.2⟩
  · intro h; exact ⟨by omega, by omega, by omega, hf, h.1, h.2⟩
theorem arr_nodes (l : List V) : (V.arr l).nodes = 1 + nodesL l := by unfold V.arr; rw [V.nodes]
theorem arr_bytes (l : List V) : (V.arr l).bytes = bytesL l := by
  unfold V.arr; rw [V.bytes]
  show 0 + 0 + bytesL l = _
  omega
theorem arr_depth (l : List V) : (V.arr l).depth = 1 + depthL l := by unfold V.arr; rw [V.depth, if_neg (by omega)]
end Go.Proofs.Ytnkknmdpakebhaa
