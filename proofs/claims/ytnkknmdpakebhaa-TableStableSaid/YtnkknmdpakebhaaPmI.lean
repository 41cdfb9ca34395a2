/- The abstract machine 'Pm', part I: literals, append, lengths, cuts, strings, function values. -/
import Derived.Test.YtnkknmdpakebhaaPmH
import Derived.Great.BuildSlice
set_option linter.unusedSimpArgs false
set_option linter.unusedVariables false
namespace Go.Pm
open Go.RowKit
section
variable {P : Program} {c : Ctx} {m : Mem} {μ : Mu} {L : Loc} {ow : Nat → Option Nat} {w : World}

/-- Values one by one. -/
inductive RepV (μ : Mu) : List D → List Value → Prop
  | nil : RepV μ [] []
  | cons {x : D} {xs : List D} {v : Value} {l : List Value} (h : RepD μ x v) (t : RepV μ xs l) : RepV μ (x :: xs) (v :: l)
theorem RepV.length {xs : List D} {l : List Value} (h : RepV μ xs l) : l.length = xs.length := by
  induction h with
  | nil => rfl
  | cons _ _ ih => simp [ih]
theorem RepV.flat {xs : List D} {l : List Value} (h : RepV μ xs l) : RepF μ xs (l.flatMap fun v => v.cells.toList) := by
  induction h with
  | nil => exact .nil
  | cons h t ih => exact .cons h.cells ih
theorem RepV.sz {s : Nat} {xs : List D} {l : List Value} (h : RepV μ xs l) (hs : ∀ y ∈ xs, y.sz = s) : ∀ v ∈ l, v.cells.size = s := by
  induction h with
  | nil => simp
  | cons h t ih =>
    intro v hv
    rcases List.mem_cons.1 hv with rfl | hv
    · rw [h.sz]; exact hs _ List.mem_cons_self
    · exact ih (fun y hy => hs y (List.mem_cons_of_mem _ hy)) v hv
theorem RepV.get {xs : List D} {l : List Value} (h : RepV μ xs l) : ∀ (i : Nat) (x : D), xs[i]? = some x → ∃ v, l[i]? = some v ∧ RepD μ x v := by
  induction h with
  | nil => simp
  | cons h t ih =>
    intro i x hx
    cases i with
    | zero => simp at hx; subst hx; exact ⟨_, rfl, h⟩
    | succ i => simpa using ih i x (by simpa using hx)
theorem RepV.mono {μ' : Mu} (hm : Mu.le μ μ') {xs : List D} {l : List Value} (h : RepV μ xs l) : RepV μ' xs l := by
  induction h with
  | nil => exact .nil
  | cons h t ih => exact .cons (h.mono hm) ih

/-- A slice literal. -/
theorem run_lit (w : World) {t e : TypeId} {i ie : TyI} (ht : TyOK P t i) (hk : i.k = .slice e) (he : TyOK P e ie) (hz : 0 < ie.size) {xs : List D} {vs : List Value} (hv : RepV μ xs vs) (hs : ∀ y ∈ xs, y.sz = ie.size)
    (hle : xs.length * ie.size ≤ 16777216) : (Instr.buildSlice t xs.length ((vs.zipIdx 0).map fun p => (p.2, p.1)).toArray).run P w =
      .ok (.slice (some ⟨w.heap.size, 0, none⟩) xs.length xs.length) (w.alloc (.cells (vs.flatMap fun v => v.cells.toList).toArray e)) := by
  have hu := ht.kind
  rw [hk] at hu
  simp only [] at hu
  obtain ⟨z, hzv, hzr⟩ := he.zero
  have hvl := hv.length
  have hfl := hv.flat
  have hsz := hv.sz hs
  -- the literal's cells, whatever stood there
  have hfill : ∀ z0 : Array Value, z0.size = xs.length * ie.size → Instr.fill (fun i => some (i * ie.size, ie.size)) z0 ((vs.zipIdx 0).map fun p => (p.2, p.1)) = some (vs.flatMap fun v => v.cells.toList).toArray := by
    intro z0 h0
    obtain ⟨cs', h1, h2⟩ := fill_seq ie.size vs 0 z0 hsz (by rw [Nat.zero_add, hvl, h0]; exact Nat.le_refl _)
    rw [h1]
    congr 1
    apply Array.ext'
    rw [h2, Nat.zero_add, hvl]
    simp [h0]
  obtain ⟨f, z', hf, hfs, hfb, hfz, _, _⟩ := he.info
  have hno : ¬ xs.length * f.size > 2 ^ 24 := by rw [hfs]; omega
  by_cases h0 : xs.length = 0
  · have hx : xs = [] := List.eq_nil_of_length_eq_zero h0
    subst hx
    cases hv
    simp [Instr.buildSlice, run_underlying hu, sizeOf, typeInfo, hf, newRow, Instr.fill]
    rw [Array.eq_empty_of_size_eq_zero (xs := Array.map (fun x : Nat => (default : Value)) (Array.range 0)) (by simp)]
  · have hpos : ¬ xs.length * f.size = 0 := by
      rw [hfs]
      exact Nat.mul_ne_zero h0 (by omega)
    refine run_buildSlice w t e xs.length _ _ f z' hu hf hfz hno hpos ?_
    rw [hfs]
    exact hfill _ (by simp)
theorem does_buildSlice (h : Inv c m μ L ow w) {t e : TypeId} {i ie : TyI} (ht : TyOK P t i) (hk : i.k = .slice e) (he : TyOK P e ie) (hz : 0 < ie.size) {xs : List D} {vs : List Value} (hv : RepV μ xs vs) (hs : ∀ y ∈ xs, y.sz = ie.size)
    (hle : xs.length * ie.size ≤ 16777216) {d : Nat} (hd : m d = none) :
    Does P c m μ L w (Instr.buildSlice t xs.length ((vs.zipIdx 0).map fun p => (p.2, p.1)).toArray) (.own d xs) (setM m d (.tok e ie.size xs.length)) := by
  have hu := ht.kind
  rw [hk] at hu
  simp only [] at hu
  obtain ⟨z, hzv, hzr⟩ := he.zero
  have hvl := hv.length
  have hfl := hv.flat
  have hsz := hv.sz hs
  have hlen : (vs.flatMap fun v => v.cells.toList).length = xs.length * ie.size := hfl.length hs
  have hmax : xs.length ≤ maxLen := by
    have : xs.length ≤ xs.length * ie.size := Nat.le_mul_of_pos_right _ hz
    simp only [maxLen]; omega
  have hrun := run_lit w ht hk he hz hv hs hle
  obtain ⟨hi, hst, hle'⟩ := h.tokNew (e := e) hd hz (vs.flatMap fun v => v.cells.toList).toArray (n := xs.length) (cap := xs.length) (Nat.le_refl _) hmax (by simp only [List.size_toArray]; exact hlen)
  have htk : ((vs.flatMap fun v => v.cells.toList).toArray.toList.take (xs.length * ie.size)) = vs.flatMap fun v => v.cells.toList := by
    simp only []
    rw [← hlen]
    exact List.take_length
  rw [htk] at hi hle'
  refine ⟨_, _, _, _, _, hrun, hi, hle', hst, ?_⟩
  have hrow : RepRow (μ.row w.heap.size (vs.flatMap fun v => v.cells.toList)) xs w.heap.size 0 := hfl.row hle' fun j u hu' => by
    have hj := (List.getElem?_eq_some_iff.1 hu').1
    unfold Mu.row
    rw [if_pos (by simpa using hj)]
    simpa using hu'
  exact .own (RepD.slice_mk hrow hs (Nat.le_refl _) hmax) (show setM m d (.tok e ie.size xs.length) d = some (.tok e ie.size xs.length) by simp [setM]) (Nat.le_refl _) (fun _ => by simp [Loc.setHdr]) hs

/-! ### append -/
/-- What is appended: a slice's cells. -/
theorem src_cells {xs : List D} {v : Value} (h : Inv c m μ L ow w) (hv : RepD μ (.slice xs) v) {sz : Nat} (hs : ∀ y ∈ xs, y.sz = sz) (hne : xs ≠ []) :
    ∃ a k news, v = .slice (some a) xs.length k ∧ RepF μ xs news ∧ news.length = xs.length * sz ∧ (∀ (j : Nat) (u : Value), news[j]? = some u → w.cell? (a.add j) = some u) ∧ ∀ u ∈ news, u.oneCell' = true := by
  obtain ⟨A, cap, rfl, hle, hc, hr⟩ := hv.slice_inv
  rcases hr with hr | ⟨b, o, s', rfl, hrow, _⟩
  · exact absurd hr hne
  · obtain ⟨news, hf, hg⟩ := hrow.flat
    exact ⟨⟨b, o, none⟩, cap, news, rfl, hf, hf.length hs, fun j u hu => by rw [add_at]; exact h.mu _ _ (hg j u hu), hf.one⟩
theorem own_slice {id : Nat} {xs : List D} {v : Value} (h : RepT μ L m (.own id xs) v) : RepD μ (.slice xs) v := by cases h; assumption

/-- append to a token's row: at least one element. -/
theorem does_append (h : Inv c m μ L ow w) {t ty e : TypeId} {i ie : TyI} (ht : TyOK P t i) (hk : i.k = .slice e) (he : TyOK P e ie) (hz : 0 < ie.size) {id n : Nat} {xs ys : List D} {v vy : Value}
    (hid : m id = some (.tok e ie.size n)) (hv : RepT μ L m (.own id xs) v) (hn : xs.length = n) (hy : RepD μ (.slice ys) vy) (hs : ∀ y ∈ ys, y.sz = ie.size) (hne : ys ≠ [])
    (hb : (xs.length + ys.length) * ie.bytes ≤ 140737488355328) (hmax : xs.length + ys.length ≤ maxLen) :
    Does P c m μ L w (Builtin.append_ #[t, t] ty #[v, vy]) (.own id (xs ++ ys)) (setM m id (.tok e ie.size (n + ys.length))) := by
  have hu := ht.kind
  rw [hk] at hu
  simp only [] at hu
  obtain ⟨f, z, hf, hfs, hfb, hfz, hzsz, hzr⟩ := he.info
  have hzs : z.cells.size = f.size := by rw [(hzr μ).sz, hzsz, hfs]
  obtain ⟨_, ⟨cells, hr⟩, _⟩ := h.tok id e ie.size n hid
  obtain ⟨a, k, news, rfl, hyf, hnl, hnc, hn1⟩ := src_cells h hy hs hne
  have hym : 0 < ys.length := List.length_pos_iff.2 hne
  subst hn
  -- what the temporary holds is the row as it stands
  have hxs : RepD μ (.slice xs) v ∧ v = L.hdr id ∧ ∀ y ∈ xs, y.sz = ie.size := by
    cases hv with
    | own h1 h2 h3 h4 h5 =>
      rw [hid] at h2
      injection h2 with h2
      injection h2 with q1 q2 q3
      subst q1 q2 q3
      exact ⟨h1, h4 rfl, h5⟩
  obtain ⟨hxr, rfl, hxz⟩ := hxs
  rw [← hfs] at hr hnl
  obtain ⟨v1, w1, hrun, hr1, hat⟩ := run_append_two (P := P) w t ty e f z hu hf hfz hzs (by omega) (L.hdr id) xs.length cells hr a ys.length k news hnl hym hnc hn1 hmax (by rw [hfb]; exact hb)
  rw [hfs] at hr hnl hr1
  obtain ⟨b, cap, rfl, hle, hcap, hi, hst, hmle⟩ := h.append hid hym hr hr1 hat
  refine ⟨_, w1, _, _, _, hrun, hi, hmle, hst, ?_⟩
  have hclen : cells.length = xs.length * ie.size := hr.1
  have hmu : ∀ (j : Nat) (u : Value), (cells ++ news)[j]? = some u → μ.row b (cells ++ news) ⟨b, j, none⟩ = some u := fun j u hu' => by
    have hj := (List.getElem?_eq_some_iff.1 hu').1
    unfold Mu.row
    rw [if_pos ⟨rfl, rfl, hj⟩]
    exact hu'
  -- the elder elements
  have hrow1 : RepRow (μ.row b (cells ++ news)) xs b 0 := by
    obtain ⟨A, cap0, hA, _, _, hr'⟩ := hxr.slice_inv
    rcases hr' with rfl | ⟨b0, o0, s0, rfl, hrow, _⟩
    · exact .nil _ _
    · refine hrow.move hmle fun j u hu' => ?_
      rw [Nat.zero_add]
      apply hmu
      -- the cell lies in the row
      have hc := h.mu _ _ hu'
      rcases hr.2 with ⟨hn0, hx0⟩ | ⟨g, cap1, cur, hg, _, hgb, _, _, _, htk⟩
      · rw [hn0] at hA; cases hA
      · rw [hA] at hg
        injection hg with hg
        injection hg with hg
        injection hg with q1 q2
        subst q1 q2
        obtain ⟨_, _, hown⟩ := h.tok id e ie.size xs.length hid
        obtain ⟨e', sz', n', hm', hoff⟩ := h.muOwn _ _ hu' id (hown _ (by rw [hA]; rfl)).1
        rw [hid] at hm'
        injection hm' with hm'
        injection hm' with q1 q2 q3
        subst q1 q2 q3
        simp only [Nat.zero_add] at hoff hc
        rw [cell_of_row w _ j cur e (0, 0) hgb] at hc
        rw [List.getElem?_append_left (by omega), ← htk, List.getElem?_take, if_pos hoff]
        simpa using hc
  have hrow2 : RepRow (μ.row b (cells ++ news)) ys b (0 + xs.length * ie.size) := hyf.row hmle fun j u hu' => by
    apply hmu
    rw [List.getElem?_append_right (by omega), Nat.zero_add, hclen, Nat.add_sub_cancel_left]
    exact hu'
  have hall : ∀ y ∈ xs ++ ys, y.sz = ie.size := fun y hy' => by
    rcases List.mem_append.1 hy' with h1 | h1
    · exact hxz y h1
    · exact hs y h1
  have hl2 : (xs ++ ys).length = xs.length + ys.length := List.length_append
  have hrep := RepD.slice_mk (hrow1.append hxz hrow2) hall (cap := cap) (by rw [hl2]; exact hle) hcap
  rw [hl2] at hrep
  exact .own hrep (show setM m id (.tok e ie.size (xs.length + ys.length)) id = some (.tok e ie.size (xs.length + ys.length)) by simp [setM]) (by rw [hl2]; exact Nat.le_refl _) (fun _ => by simp [Loc.setHdr]) hall
/-- append of no element. -/
theorem does_append_none (h : Inv c m μ L ow w) {t ty e : TypeId} {i ie : TyI} (ht : TyOK P t i) (hk : i.k = .slice e) (he : TyOK P e ie) {id : Nat} {xs : List D} {v vy : Value}
    (hv : RepT μ L m (.own id xs) v) (hy : RepD μ (.slice []) vy) : Does P c m μ L w (Builtin.append_ #[t, t] ty #[v, vy]) (.own id xs) m := by
  have hu := ht.kind
  rw [hk] at hu
  simp only [] at hu
  obtain ⟨f, z, hf, hfs, hfb, hfz, hzsz, hzr⟩ := he.info
  have hxr := own_slice hv
  obtain ⟨A, cap, rfl, hle, _, _⟩ := hxr.slice_inv
  obtain ⟨B, cap', rfl, _, _, _⟩ := hy.slice_inv
  refine .pure h ?_ hv
  cases A <;> cases B <;> simp [Builtin.append_, run_underlying hu, sizeOf, typeInfo, hf, Builtin.lenOf, hle, Builtin.firstCells, loadCells, loadCellsFrom, storeCells]
end
end Go.Pm
