/- The abstract machine 'Pm', part T: slices made, literals, cuts, struct values, bytes to strings, sealing. -/
import Derived.Test.YtnkknmdpakebhaaPmP
import Derived.Laws.BytesString
import Derived.Laws.Tables
set_option linter.unusedSimpArgs false
set_option linter.unusedVariables false
namespace Go.Pm
open Go.RowKit
section
variable {P : Program} {c : Ctx} {m : Mem} {μ : Mu} {L : Loc} {ow : Nat → Option Nat} {w : World}

/-- append of nothing. -/
theorem does_appendV0 (h : Inv c m μ L ow w) {t ty e : TypeId} {i ie : TyI} (ht : TyOK P t i) (hk : i.k = .slice e) (he : TyOK P e ie) {id g sz off n : Nat} {cs : List T} {v vy : Value}
    (hid : m id = some (.box g cs)) (hv : RepT μ L m (.view id g sz off n) v) (hy : RepD μ (.slice []) vy) : Does P c m μ L w (Builtin.append_ #[t, t] ty #[v, vy]) (.view id g sz off n) m := by
  have hu := ht.kind
  rw [hk] at hu
  simp only [] at hu
  obtain ⟨f, z, hf, hfs, hfb, hfz, hzsz, hzr⟩ := he.info
  obtain ⟨B, cap', rfl, _, _, _⟩ := hy.slice_inv
  refine .pure h ?_ hv
  cases hv with
  | @view _ _ _ _ _ cap g' A o hm hg hle hA =>
    rw [hid] at hm
    injection hm with hm
    subst hm
    cases hg
    obtain ⟨_, _, hncap, _⟩ := hA rfl
    cases B <;> simp [Builtin.append_, run_underlying hu, sizeOf, typeInfo, hf, Builtin.lenOf, hncap, Builtin.firstCells, loadCells, loadCellsFrom, storeCells]
/-- append to nil, to be written later. -/
theorem does_appendNV (h : Inv c m μ L ow w) {t ty e : TypeId} {i ie : TyI} (ht : TyOK P t i) (hk : i.k = .slice e) (he : TyOK P e ie) {d k : Nat} {ts : List T} {vy : Value}
    (hd : m d = none) (hy : Src m μ L w vy k ie.size ts) (hk0 : 0 < k) (hb : k * ie.bytes ≤ 140737488355328) (hmax : k ≤ maxLen) :
    Does P c m μ L w (Builtin.append_ #[t, t] ty #[.slice none 0 0, vy]) (.view d 0 ie.size 0 k) (setM m d (.box 0 ts)) := by
  have hu := ht.kind
  rw [hk] at hu
  simp only [] at hu
  obtain ⟨f, z, hf, hfs, hfb, hfz, hzsz, hzr⟩ := he.info
  have hzs : z.cells.size = f.size := by rw [(hzr μ).sz, hzsz, hfs]
  obtain ⟨a, c', news, rfl, hnl, hnt, hnc, hnr⟩ := hy.ex
  have hsmall : k ≤ 9223372036854775807 := by simp only [maxLen] at hmax; omega
  have hrun := run_append_nil (P := P) w t ty e f z hu hf hfz a k c' news (by rw [hfs]; exact hnl) hnc hk0 (by omega) (by rw [hfb]; omega)
  have hge := grownCap_ge w k 0 e
  have hgm : grownCap w k 0 e ≤ maxLen := grownCap_le_maxLen w k 0 e hmax
  have hsz : (news.toArray ++ Builtin.zeroCells z.cells (grownCap w k 0 e - k)).size = grownCap w k 0 e * ie.size := by
    simp only [Array.size_append, List.size_toArray, size_zeroCells, hzs, hfs, hnl, ← Nat.add_mul]
    congr 1
    omega
  obtain ⟨hi, hst⟩ := h.drew.newBox hd (news.toArray ++ Builtin.zeroCells z.cells (grownCap w k 0 e - k)) e 0 ts (by rw [hsz, ← hnt, hnl]; exact Nat.mul_le_mul_right _ hge) fun j x hx => by
    obtain ⟨u, q1, q2, q3⟩ := hnr j x hx
    refine ⟨u, ?_, q2, q3⟩
    have hj := (List.getElem?_eq_some_iff.1 q1).1
    rw [Array.getElem?_append_left (by simpa using hj), List.getElem?_toArray]
    exact q1
  rw [hsz] at hi hst
  refine ⟨_, _, μ, _, _, hrun, hi, Mu.le_refl _, hst, ?_⟩
  exact .view (setM_self m d _) rfl (Nat.le_refl _) fun _ => ⟨fun _ => by simp [Loc.setBlk], by simp [Loc.setBlk], hge, hgm⟩

/-- What data append. -/
theorem RepF.gets {xs : List D} {l : List Value} (h : RepF μ xs l) : l.length = (xs.flatMap D.cells).length ∧ ∀ (j : Nat) (y : D), (xs.flatMap D.cells)[j]? = some y → ∃ u, l[j]? = some u ∧ u.oneCell' = true ∧ RepD μ y u := by
  induction h with
  | nil => simp
  | @cons x xs c l h t ih =>
    obtain ⟨h1, h2⟩ := ih
    have hl := h.length
    refine ⟨by simp [h1, hl], fun j y hy => ?_⟩
    rw [List.flatMap_cons, List.getElem?_append] at hy
    split at hy
    · rename_i hj
      obtain ⟨u, q1, q2, q3⟩ := h.get j y hy
      exact ⟨u, by rw [List.getElem?_append_left (by omega)]; exact q1, q3, q2⟩
    · rename_i hj
      obtain ⟨u, q1, q2, q3⟩ := h2 _ y hy
      exact ⟨u, by rw [List.getElem?_append_right (by omega), hl]; exact q1, q2, q3⟩
theorem Src.ofD (h : Inv c m μ L ow w) {vy : Value} {ys : List D} (hy : RepD μ (.slice ys) vy) {sz : Nat} (hs : ∀ y ∈ ys, y.sz = sz) (hne : ys ≠ []) : Src m μ L w vy ys.length sz ((ys.flatMap D.cells).map .d) := by
  obtain ⟨a, k, news, rfl, hf, hl, hc, h1⟩ := src_cells h hy hs hne
  obtain ⟨g1, g2⟩ := hf.gets
  refine ⟨a, k, news, rfl, hl, by simp [g1], hc, fun j x hx => ?_⟩
  rw [List.getElem?_map] at hx
  cases hq : (ys.flatMap D.cells)[j]? with
  | none => rw [hq] at hx; cases hx
  | some y =>
    rw [hq] at hx
    simp at hx
    subst hx
    obtain ⟨u, q1, q2, q3⟩ := g2 j y hq
    exact ⟨u, q1, q2, .d q3⟩
/-- What such a slice appends. -/
theorem Src.ofV (h : Inv c m μ L ow w) {vy : Value} {id g sz off n : Nat} {cs : List T} (hid : m id = some (.box g cs)) (hv : RepT μ L m (.view id g sz off n) vy) (hle : off + n * sz ≤ cs.length) (h0 : 0 < n) : Src m μ L w vy n sz ((cs.drop off).take (n * sz)) := by
  obtain ⟨ho, vs, e0, hh, hs, hroom, hcell⟩ := h.box id g cs hid
  cases hv with
  | @view _ _ _ _ _ cap g' A o hm hg hle' hA =>
    rw [hid] at hm
    injection hm with hm
    subst hm
    cases hg
    obtain ⟨hAA, _, hncap, _⟩ := hA rfl
    obtain rfl := hAA (by omega)
    have hget : ∀ j, ((vs.toList.drop off).take (n * sz))[j]? = if j < n * sz then vs[off + j]? else none := fun j => by
      rw [List.getElem?_take]
      split
      · rw [List.getElem?_drop]; simp
      · rfl
    have hl : ((vs.toList.drop off).take (n * sz)).length = n * sz := by
      rw [List.length_take, List.length_drop, Array.length_toList (xs := vs)]
      exact Nat.min_eq_left (by omega)
    refine ⟨_, cap, (vs.toList.drop off).take (n * sz), rfl, hl, ?_, fun j u hu => ?_, fun j x hx => ?_⟩
    · rw [hl, List.length_take, List.length_drop]
      exact (Nat.min_eq_left (by omega)).symm
    · rw [hget] at hu
      split at hu
      · rw [add_at, cell_of_row w _ _ vs e0 (0, 0) hh]; exact hu
      · cases hu
    · rw [List.getElem?_take] at hx
      split at hx
      · rename_i hj
        rw [List.getElem?_drop] at hx
        obtain ⟨u, q1, q2, q3⟩ := hcell _ x hx
        exact ⟨u, by rw [hget, if_pos hj]; exact q1, q2, q3⟩
      · cases hx

/-! ### make, literals -/
theorem rep_get {α : Type} (xs : List α) : ∀ (l j : Nat), (List.replicate l xs).flatten[j]? = if j < l * xs.length then xs[j % xs.length]? else none
  | 0, j => by simp
  | l + 1, j => by
    rw [List.replicate_succ, List.flatten_cons, List.getElem?_append, Nat.add_mul, Nat.one_mul]
    split
    · rename_i h
      rw [if_pos (by omega), Nat.mod_eq_of_lt h]
    · rename_i h
      rw [rep_get xs l (j - xs.length)]
      by_cases h2 : j < l * xs.length + xs.length
      · rw [if_pos (by omega), if_pos h2, show j % xs.length = (j - xs.length) % xs.length from Nat.mod_eq_sub_mod (by omega)]
      · rw [if_neg (by omega), if_neg h2]
def zcells (l : Nat) (z : D) : List T := (List.replicate l (z.cells.map T.d)).flatten
theorem does_make (h : Inv c m μ L ow w) {t e : TypeId} {i ie : TyI} (ht : TyOK P t i) (hk : i.k = .slice e) (he : TyOK P e ie) (hz : 0 < ie.size) {kl kc : IntKind} {l k : Int} {vl vc : Value} (hl : RepD μ (.int kl l) vl) (hc : RepD μ (.int kc k) vc)
    (h0 : 0 ≤ l) (hlk : l ≤ k) (hb : k * ie.bytes ≤ 140737488355328) (hmax : k ≤ 140737488355328) {d : Nat} (hd : m d = none) :
    Does P c m μ L w (Instr.makeSlice t vl vc) (.view d 0 ie.size 0 l.toNat) (setM m d (.box 0 (zcells l.toNat ie.zero))) := by
  have hu := ht.kind
  rw [hk] at hu
  simp only [] at hu
  obtain ⟨f, z, hf, hfs, hfb, hfz, hzsz, hzr⟩ := he.info
  have hzs : z.cells.size = ie.size := by rw [(hzr μ).sz, hzsz]
  cases hl
  cases hc
  have hrun := run_make (P := P) w t e f z hu hf hfz kl kc l k h0 hlk (by rw [hfb, Int.mul_comm]; omega) (by omega)
  have hzc : ie.zero.cells.length = ie.size := by rw [D.cells_length, hzsz]
  have hlen : (zcells l.toNat ie.zero).length = l.toNat * ie.size := by
    unfold zcells
    rw [List.length_flatten, List.map_replicate, List.sum_replicate_nat, List.length_map, hzc]
  have hle : l.toNat * ie.size ≤ k.toNat * ie.size := Nat.mul_le_mul_right _ (by omega)
  have hcells := (hzr μ).cells
  obtain ⟨hi, hst⟩ := h.newBox hd (madeCells z.cells (k.toNat * f.size)) e 0 (zcells l.toNat ie.zero) (by rw [size_madeCells, hlen, hfs]; exact hle) fun j x hx => by
    unfold zcells at hx
    rw [rep_get, List.length_map, hzc] at hx
    split at hx
    · rename_i hj
      rw [List.getElem?_map] at hx
      cases hq : ie.zero.cells[j % ie.size]? with
      | none => rw [hq] at hx; cases hx
      | some y =>
        rw [hq] at hx
        simp at hx
        subst hx
        obtain ⟨u, q1, q2, q3⟩ := hcells.get _ y hq
        refine ⟨u, ?_, q3, .d q2⟩
        have hm : j % ie.size < z.cells.size := by rw [hzs]; exact Nat.mod_lt _ hz
        have : z.cells[j % z.cells.size]! = u := by
          rw [hzs, getElem!_pos z.cells _ hm]
          simpa [hm] using q1
        simp only [madeCells, Array.getElem?_map]
        rw [Array.getElem?_eq_getElem (by simp; rw [hfs]; omega)]
        simp [this]
    · cases hx
  refine ⟨_, _, μ, _, _, hrun, hi, Mu.le_refl _, hst, ?_⟩
  refine .view (setM_self m d _) rfl (Nat.le_refl _) fun _ => ⟨fun _ => by simp [Loc.setBlk], ?_, by omega, by simp only [maxLen]; omega⟩
  simp [Loc.setBlk, size_madeCells, hfs]

/-! ### cuts -/
theorem does_cutD (h : Inv c m μ L ow w) {t e : TypeId} {i ie : TyI} (ht : TyOK P t i) (hk : i.k = .slice e) (he : TyOK P e ie) {v : Value} {xs : List D} (hv : RepD μ (.slice xs) v) (hs : ∀ y ∈ xs, y.sz = ie.size)
    {lo hi mx : Option Value} {l hh mm : Nat} (hlo : (lo = none ∧ l = 0) ∨ ∃ k, lo = some (.int k l)) (hhi : (hi = none ∧ hh = xs.length ∧ mx = none) ∨ ∃ k, hi = some (.int k hh)) (hmx : mx = none ∨ (∃ k, mx = some (.int k mm)) ∧ hh ≤ mm ∧ mm ≤ xs.length)
    (h1 : l ≤ hh) (h2 : hh ≤ xs.length) : Does P c m μ L w (Instr.sliceAt t v lo hi mx) (.d (.slice ((xs.take hh).drop l))) m := by
  have hu := ht.kind
  rw [hk] at hu
  simp only [] at hu
  obtain ⟨A, cap, rfl, hle, hc, hr⟩ := hv.slice_inv
  have hmb : ∃ m3, (Instr.sliceBounds true xs.length cap lo hi mx).run P w = .ok (l, hh, m3) w ∧ hh ≤ m3 ∧ m3 ≤ cap := by
    have hhc : hh ≤ cap := by omega
    have hlx : l ≤ xs.length := by omega
    rcases hmx with rfl | ⟨⟨k3, rfl⟩, h3, h4⟩
    · refine ⟨cap, ?_, by omega, Nat.le_refl _⟩
      rcases hhi with ⟨rfl, rfl, _⟩ | ⟨k2, rfl⟩ <;> rcases hlo with ⟨rfl, rfl⟩ | ⟨k1, rfl⟩ <;> simp [Instr.sliceBounds, Instr.sliceBound, asIntOf, h1, h2, hhc, hlx, hle]
    · refine ⟨mm, ?_, by omega, by omega⟩
      rcases hhi with ⟨rfl, rfl, h5⟩ | ⟨k2, rfl⟩
      · cases h5
      · rcases hlo with ⟨rfl, rfl⟩ | ⟨k1, rfl⟩ <;> simp [Instr.sliceBounds, Instr.sliceBound, asIntOf, h3, h1, show mm ≤ cap by omega]
  obtain ⟨m3, hrun, h3, h4⟩ := hmb
  have hlen : ((xs.take hh).drop l).length = hh - l := by rw [List.length_drop, List.length_take]; omega
  have hrun2 : (Instr.sliceAt t (.slice A xs.length cap) lo hi mx).run P w = .ok (.slice (if m3 = l then A else A.map (·.add (l * ie.size))) (hh - l) (m3 - l)) w := by
    simp [Instr.sliceAt, run_underlying hu, Instr.slice, hrun, he.sizeOf]
  refine .pure h hrun2 (.d ?_)
  rcases hr with rfl | ⟨b, o, sz, rfl, hrow, hsz⟩
  · simp only [List.length_nil, Nat.le_zero_eq] at h2
    subst h2
    simp only [List.take_nil, List.drop_nil, Nat.zero_sub]
    exact .slice0 _ _ (by omega)
  · by_cases hq : m3 = l
    · have e0 : hh - l = 0 := by omega
      have : (xs.take hh).drop l = [] := List.eq_nil_of_length_eq_zero (by rw [hlen]; omega)
      rw [this, e0]
      exact .slice0 _ _ (by omega)
    · rw [if_neg hq]
      have hrow2 := (hrow.take hh).drop (fun y hy => hs y (List.mem_of_mem_take hy)) l (by rw [List.length_take]; omega)
      have := RepD.slice_mk (cap := m3 - l) hrow2 (fun y hy => hs y (List.mem_of_mem_take (List.mem_of_mem_drop hy))) (by rw [hlen]; omega) (by omega)
      rw [hlen] at this
      simpa [add_at] using this
theorem does_cutS (h : Inv c m μ L ow w) {t : TypeId} {i : TyI} (ht : TyOK P t i) (hk : i.k = .str) {s : ByteArray} {v : Value} (hv : RepD μ (.str s) v)
    {lo hi : Option Value} {l hh : Nat} (hlo : (lo = none ∧ l = 0) ∨ ∃ k, lo = some (.int k l)) (hhi : (hi = none ∧ hh = s.size) ∨ ∃ k, hi = some (.int k hh))
    (h1 : l ≤ hh) (h2 : hh ≤ s.size) : Does P c m μ L w (Instr.sliceAt t v lo hi none) (.d (.str (s.extract l hh))) m := by
  have hu := ht.kind
  rw [hk] at hu
  simp only [] at hu
  cases hv
  have hmb : (Instr.sliceBounds false s.size s.size lo hi none).run P w = .ok (l, hh, s.size) w := by
    rcases hhi with ⟨rfl, rfl⟩ | ⟨k2, rfl⟩ <;> rcases hlo with ⟨rfl, rfl⟩ | ⟨k1, rfl⟩ <;> simp [Instr.sliceBounds, Instr.sliceBound, asIntOf, h1, h2]
  refine .pure h (v := .string (s.extract l hh)) ?_ (.d (.str _))
  simp [Instr.sliceAt, run_underlying hu, Instr.slice, hmb]
end
end Go.Pm
