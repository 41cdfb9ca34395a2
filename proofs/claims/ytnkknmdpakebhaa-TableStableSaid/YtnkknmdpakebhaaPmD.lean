/- The abstract machine 'Pm', part D: append. -/
import Derived.Test.YtnkknmdpakebhaaPmC
import Derived.Maps.AppendAt
set_option linter.unusedSimpArgs false
set_option linter.unusedVariables false
namespace Go.Pm
open Go.RowKit

theorem RepC.move {μ μ' : Mu} (hle : Mu.le μ μ') {b b' : Nat} : ∀ {cs : List D} {o o' : Nat}, RepC μ cs b o → (∀ i u, μ ⟨b, o + i, none⟩ = some u → μ' ⟨b', o' + i, none⟩ = some u) → RepC μ' cs b' o'
  | _, o, o', .nil _ _, _ => .nil _ _
  | _, o, o', .cons h h1 hm t, hv => .cons (h.mono hle) h1 (hv 0 _ hm) (t.move hle fun i u hu => by
      have := hv (i + 1) u (by rwa [Nat.add_comm i 1, ← Nat.add_assoc])
      rwa [Nat.add_comm i 1, ← Nat.add_assoc] at this)
theorem RepE.move {μ μ' : Mu} (hle : Mu.le μ μ') {b b' o o' : Nat} {x : D} (h : RepE μ x b o) (hv : ∀ i u, μ ⟨b, o + i, none⟩ = some u → μ' ⟨b', o' + i, none⟩ = some u) : RepE μ' x b' o' := by
  cases h with
  | agg h => exact .agg (h.move hle hv)
  | one h h1 hm => exact .one (h.mono hle) h1 (hv 0 _ hm)
theorem RepRow.move {μ μ' : Mu} (hle : Mu.le μ μ') {b b' : Nat} : ∀ {xs : List D} {o o' : Nat}, RepRow μ xs b o → (∀ i u, μ ⟨b, o + i, none⟩ = some u → μ' ⟨b', o' + i, none⟩ = some u) → RepRow μ' xs b' o'
  | _, o, o', .nil _ _, _ => .nil _ _
  | _, o, o', .cons (x := x) h t, hv => .cons (h.move hle hv) (t.move hle fun i u hu => by
      have := hv (x.sz + i) u (by rwa [← Nat.add_assoc])
      rwa [← Nat.add_assoc] at this)
/-- A row's cells, one behind the other. -/
theorem RepRow.flat {μ : Mu} {b : Nat} : ∀ {xs : List D} {o : Nat}, RepRow μ xs b o → ∃ l, RepF μ xs l ∧ ∀ (i : Nat) (u : Value), l[i]? = some u → μ ⟨b, o + i, none⟩ = some u
  | _, _, .nil _ _ => ⟨[], .nil, by simp⟩
  | _, o, .cons (x := x) h t => by
    obtain ⟨l, hl, hg⟩ := t.flat
    obtain ⟨c, hc, hcg⟩ := h.cells.vals
    have hlen : c.length = x.sz := by
      rw [hc.length]
      cases x <;> simp [D.cells, D.sz]
    refine ⟨c ++ l, .cons hc hl, fun i u hu => ?_⟩
    rcases Nat.lt_or_ge i c.length with hi | hi
    · rw [List.getElem?_append_left hi] at hu
      exact hcg i u hu
    · rw [List.getElem?_append_right hi] at hu
      have := hg _ u hu
      rwa [hlen, Nat.add_assoc, Nat.add_sub_cancel' (by omega)] at this
theorem D.cells_length (x : D) : x.cells.length = x.sz := by cases x <;> simp [D.cells, D.sz]
theorem RepE.of_L {μ μ' : Mu} (hle : Mu.le μ μ') {x : D} {c : List Value} {b o : Nat} (h : RepL μ x.cells c) (hv : ∀ (i : Nat) (u : Value), c[i]? = some u → μ' ⟨b, o + i, none⟩ = some u) : RepE μ' x b o := by
  have h' := h.mono hle
  cases x with
  | agg cs => exact .agg (RepC.of_vals h' hv)
  | _ =>
    cases h' with
    | cons h2 h1 t => exact .one h2 h1 (hv 0 _ rfl)
theorem RepF.row {μ μ' : Mu} (hle : Mu.le μ μ') {b : Nat} : ∀ {xs : List D} {l : List Value} {o : Nat}, RepF μ xs l → (∀ (i : Nat) (u : Value), l[i]? = some u → μ' ⟨b, o + i, none⟩ = some u) → RepRow μ' xs b o
  | _, _, o, .nil, _ => .nil _ _
  | _, _, o, .cons (x := x) (c := c) (l := l) h t, hv => by
    have hlen : c.length = x.sz := by rw [h.length, D.cells_length]
    refine .cons (RepE.of_L hle h fun i u hu => hv i u ?_) (t.row hle fun i u hu => ?_)
    · have hi : i < c.length := (List.getElem?_eq_some_iff.1 hu).1
      rw [List.getElem?_append_left hi]; exact hu
    · have := hv (x.sz + i) u (by rw [← hlen, List.getElem?_append_right (by omega), Nat.add_sub_cancel_left]; exact hu)
      rwa [← Nat.add_assoc] at this
theorem RepF.length {μ : Mu} {sz : Nat} : ∀ {xs : List D} {l : List Value}, RepF μ xs l → (∀ y ∈ xs, y.sz = sz) → l.length = xs.length * sz
  | _, _, .nil, _ => by simp
  | _, _, .cons (x := x) h t, hs => by
    rw [List.length_append, h.length, D.cells_length, hs x List.mem_cons_self, t.length (fun y hy => hs y (List.mem_cons_of_mem _ hy)), List.length_cons, Nat.add_mul, Nat.one_mul, Nat.add_comm]
theorem RepF.one {μ : Mu} : ∀ {xs : List D} {l : List Value}, RepF μ xs l → ∀ u ∈ l, u.oneCell' = true
  | _, _, .nil, u, hu => by simp at hu
  | _, _, .cons h t, u, hu => by
    rcases List.mem_append.1 hu with hu | hu
    · exact h.one u hu
    · exact t.one u hu

/-- What an append of at least one element does: in the row's own block, or in a new one; nothing else turns. -/
theorem run_append_two {P : Program} (w : World) (t ty e : TypeId) (i : TypeInfo) (z : Value) (ht : P.underlying t = some (.slice e)) (hi : P.info? e = some i) (hz : i.zero = some z) (hzs : z.cells.size = i.size) (hsz : 0 < i.size)
    (v : Value) (n : Nat) (xs : List Value) (hown : rowAt w e i.size v n xs)
    (a : Addr) (m c : Nat) (news : List Value) (hl : news.length = m * i.size) (hm : 0 < m) (hnews : ∀ j u, news[j]? = some u → w.cell? (a.add j) = some u) (h1 : ∀ u ∈ news, u.oneCell' = true)
    (h63 : n + m ≤ maxLen) (hbytes : (n + m) * i.bytes ≤ 140737488355328) :
    ∃ v' w', (Builtin.append_ #[t, t] ty #[v, .slice (some a) m c]).run P w = .ok v' w' ∧ rowAt w' e i.size v' (n + m) (xs ++ news) ∧
      ((v'.ownBlock = v.ownBlock ∧ w.grownBy w' v.ownBlock) ∨ (v'.ownBlock = some w.heap.size ∧ w.grownBy w' none)) := by
  have hlen : (xs ++ news).length = (n + m) * i.size := by rw [List.length_append, hown.1, hl, Nat.add_mul]
  have hsmall : n + m ≤ 9223372036854775807 := by simp only [maxLen] at h63; omega
  have grown : ∀ (old : Nat), old < n + m →
      rowAt (w.drew.alloc (.cells (xs.toArray ++ news.toArray ++ Builtin.zeroCells z.cells (grownCap w (n + m) old e - (n + m))) e)) e i.size
        (.slice (some ⟨w.heap.size, 0, none⟩) (n + m) (grownCap w (n + m) old e)) (n + m) (xs ++ news) ∧
      w.grownBy (w.drew.alloc (.cells (xs.toArray ++ news.toArray ++ Builtin.zeroCells z.cells (grownCap w (n + m) old e - (n + m))) e)) none := by
    intro old ho
    have hge := grownCap_ge w (n + m) old e
    have hcm : grownCap w (n + m) old e ≤ maxLen := grownCap_le_maxLen w (n + m) old e h63
    refine ⟨⟨hlen, .inr ⟨w.heap.size, _, _, rfl, Nat.zero_le _, heap_alloc_new w.drew _, hge, hcm, ?_, ?_⟩⟩, ⟨rfl, rfl, rfl, by simp, fun k hk _ => Below.heap_alloc w.drew _ k hk⟩⟩
    · simp only [Array.size_append, List.size_toArray, size_zeroCells, hzs, hown.1, hl, ← Nat.add_mul]
      congr 1
      omega
    · simp only [Array.toList_append, List.append_assoc]
      rw [← List.append_assoc, ← hlen]
      exact List.take_left
  rcases hown.2 with ⟨rfl, rfl⟩ | ⟨g, cap, cur, rfl, hbg, hg, hnc, hcm, hcs, htake⟩
  · have hx : xs = [] := List.eq_nil_of_length_eq_zero (by simpa using hown.1)
    subst hx
    have hr := run_append_nil (P := P) w t ty e i z ht hi hz a m c news hl hnews hm (by omega) (by simp only [Nat.zero_add] at hbytes; omega)
    have hgr := grown 0 (by omega)
    simp only [Nat.zero_add, List.nil_append, Array.empty_append] at hgr ⊢
    exact ⟨_, _, hr, hgr.1, .inr ⟨rfl, hgr.2⟩⟩
  · by_cases hroom : n + m ≤ cap
    · have hfit : n * i.size + news.length ≤ cur.size := by rw [hl, hcs, ← Nat.add_mul]; exact Nat.mul_le_mul_right _ hroom
      have hr := run_append_room (P := P) w t ty e i ht hi g n cap cur hg a m c news hl hnews h1 hroom hfit
      refine ⟨_, _, hr, ⟨hlen, .inr ⟨g, cap, _, rfl, hbg, setRow_heap w g cur _ e _ hg, hroom, hcm, ?_, ?_⟩⟩, .inl ⟨rfl, ⟨rfl, rfl, rfl, by simp, fun k _ hk => setRow_other w g k _ (fun e => hk (by simp [Value.ownBlock, e]))⟩⟩⟩
      · simp only [List.size_toArray, List.length_append, List.length_take, List.length_drop, Array.length_toList]
        omega
      · rw [htake, ← hlen]
        exact List.take_left
    · have holds : ∀ j u, xs[j]? = some u → w.cell? ((⟨g, 0, none⟩ : Addr).add j) = some u := World.ownsRow.cells hown (g := g) rfl
      have hr := run_append_grow (P := P) w t ty e i z ht hi hz ⟨g, 0, none⟩ n cap xs hown.1 holds a m c news hl hnews (by omega) (by omega) (growslice_fits (by omega) hbytes)
      have hgr := grown cap (by omega)
      exact ⟨_, _, hr, hgr.1, .inr ⟨rfl, hgr.2⟩⟩

/-- The snapshot behind an append: the row's block from its beginning. -/
def Mu.row (μ : Mu) (b : Nat) (cells : List Value) : Mu := fun a => if a.block = b ∧ a.spot = none ∧ a.off < cells.length then cells[a.off]? else μ a

theorem Inv.append {c : Ctx} {m : Mem} {μ : Mu} {L : Loc} {ow : Nat → Option Nat} {w w1 : World} (h : Inv c m μ L ow w) {id e sz n k : Nat} (hid : m id = some (.tok e sz n)) (hk : 0 < k)
    {cells news : List Value} {v1 : Value} (hr : rowAt w e sz (L.hdr id) n cells) (hr1 : rowAt w1 e sz v1 (n + k) (cells ++ news))
    (hat : (v1.ownBlock = (L.hdr id).ownBlock ∧ w.grownBy w1 (L.hdr id).ownBlock) ∨ (v1.ownBlock = some w.heap.size ∧ w.grownBy w1 none)) :
    ∃ b cap, v1 = .slice (some ⟨b, 0, none⟩) (n + k) cap ∧ n + k ≤ cap ∧ cap ≤ maxLen ∧
      Inv c (setM m id (.tok e sz (n + k))) (μ.row b (cells ++ news)) (L.setHdr id v1) (setOw ow b id) w1 ∧ Stays L m (L.setHdr id v1) (setM m id (.tok e sz (n + k))) ∧
      Mu.le μ (μ.row b (cells ++ news)) := by
  obtain ⟨hz, _, hown2⟩ := h.tok id e sz n hid
  have hown : ∀ b, (L.hdr id).ownBlock = some b → ow b = some id := fun b hb => (hown2 b hb).1
  have hbase : ∀ b, (L.hdr id).ownBlock = some b → c.w0.heap.size ≤ b := fun b hb => (hown2 b hb).2
  obtain ⟨b, cap, cur, rfl, hh1, hle, hmax, hcur, htake⟩ : ∃ b cap cur, v1 = .slice (some ⟨b, 0, none⟩) (n + k) cap ∧ w1.heap[b]? = some (.cells cur e (0, 0)) ∧ n + k ≤ cap ∧ cap ≤ maxLen ∧ cur.size = cap * sz ∧ cur.toList.take ((n + k) * sz) = cells ++ news := by
    rcases hr1.2 with ⟨_, h0⟩ | ⟨g, cap, cur, h1, h2, h3, h4, h5, h6, h7⟩
    · omega
    · exact ⟨g, cap, cur, h1, h3, h4, h5, h6, h7⟩
  have hlen : (cells ++ news).length = (n + k) * sz := hr1.1
  have hclen : cells.length = n * sz := hr.1
  have hb' : (some b = (L.hdr id).ownBlock ∧ w.grownBy w1 (some b)) ∨ (b = w.heap.size ∧ w.grownBy w1 none) := by
    rcases hat with ⟨h1, h2⟩ | ⟨h1, h2⟩
    · rw [← h1] at h2; exact .inl ⟨h1, h2⟩
    · exact .inr ⟨by simpa [Value.ownBlock] using h1, h2⟩
  have hgb : w.grownBy w1 (some b) := by
    rcases hb' with ⟨_, h2⟩ | ⟨_, h2⟩
    · exact h2
    · exact ⟨h2.os, h2.tape, h2.output, h2.size, fun j hj _ => h2.block j hj (by simp)⟩
  have howb : ∀ i, ow b = some i → i = id ∧ some b = (L.hdr id).ownBlock := by
    intro i hi
    rcases hb' with ⟨h1, _⟩ | ⟨h1, _⟩
    · have := hown b h1.symm
      rw [hi] at this
      injection this with this
      exact ⟨this, h1⟩
    · have := (h.own _ _ hi).1
      omega
  -- a cell of the snapshot in block b
  have hold : ∀ a v, μ a = some v → a.block = b → cells[a.off]? = some v ∧ a.off < cells.length := by
    intro a v ha hab
    rcases hb' with ⟨h1, _⟩ | ⟨h1, _⟩
    · obtain ⟨e', sz', n', hm', hoff⟩ := h.muOwn a v ha id (by rw [hab]; exact hown b h1.symm)
      rw [hid] at hm'
      injection hm' with hm'
      injection hm' with q1 q2 q3
      subst q1 q2 q3
      have hlt : a.off < cells.length := by rw [hclen]; exact hoff
      refine ⟨?_, hlt⟩
      rcases hr.2 with ⟨hn, _⟩ | ⟨g, cap0, cur0, hhdr, _, hg0, _, _, _, ht0⟩
      · rw [hn] at h1; simp [Value.ownBlock] at h1
      · have hgb : b = g := by rw [hhdr] at h1; simpa [Value.ownBlock] using h1
        subst hgb
        have hc := h.mu a v ha
        have hsp := h.mu_spot ha
        obtain ⟨bb, oo, ss⟩ := a
        simp only at hab hsp hlt hoff
        subst hab hsp
        rw [cell_of_row w _ oo cur0 e (0, 0) hg0] at hc
        rw [← ht0, List.getElem?_take, if_pos hoff]
        simpa using hc
    · have := h.mu_lt ha
      omega
  have hmle : Mu.le μ (μ.row b (cells ++ news)) := by
    intro a v ha
    unfold Mu.row
    split
    · rename_i hc
      obtain ⟨h1, h2⟩ := hold a v ha hc.1
      rw [List.getElem?_append_left h2]
      exact h1
    · exact ha
  have hst : Stays L m (L.setHdr id (.slice (some ⟨b, 0, none⟩) (n + k) cap)) (setM m id (.tok e sz (n + k))) := by
    refine Stays.turn L hid _ _ (fun _ _ => rfl) (fun _ _ => rfl) (fun i hi => by simp [Loc.setHdr, hi]) (fun g q => by cases q) (fun e' sz' n' q => ?_)
    injection q with q1 q2 q3
    subst q1 q2 q3
    exact ⟨n + k, rfl, by omega, fun e => by omega⟩
  have hb1 : b < w1.heap.size := (Array.getElem?_eq_some_iff.1 hh1).1
  have hcell1 : ∀ o u, (cells ++ news)[o]? = some u → w1.cell? ⟨b, o, none⟩ = some u := by
    intro o u hu
    rw [cell_of_row w1 b o cur e (0, 0) hh1]
    rw [← htake, List.getElem?_take] at hu
    split at hu
    · simpa using hu
    · cases hu
  have hkeep : ∀ j, j ≠ b → j < w.heap.size → w1.heap[j]? = w.heap[j]? := fun j hj hlt => hgb.block j hlt (by simpa using hj)
  have hneb : ∀ j, j ≠ id → ∀ b', ow b' = some j → b' ≠ b := fun j hj b' hb' e' => hj (howb j (by rw [← e']; exact hb')).1
  have how : ∀ j b', j ≠ id → ow b' = some j → setOw ow b id b' = some j := fun j b' hj hb' => by simp [setOw, hneb j hj b' hb', hb']
  refine ⟨b, cap, rfl, hle, hmax, ⟨?_, ?_, ?_, ?_, ?_, ?_, ?_, ?_, ?_⟩, hst, hmle⟩
  · refine ⟨hgb.os.trans h.fr.os, hgb.tape.trans h.fr.tape, hgb.output.trans h.fr.output, Nat.le_trans h.fr.size hgb.size, fun j hj hS => ?_⟩
    rw [hkeep j (fun e' => ?_) (Nat.lt_of_lt_of_le hj h.fr.size)]
    · exact h.fr.block j hj hS
    · subst e'
      rcases hb' with ⟨h1, _⟩ | ⟨h1, _⟩
      · rcases (h.own _ _ (hown _ h1.symm)).2 with h' | h'
        · omega
        · exact hS h'
      · have := h.fr.size; omega
  · intro a v ha
    unfold Mu.row at ha
    split at ha
    · rename_i hc
      obtain ⟨bb, oo, ss⟩ := a
      obtain ⟨rfl, rfl, _⟩ := hc
      exact hcell1 _ _ ha
    · rename_i hc
      have hne : a.block ≠ b := fun e' => hc ⟨e', h.mu_spot ha, by
        have := (hold a v ha e').2
        rw [List.length_append]; omega⟩
      exact (World.cell?_of_block (w := w) (hkeep a.block hne (h.mu_lt ha))).trans (h.mu a v ha)
  · exact fun a v ha => hmle a v (h.mu0 a v ha)
  · intro a v ha
    unfold Mu.row at ha
    split at ha
    · rename_i hc
      by_cases hlt : a.block < c.w0.heap.size
      · -- an elder block: only if it was handed in; then it is the row's own and the cell an old one, or it is new
        right
        rcases hb' with ⟨h1, _⟩ | ⟨h1, _⟩
        · rw [hc.1]
          exact hbase b h1.symm
        · have := h.fr.size; omega
      · exact .inr (by omega)
    · exact h.muNew a v ha
  · intro a v ha i hi
    unfold Mu.row at ha
    unfold setOw at hi
    split at ha
    · rename_i hc
      rw [if_pos hc.1] at hi
      injection hi with hi
      subst hi
      exact ⟨e, sz, n + k, by simp [setM], by rw [← hlen]; exact hc.2.2⟩
    · split at hi
      · rename_i hc hb2
        have := hold a v ha hb2
        exact absurd ⟨hb2, h.mu_spot ha, by rw [List.length_append]; omega⟩ hc
      · obtain ⟨e', sz', n', hm', hoff⟩ := h.muOwn a v ha i hi
        by_cases he : id = i
        · subst he
          rw [hid] at hm'
          injection hm' with hm'
          injection hm' with q1 q2 q3
          subst q1 q2 q3
          exact ⟨e, sz, n + k, by simp [setM], Nat.lt_of_lt_of_le hoff (Nat.mul_le_mul_right _ (by omega))⟩
        · exact ⟨e', sz', n', by simp [setM, he, hm'], hoff⟩
  · intro b' i hi
    unfold setOw at hi
    split at hi
    · rename_i e'
      subst e'
      refine ⟨hb1, ?_⟩
      rcases hb' with ⟨h1, _⟩ | ⟨h1, _⟩
      · exact (h.own _ _ (hown _ h1.symm)).2
      · exact .inl (by rw [h1]; exact h.fr.size)
    · exact ⟨Nat.lt_of_lt_of_le (h.own _ _ hi).1 hgb.size, (h.own _ _ hi).2⟩
  · intro j g cs hj
    have he : id ≠ j := fun e => by subst e; simp [setM] at hj
    have hj' : m j = some (.box g cs) := by simpa [setM, he] using hj
    obtain ⟨ho, vs, e', hh, hs', hroom', hv'⟩ := h.box j g cs hj'
    refine ⟨how _ _ (fun e => he e.symm) ho, vs, e', (hkeep _ (hneb j (fun e => he e.symm) _ ho) (h.own _ _ ho).1).trans hh, hs', hroom', fun i x hx => ?_⟩
    obtain ⟨u, h1, h2, h3⟩ := hv' i x hx
    exact ⟨u, h1, h2, h3.mono hmle hst⟩
  · intro j e' sz' n' hj
    by_cases he : id = j
    · subst he
      simp only [setM, if_true] at hj
      injection hj with hj
      injection hj with q1 q2 q3
      subst q1 q2 q3
      refine ⟨hz, ⟨_, by simpa [Loc.setHdr] using hr1⟩, fun b' hb2 => ?_⟩
      simp [Loc.setHdr, Value.ownBlock] at hb2
      subst hb2
      refine ⟨by simp [setOw], ?_⟩
      rcases hb' with ⟨h1, _⟩ | ⟨h1, _⟩
      · exact hbase b h1.symm
      · rw [h1]; exact h.fr.size
    · have hj' : m j = some (.tok e' sz' n') := by simpa [setM, he] using hj
      have he' : ¬ j = id := fun e => he e.symm
      obtain ⟨h0, ⟨cl, hr'⟩, h2⟩ := h.tok j e' sz' n' hj'
      refine ⟨h0, ⟨cl, ?_⟩, fun b' hb2 => ?_⟩
      · simp only [Loc.setHdr, if_neg he']
        exact rowAt_keep hr' fun b' hb2 => hkeep b' (hneb j he' b' (h2 b' hb2).1) (h.own _ _ (h2 b' hb2).1).1
      · simp only [Loc.setHdr, if_neg he'] at hb2
        exact ⟨how _ _ he' (h2 b' hb2).1, (h2 b' hb2).2⟩
  · intro j g cs hj
    have he : id ≠ j := fun e => by subst e; simp [setM] at hj
    exact (h.froz j g cs (by simpa [setM, he] using hj)).mono hmle
end Go.Pm
