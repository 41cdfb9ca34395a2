/- The abstract machine 'Pm', part P: slices whose cells are written: made, appended to, cut, sealed. -/
import Derived.Test.YtnkknmdpakebhaaPmI
import Derived.Laws.MakeOwn
set_option linter.unusedSimpArgs false
set_option linter.unusedVariables false
namespace Go.Pm
open Go.RowKit
section
variable {P : Program} {c : Ctx} {m : Mem} {μ : Mu} {L : Loc} {ow : Nat → Option Nat} {w : World}

/-- Cells get a new place, or more of it. -/
theorem Inv.rebox (h : Inv c m μ L ow w) {id g g' : Nat} {cs cs' : List T} (hid : m id = some (.box g cs)) (hg : g < g') {w1 : World} {b e : Nat} {vs : Array Value}
    (hos : w1.os = w.os) (htape : w1.tape = w.tape) (hout : w1.output = w.output) (hsize : w.heap.size ≤ w1.heap.size) (hkeep : ∀ k, k < w.heap.size → k ≠ L.blk id → w1.heap[k]? = w.heap[k]?)
    (hb : b = L.blk id ∨ b = w.heap.size) (hh : w1.heap[b]? = some (.cells vs e (0, 0))) (hlen : cs'.length ≤ vs.size)
    (hv : ∀ (i : Nat) (x : T), cs'[i]? = some x → ∃ v, vs[i]? = some v ∧ v.oneCell' = true ∧ RepT μ L m x v) :
    Inv c (setM m id (.box g' cs')) μ (L.setBlk id b vs.size) (setOw ow b id) w1 ∧ Stays L m (L.setBlk id b vs.size) (setM m id (.box g' cs')) := by
  obtain ⟨ho, vs0, e0, hh0, hs0, hroom0, hv0⟩ := h.box id g cs hid
  have hst : Stays L m (L.setBlk id b vs.size) (setM m id (.box g' cs')) := Stays.turn L hid _ _ (fun i hi => by simp [Loc.setBlk, hi]) (fun i hi => by simp [Loc.setBlk, hi]) (fun _ _ => rfl)
    (fun g2 q => ⟨g', rfl, by cases q; omega, fun q2 => by cases q; omega⟩) (fun _ _ _ q => by cases q)
  have hnomu : ∀ a u, μ a = some u → a.block ≠ L.blk id := fun a u ha e => by
    obtain ⟨e', sz, n, hm, _⟩ := h.muOwn a u ha id (by rw [e]; exact ho)
    rw [hid] at hm
    cases hm
  have hnb : ∀ a u, μ a = some u → a.block ≠ b := fun a u ha e => by
    rcases hb with hb | hb
    · exact hnomu a u ha (e.trans hb)
    · have := h.mu_lt ha; omega
  have howb : ∀ i k, ow k = some i → id ≠ i → k ≠ b ∧ k ≠ L.blk id := fun i k hk hi => by
    have h1 : k ≠ L.blk id := fun q => by rw [q, ho] at hk; injection hk with hk; exact hi hk
    refine ⟨fun q => ?_, h1⟩
    rcases hb with hb | hb
    · exact h1 (q.trans hb)
    · have := (h.own _ _ hk).1; omega
  have hb1 : b < w1.heap.size := (Array.getElem?_eq_some_iff.1 hh).1
  refine ⟨⟨?_, ?_, h.mu0, h.muNew, ?_, ?_, ?_, ?_, ?_⟩, hst⟩
  · refine ⟨hos.trans h.fr.os, htape.trans h.fr.tape, hout.trans h.fr.output, Nat.le_trans h.fr.size hsize, fun k hk hS => ?_⟩
    rw [hkeep k (Nat.lt_of_lt_of_le hk h.fr.size) (fun q => ?_)]
    · exact h.fr.block k hk hS
    · subst q
      rcases (h.own _ _ ho).2 with h' | h'
      · omega
      · exact hS h'
  · intro a u ha
    exact (World.cell?_of_block (w := w) (hkeep _ (h.mu_lt ha) (hnomu a u ha))).trans (h.mu a u ha)
  · intro a u ha j hj
    unfold setOw at hj
    rw [if_neg (hnb a u ha)] at hj
    obtain ⟨e', sz, n, hm, hoff⟩ := h.muOwn a u ha j hj
    have : id ≠ j := fun q => by rw [← q, hid] at hm; cases hm
    exact ⟨e', sz, n, by rw [setM_ne m _ this]; exact hm, hoff⟩
  · intro k j hk
    unfold setOw at hk
    split at hk
    · rename_i q
      subst q
      refine ⟨hb1, ?_⟩
      rcases hb with hb | hb
      · rw [hb]; exact (h.own _ _ ho).2
      · exact .inl (by rw [hb]; exact h.fr.size)
    · exact ⟨Nat.lt_of_lt_of_le (h.own _ _ hk).1 hsize, (h.own _ _ hk).2⟩
  · intro j g2 cs2 hj
    by_cases he : id = j
    · subst he
      simp only [setM, if_true] at hj
      injection hj with hj
      injection hj with hj1 hj2
      subst hj1 hj2
      refine ⟨by simp [Loc.setBlk, setOw], vs, e, by simpa [Loc.setBlk] using hh, hlen, by simp [Loc.setBlk], fun i x hx => ?_⟩
      obtain ⟨v, h1, h2, h3⟩ := hv i x hx
      exact ⟨v, h1, h2, h3.mono (Mu.le_refl _) hst⟩
    · have he' : ¬ j = id := fun q => he q.symm
      obtain ⟨ho', vs', e', hh', hs', hr', hv'⟩ := h.box j g2 cs2 (by simpa [setM, he] using hj)
      obtain ⟨q1, q2⟩ := howb j _ ho' he
      have hbj : (L.setBlk id b vs.size).blk j = L.blk j := by simp [Loc.setBlk, he']
      rw [hbj]
      refine ⟨by simp [setOw, q1, ho'], vs', e', (hkeep _ (h.own _ _ ho').1 q2).trans hh', hs', by simp [Loc.setBlk, he', hr'], fun i x hx => ?_⟩
      obtain ⟨v, h1, h2, h3⟩ := hv' i x hx
      exact ⟨v, h1, h2, h3.mono (Mu.le_refl _) hst⟩
  · intro j e' sz n hj
    have he : id ≠ j := fun q => by subst q; simp [setM] at hj
    obtain ⟨h0, ⟨cells, hr⟩, h2⟩ := h.tok j e' sz n (by simpa [setM, he] using hj)
    refine ⟨h0, ⟨cells, rowAt_keep hr fun k hk => ?_⟩, fun k hk => ?_⟩
    · obtain ⟨q1, q2⟩ := howb j _ (h2 k hk).1 he
      exact hkeep k (h.own _ _ (h2 k hk).1).1 q2
    · obtain ⟨q1, q2⟩ := howb j _ (h2 k hk).1 he
      exact ⟨by simp [setOw, q1, (h2 k hk).1], (h2 k hk).2⟩
  · intro j g2 ds hj
    have he : id ≠ j := fun q => by subst q; simp [setM] at hj
    have he' : ¬ j = id := fun q => he q.symm
    have := h.froz j g2 ds (by simpa [setM, he] using hj)
    simpa [Loc.setBlk, he'] using this

/-! ### append to such a slice -/
theorem run_append_room2 (w : World) (t ty e e2 : TypeId) (i : TypeInfo) (ht : P.underlying t = some (.slice e)) (hi : P.info? e = some i)
    (g sLen sCap : Nat) (cur : Array Value) (hg : w.heap[g]? = some (.cells cur e2 (0, 0)))
    (a : Addr) (k c : Nat) (news : List Value) (hl : news.length = k * i.size) (hnews : ∀ j u, news[j]? = some u → w.cell? (a.add j) = some u) (h1 : ∀ u ∈ news, u.oneCell' = true)
    (hroom : sLen + k ≤ sCap) (hfit : sLen * i.size + news.length ≤ cur.size) :
    (Builtin.append_ #[t, t] ty #[.slice (some ⟨g, 0, none⟩) sLen sCap, .slice (some a) k c]).run P w =
      .ok (.slice (some ⟨g, 0, none⟩) (sLen + k) sCap) (w.setRow g (cur.toList.take (sLen * i.size) ++ news ++ cur.toList.drop (sLen * i.size + news.length)).toArray) := by
  have hf := run_firstCells_some (P := P) w i.size k a k c news hl hnews
  have hst := run_storeCells_at P g (sLen * i.size) e2 news 0 cur w hg (by simpa using hfit) h1
  simp only [Nat.add_zero] at hst
  simp [Builtin.append_, run_underlying ht, sizeOf, typeInfo, hi, Builtin.lenOf, hroom, hf, Addr.add_lit, hst]
theorem getElem?_of_size {α : Type} {a : Array α} {i : Nat} (h : i < a.size) : ∃ v, a[i]? = some v := ⟨a[i], Array.getElem?_eq_getElem h⟩

/-- What is appended: values of cells that lie somewhere, k elements of them. -/
structure Src (m : Mem) (μ : Mu) (L : Loc) (w : World) (vy : Value) (k sz : Nat) (ts : List T) : Prop where
  ex : ∃ (a : Addr) (c : Nat) (news : List Value), vy = .slice (some a) k c ∧ news.length = k * sz ∧ news.length = ts.length ∧ (∀ (j : Nat) (u : Value), news[j]? = some u → w.cell? (a.add j) = some u) ∧
    (∀ (j : Nat) (x : T), ts[j]? = some x → ∃ u, news[j]? = some u ∧ u.oneCell' = true ∧ RepT μ L m x u)
theorem Src.ones {μ : Mu} {L : Loc} {m : Mem} {news : List Value} {ts : List T} (hl : news.length = ts.length) (h : ∀ (j : Nat) (x : T), ts[j]? = some x → ∃ u, news[j]? = some u ∧ u.oneCell' = true ∧ RepT μ L m x u) : ∀ u ∈ news, u.oneCell' = true := by
  intro u hu
  obtain ⟨j, hj⟩ := List.mem_iff_getElem?.1 hu
  have hlt : j < ts.length := by rw [← hl]; exact (List.getElem?_eq_some_iff.1 hj).1
  obtain ⟨u', h1, h2, _⟩ := h j _ (List.getElem?_eq_getElem hlt)
  rw [hj] at h1
  injection h1 with h1
  rw [h1]; exact h2

theorem does_appendV (h : Inv c m μ L ow w) {t ty e : TypeId} {i ie : TyI} (ht : TyOK P t i) (hk : i.k = .slice e) (he : TyOK P e ie) (hz : 0 < ie.size) {id g n k : Nat} {cs ts : List T} {v vy : Value}
    (hid : m id = some (.box g cs)) (hv : RepT μ L m (.view id g ie.size 0 n) v) (hn : n * ie.size = cs.length) (hy : Src m μ L w vy k ie.size ts) (hk0 : 0 < k)
    (hb : (n + k) * ie.bytes ≤ 140737488355328) (hmax : n + k ≤ maxLen) :
    Does P c m μ L w (Builtin.append_ #[t, t] ty #[v, vy]) (.view id (g + 1) ie.size 0 (n + k)) (setM m id (.box (g + 1) (cs ++ ts))) := by
  have hu := ht.kind
  rw [hk] at hu
  simp only [] at hu
  obtain ⟨f, z, hf, hfs, hfb, hfz, hzsz, hzr⟩ := he.info
  have hzs : z.cells.size = f.size := by rw [(hzr μ).sz, hzsz, hfs]
  obtain ⟨ho, vs, e0, hh, hs, hroom, hcell⟩ := h.box id g cs hid
  obtain ⟨a, c', news, rfl, hnl, hnt, hnc, hnr⟩ := hy.ex
  have h1 := Src.ones hnt hnr
  cases hv with
  | @view _ _ _ _ _ cap g' A o hm hg hle hA =>
  rw [hid] at hm
  injection hm with hm
  subst hm
  cases hg
  obtain ⟨hAA, hcap, hncap, hcm⟩ := hA rfl
  rw [Nat.zero_add, ← hroom] at hcap
  have hcells : ∀ (j : Nat) (x : T), (cs ++ ts)[j]? = some x → ∃ u, (vs.toList.take cs.length ++ news)[j]? = some u ∧ u.oneCell' = true ∧ RepT μ L m x u := by
    intro j x hx
    rw [List.getElem?_append] at hx
    have htl : (vs.toList.take cs.length).length = cs.length := by rw [List.length_take, Array.length_toList (xs := vs)]; exact Nat.min_eq_left hs
    split at hx
    · rename_i hj
      obtain ⟨u, q1, q2, q3⟩ := hcell j x hx
      refine ⟨u, ?_, q2, q3⟩
      rw [List.getElem?_append_left (by omega), List.getElem?_take, if_pos hj]
      simpa using q1
    · rename_i hj
      obtain ⟨u, q1, q2, q3⟩ := hnr _ x hx
      refine ⟨u, ?_, q2, q3⟩
      rw [List.getElem?_append_right (by omega), htl]
      exact q1
  have htl : (vs.toList.take cs.length).length = cs.length := by rw [List.length_take, Array.length_toList (xs := vs)]; exact Nat.min_eq_left hs
  by_cases hfits : n + k ≤ cap
  · obtain rfl := hAA (by omega)
    have hfit : n * f.size + news.length ≤ vs.size := by
      rw [hnl, hfs, ← Nat.add_mul]
      exact Nat.le_trans (Nat.mul_le_mul_right _ hfits) hcap
    have hrun := run_append_room2 (P := P) w t ty e e0 f hu hf (L.blk id) n cap vs hh a k c' news (by rw [hfs]; exact hnl) hnc h1 hfits hfit
    rw [hfs, hn] at hrun hfit
    have hsz : (vs.toList.take cs.length ++ news ++ vs.toList.drop (cs.length + news.length)).toArray.size = vs.size := by
      simp only [List.size_toArray, List.length_append, List.length_take, List.length_drop, Array.length_toList]
      omega
    obtain ⟨hi, hst⟩ := h.rebox (g' := g + 1) (cs' := cs ++ ts) hid (Nat.lt_succ_self g) (w1 := w.setRow (L.blk id) (vs.toList.take cs.length ++ news ++ vs.toList.drop (cs.length + news.length)).toArray) rfl rfl rfl (by simp)
      (fun q hq hne => setRow_other w _ q _ hne) (.inl rfl) (setRow_heap w _ vs _ e0 _ hh) (by rw [hsz, List.length_append]; omega) fun j x hx => by
        obtain ⟨u, q1, q2, q3⟩ := hcells j x hx
        refine ⟨u, ?_, q2, q3⟩
        rw [List.getElem?_toArray, List.getElem?_append_left (List.getElem?_eq_some_iff.1 q1).1]
        exact q1
    rw [hsz] at hi hst
    refine ⟨_, _, μ, _, _, hrun, hi, Mu.le_refl _, hst, ?_⟩
    exact .view (setM_self m id _) rfl (Nat.le_refl _) fun _ => ⟨fun _ => by simp [Loc.setBlk], by simp [Loc.setBlk]; exact hcap, hfits, hcm⟩
  · have hfits' : cap < n + k := by omega
    have hge := grownCap_ge w (n + k) cap e
    have hgm : grownCap w (n + k) cap e ≤ maxLen := grownCap_le_maxLen w (n + k) cap e hmax
    have hsmall : n + k ≤ 9223372036854775807 := by simp only [maxLen] at hmax; omega
    have holds : ∀ j u, (vs.toList.take cs.length)[j]? = some u → w.cell? (A.add j) = some u := by
      intro j u hj
      have hj0 := (List.getElem?_eq_some_iff.1 hj).1
      have hcap0 : 0 < cap := by
        rcases Nat.eq_zero_or_pos cap with q | q
        · subst q
          have : n = 0 := by omega
          subst this
          simp only [Nat.zero_mul] at hn
          rw [← hn] at hj0
          simp at hj0
        · exact q
      rw [hAA hcap0]
      rw [add_at, Nat.zero_add, cell_of_row w _ j vs e0 (0, 0) hh]
      rw [List.getElem?_take] at hj
      split at hj
      · simpa using hj
      · cases hj
    have hrun := run_append_grow (P := P) w t ty e f z hu hf hfz A n cap (vs.toList.take cs.length) (by rw [htl, hfs, hn]) holds a k c' news (by rw [hfs]; exact hnl) hnc hfits' (by omega) (growslice_fits hfits' (by rw [hfb]; exact hb))
    have hsz : ((vs.toList.take cs.length).toArray ++ news.toArray ++ Builtin.zeroCells z.cells (grownCap w (n + k) cap e - (n + k))).size = grownCap w (n + k) cap e * ie.size := by
      have htl2 : (vs.toList.take cs.length).length = n * ie.size := htl.trans hn.symm
      simp only [Array.size_append, List.size_toArray, size_zeroCells, hzs, hfs, htl2, hnl, ← Nat.add_mul]
      congr 1
      omega
    obtain ⟨hi, hst⟩ := h.drew.rebox (g' := g + 1) (cs' := cs ++ ts) hid (Nat.lt_succ_self g) (w1 := w.drew.alloc (.cells ((vs.toList.take cs.length).toArray ++ news.toArray ++ Builtin.zeroCells z.cells (grownCap w (n + k) cap e - (n + k))) e)) rfl rfl rfl (by simp)
      (fun q hq hne => Below.heap_alloc w.drew _ q hq) (.inr rfl) (heap_alloc_new w.drew _) (by
        rw [hsz, List.length_append, ← hn, ← hnt, hnl, ← Nat.add_mul]; exact Nat.mul_le_mul_right _ hge) fun j x hx => by
        obtain ⟨u, q1, q2, q3⟩ := hcells j x hx
        refine ⟨u, ?_, q2, q3⟩
        have hj := (List.getElem?_eq_some_iff.1 q1).1
        have e1 : (vs.toList.take cs.length).toArray ++ news.toArray = (vs.toList.take cs.length ++ news).toArray := by simp
        rw [e1, Array.getElem?_append_left (by simpa using hj), List.getElem?_toArray]
        exact q1
    rw [hsz] at hi hst
    refine ⟨_, _, μ, _, _, hrun, hi, Mu.le_refl _, hst, ?_⟩
    exact .view (setM_self m id _) rfl (Nat.le_refl _) fun _ => ⟨fun _ => by simp [Loc.setBlk], by simp [Loc.setBlk], hge, hgm⟩
end
end Go.Pm
