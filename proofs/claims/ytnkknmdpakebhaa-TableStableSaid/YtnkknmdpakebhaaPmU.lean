/- The abstract machine 'Pm', part U: struct values, bytes to strings, what is sealed. -/
import Derived.Test.YtnkknmdpakebhaaPmT
set_option linter.unusedSimpArgs false
set_option linter.unusedVariables false
namespace Go.Pm
open Go.RowKit
section
variable {P : Program} {c : Ctx} {m : Mem} {μ : Mu} {L : Loc} {ow : Nat → Option Nat} {w : World}

/-! ### struct values -/
def fillD (fs : List (Nat × Nat)) : List D → List (Nat × D) → Option (List D)
  | cs, [] => some cs
  | cs, (k, x) :: r => match fs[k]? with
    | some (o, s) => if x.sz = s ∧ o + s ≤ cs.length then fillD fs (cs.take o ++ x.cells ++ cs.drop (o + s)) r else none
    | none => none
/-- Parts with their values. -/
inductive RepP (μ : Mu) : List (Nat × D) → List (Nat × Value) → Prop
  | nil : RepP μ [] []
  | cons {k : Nat} {x : D} {v : Value} {xs : List (Nat × D)} {l : List (Nat × Value)} (h : RepD μ x v) (t : RepP μ xs l) : RepP μ ((k, x) :: xs) ((k, v) :: l)
theorem RepL.append {xs ys : List D} {l r : List Value} (h : RepL μ xs l) (k : RepL μ ys r) : RepL μ (xs ++ ys) (l ++ r) := by
  match h with
  | .nil => exact k
  | .cons h1 h2 t => exact .cons h1 h2 (RepL.append t k)
theorem fill_ok {fs : List (Nat × Nat)} : ∀ {ps : List (Nat × D)} {vs : List (Nat × Value)} {cs ds : List D} {zs : Array Value}, RepP μ ps vs → RepL μ cs zs.toList → fillD fs cs ps = some ds →
    ∃ r, Instr.fill (fs.toArray[·]?) zs vs = some r ∧ RepL μ ds r.toList
  | _, _, cs, ds, zs, .nil, hc, h => by
    simp only [fillD, Option.some.injEq] at h
    subst h
    exact ⟨zs, rfl, hc⟩
  | _, _, cs, ds, zs, .cons (k := k) (x := x) (v := v) hx t, hc, h => by
    unfold fillD at h
    split at h
    · rename_i o s hk
      split at h
      · rename_i hcond
        obtain ⟨h1, h2⟩ := hcond
        have hvs : v.cells.size = s := by rw [hx.sz]; exact h1
        have hzl : zs.size = cs.length := by rw [← hc.length]; simp
        have hp := put_cells v.cells.toList 0 zs o (by simp; omega)
        have hr : RepL μ (cs.take o ++ x.cells ++ cs.drop (o + s)) (v.cells.zipIdx.foldl (fun cs p => cs.setIfInBounds (o + p.2) p.1) zs).toList := by
          rw [← Array.foldl_toList, Array.toList_zipIdx, hp]
          simp only [Array.length_toList, Nat.add_zero, hvs]
          exact ((hc.take o).append hx.cells).append (hc.drop _)
        obtain ⟨r, h3, h4⟩ := fill_ok t hr h
        refine ⟨r, ?_, h4⟩
        have hk' : fs.toArray[k]? = some (o, s) := by simpa using hk
        have c1 : ¬ (v.cells.size ≠ s) := by simp [hvs]
        have c2 : ¬ (o + v.cells.size > zs.size) := by omega
        simp only [Instr.fill, hk', c1, c2, decide_false, Bool.or_self, Bool.false_eq_true, if_false]
        exact h3
      · cases h
    · cases h
theorem does_build (h : Inv c m μ L ow w) {t : TypeId} {i : TyI} (ht : TyOK P t i) {fs : List (Nat × Nat)} (hk : i.k = .struct fs) {ps : List (Nat × D)} {vs : Array (Nat × Value)} (hp : RepP μ ps vs.toList) {zs ds : List D} (hz : i.zero = .agg zs)
    (hd : fillD fs zs ps = some ds) : Does P c m μ L w (Instr.build t vs) (.d (.agg ds)) m := by
  have hu := ht.kind
  rw [hk] at hu
  obtain ⟨a, hu, hm, _⟩ := hu
  obtain ⟨f, z, hf, hfs, hfb, hfz, hzsz, hzr⟩ := ht.info
  have hzc := (hzr μ).cells
  rw [hz] at hzc
  obtain ⟨r, h1, h2⟩ := fill_ok hp hzc hd
  have hb : P.built t vs.toList = some r := by
    unfold Program.built
    rw [hf, hu]
    simp only []
    rw [hfz]
    simp only [hm]
    exact h1
  have hrun := run_build (P := P) w t vs r hb
  have := RepD.agg h2
  rw [Array.toArray_toList] at this
  exact .pure h hrun (.d this)

/-! ### bytes to strings -/
def bytesD : List D → Option (List Int)
  | [] => some []
  | .int .u8 n :: r => (bytesD r).map (n :: ·)
  | _ => none
def ofBytes (ns : List Int) : ByteArray := ns.foldl (fun r n => r.push (UInt8.ofNat n.toNat)) ByteArray.empty
theorem bytesD_ok : ∀ {xs : List D} {ns : List Int}, bytesD xs = some ns → xs = ns.map (D.int .u8)
  | [], ns, h => by simp only [bytesD, Option.some.injEq] at h; subst h; rfl
  | .int k n :: r, ns, h => by
    cases k <;> simp only [bytesD] at h <;> try (cases h; done)
    obtain ⟨ns', h3, h4⟩ := Option.map_eq_some_iff.1 h
    subst h4
    rw [bytesD_ok h3]
    rfl
  | .bool _ :: _, _, h => by simp [bytesD] at h
  | .str _ :: _, _, h => by simp [bytesD] at h
  | .nil :: _, _, h => by simp [bytesD] at h
  | .slice _ :: _, _, h => by simp [bytesD] at h
  | .agg _ :: _, _, h => by simp [bytesD] at h
  | .ptr _ :: _, _, h => by simp [bytesD] at h
  | .fn _ _ :: _, _, h => by simp [bytesD] at h
theorem row_bytes {b : Nat} : ∀ {ns : List Int} {o : Nat}, RepRow μ (ns.map (D.int .u8)) b o → ∀ (j : Nat) (u : Value), (ns.map (Value.int .u8))[j]? = some u → μ ⟨b, o + j, none⟩ = some u
  | [], o, _, j, u, hu => by simp at hu
  | n :: ns, o, h, j, u, hu => by
    cases h with
    | cons h t =>
      cases j with
      | zero =>
        simp at hu
        subst hu
        cases h with
        | one h h1 hm => cases h; exact hm
      | succ j =>
        have := row_bytes t j u (by simpa using hu)
        rwa [show (D.int .u8 n).sz = 1 from rfl, Nat.add_assoc, Nat.add_comm 1 j] at this
theorem bytes_run (h : Inv c m μ L ow w) {s t e : TypeId} {i j ie : TyI} (hs : TyOK P s i) (hk : i.k = .slice e) (he : TyOK P e ie) (hek : ie.k = .int .u8) (ht : TyOK P t j) (htk : j.k = .str) {v : Value} {xs : List D} (hv : RepD μ (.slice xs) v) {ns : List Int} (hb : bytesD xs = some ns) :
    (convert s t v).run P w = .ok (.string (ofBytes ns)) w := by
  have hu := hs.kind
  rw [hk] at hu
  simp only [] at hu
  have hue := he.kind
  rw [hek] at hue
  simp only [] at hue
  have hut := ht.kind
  rw [htk] at hut
  simp only [] at hut
  obtain ⟨A, cap, rfl, hle, hc, hr⟩ := hv.slice_inv
  have hx := bytesD_ok hb
  have hcv : (convert s t (.slice A xs.length cap)).run P w = (Conv.bytesToString (.slice A xs.length cap)).run P w := by
    simp [convert, run_underlying hu, run_underlying hut, run_underlying hue]
  rw [hcv]
  have hlen : xs.length = (ns.map (Value.int .u8)).length := by rw [hx]; simp
  cases A with
  | none =>
    rcases hr with rfl | ⟨b, o, sz, hA, _⟩
    · have : ns = [] := by cases ns with | nil => rfl | cons => simp at hx
      subst this
      simp [Conv.bytesToString, ofBytes]
    · cases hA
  | some a =>
    refine run_bytesToString w a _ cap ns ?_
    rw [hlen]
    refine run_loadCells_list (P := P) (w := w) a _ fun j u hu' => ?_
    rcases hr with rfl | ⟨b, o, sz, hA, hrow, _⟩
    · have : ns = [] := by cases ns with | nil => rfl | cons => simp at hx
      subst this
      simp at hu'
    · injection hA with hA
      subst hA
      rw [hx] at hrow
      rw [add_at]
      exact h.mu _ _ (row_bytes hrow j u hu')

/-! ### what is sealed -/
theorem RepC.append_inv {b : Nat} : ∀ {xs ys : List D} {o : Nat}, RepC μ (xs ++ ys) b o → RepC μ xs b o ∧ RepC μ ys b (o + xs.length)
  | [], ys, o, h => ⟨.nil _ _, h⟩
  | x :: xs, ys, o, .cons h h1 hm t => by
    obtain ⟨p, q⟩ := RepC.append_inv t
    exact ⟨.cons h h1 hm p, by rw [List.length_cons, Nat.add_comm xs.length 1, ← Nat.add_assoc]; exact q⟩
theorem RepC.row {b sz : Nat} : ∀ {xs : List D} {o : Nat}, (∀ x ∈ xs, x.sz = sz) → RepC μ (xs.flatMap D.cells) b o → RepRow μ xs b o
  | [], o, _, _ => .nil _ _
  | x :: xs, o, hs, h => by
    rw [List.flatMap_cons] at h
    obtain ⟨p, q⟩ := h.append_inv
    refine .cons ?_ (by rw [D.cells_length] at q; exact q.row fun y hy => hs y (List.mem_cons_of_mem _ hy))
    cases x with
    | agg cs => exact .agg p
    | _ => cases p with | cons h h1 hm t => exact .one h h1 hm
theorem seal_view (h : Inv c m μ L ow w) {v : Value} {id g sz n : Nat} (hv : RepT μ L m (.view id g sz 0 n) v) {xs : List D} (hm : m id = some (.froz g (xs.flatMap D.cells))) (hs : ∀ x ∈ xs, x.sz = sz) (hn : n = xs.length) : RepD μ (.slice xs) v := by
  subst hn
  cases hv with
  | view h0 hg hle hA =>
    rw [hm] at h0
    injection h0 with h0
    subst h0
    cases hg
    obtain ⟨hAA, _, hncap, hcm⟩ := hA rfl
    rcases Nat.eq_zero_or_pos xs.length with q | q
    · have : xs = [] := List.eq_nil_of_length_eq_zero q
      subst this
      exact .slice0 _ _ hcm
    · obtain rfl := hAA (by omega)
      exact RepD.slice_mk ((h.froz id g _ hm).row hs) hs hncap hcm
end
end Go.Pm
