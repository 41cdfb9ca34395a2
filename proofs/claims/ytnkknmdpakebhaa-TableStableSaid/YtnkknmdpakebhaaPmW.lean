/- The abstract machine 'Pm', part W: the operations that only a region with a fixed order may hold. -/
import Derived.Test.YtnkknmdpakebhaaPmK
set_option linter.unusedSimpArgs false
set_option linter.unusedVariables false
namespace Go.Pm
open Go.RowKit
section
variable {P : Program} {c : Ctx} {m : Mem} {μ : Mu} {L : Loc} {ow : Nat → Option Nat} {w : World} {tab : Tab} {ρT : Operand → Option T} {ρ : Operand → Value}
theorem does_litV (h : Inv c m μ L ow w) {t e : TypeId} {i ie : TyI} (ht : TyOK P t i) (hk : i.k = .slice e) (he : TyOK P e ie) (hz : 0 < ie.size) {xs : List D} {vs : List Value} (hv : RepV μ xs vs) (hs : ∀ y ∈ xs, y.sz = ie.size)
    (hle : xs.length * ie.size ≤ 16777216) {d : Nat} (hd : m d = none) :
    Does P c m μ L w (Instr.buildSlice t xs.length ((vs.zipIdx 0).map fun p => (p.2, p.1)).toArray) (.view d 0 ie.size 0 xs.length) (setM m d (.box 0 ((xs.flatMap D.cells).map .d))) := by
  have hrun := run_lit w ht hk he hz hv hs hle
  have hfl := hv.flat
  have hlen : (vs.flatMap fun v => v.cells.toList).length = xs.length * ie.size := hfl.length hs
  obtain ⟨g1, g2⟩ := hfl.gets
  obtain ⟨hi, hst⟩ := h.newBox hd (vs.flatMap fun v => v.cells.toList).toArray e 0 ((xs.flatMap D.cells).map .d) (by simp only [List.length_map, List.size_toArray]; omega) fun j x hx => by
    rw [List.getElem?_map] at hx
    cases hq : (xs.flatMap D.cells)[j]? with
    | none => rw [hq] at hx; cases hx
    | some y =>
      rw [hq] at hx
      simp at hx
      subst hx
      obtain ⟨u, q1, q2, q3⟩ := g2 j y hq
      exact ⟨u, by rw [List.getElem?_toArray]; exact q1, q2, .d q3⟩
  have hmax : xs.length ≤ maxLen := by
    have : xs.length ≤ xs.length * ie.size := Nat.le_mul_of_pos_right _ hz
    simp only [maxLen]; omega
  refine ⟨_, _, μ, _, _, hrun, hi, Mu.le_refl _, hst, ?_⟩
  refine .view (setM_self m d _) rfl (Nat.le_refl _) fun _ => ⟨fun _ => by simp [Loc.setBlk], ?_, Nat.le_refl _, hmax⟩
  simp only [Loc.setBlk, if_true, List.size_toArray, hlen, Nat.zero_add]
  exact Nat.le_refl _
theorem emp_ok {tx : T} {v : Value} (h : RepT μ L m tx v) (he : tx.emp = true) : RepD μ (.slice []) v := by
  unfold T.emp at he
  split at he
  · rename_i h1; exact asSlice_rep h h1
  · cases he
theorem srcT_ok (h : Inv c m μ L ow w) {sz k : Nat} {tx : T} {us : List T} {v : Value} (hx : RepT μ L m tx v) (hs : srcT m sz tx = some (k, us)) (hk : 0 < k) : Src m μ L w v k sz us := by
  unfold srcT at hs
  split at hs
  · rename_i id g s off n
    split at hs
    · rename_i g' cs hm
      split at hs
      · rename_i hc
        obtain ⟨rfl, rfl, hle⟩ := hc
        simp only [Option.some.injEq, Prod.mk.injEq] at hs
        obtain ⟨rfl, rfl⟩ := hs
        exact Src.ofV h hm hx hle hk
      · cases hs
    · cases hs
  · split at hs
    · rename_i ys hys
      split at hs
      · rename_i hall
        simp only [Option.some.injEq, Prod.mk.injEq] at hs
        obtain ⟨rfl, rfl⟩ := hs
        exact Src.ofD h (asSlice_rep hx hys) (fun y hy => by simpa using (List.all_eq_true.1 hall) y hy) (by intro q; subst q; simp at hk)
      · cases hs
    · cases hs
theorem evX_ok (hT : TabOK P tab) (h : Inv c m μ L ow w) (hρ : ∀ x t, ρT x = some t → RepT μ L m t (ρ x)) {o : Oper} {d : Nat} {r : T} {u : Upd} (he : evX tab ρT m d o.op = some (r, u)) :
    Runs P c m μ L w (execOp ρ o) (some r) (m.upd u) := by
  obtain ⟨dst, op, ty, pos, after, guard⟩ := o
  cases op <;> simp only [evX] at he <;> try (cases he; done)
  case makeSlice t l c =>
    split at he
    · rename_i e sz by_ z vw kl l' kc c' ht hl hc hd
      split at he
      · rename_i ie hie
        split at he
        · rename_i hcond
          cases he
          obtain ⟨h1, h2, h3, h4, h5⟩ := hcond
          have hl' := hρ _ _ hl
          have hc' := hρ _ _ hc
          cases hl' with
          | d hl' => cases hc' with
            | d hc' => exact .of (does_make h (hT _ _ ht) rfl (hT _ _ hie) h1 hl' hc' h2 h3 h4 h5 hd)
        · cases he
      · cases he
    · cases he
  case buildSlice t n parts =>
    split at he
    · rename_i e sz by_ z ht
      split at he
      · rename_i ie xs hie hxs hd
        split at he
        · rename_i hc
          cases he
          obtain ⟨hn, hseq, hz, hall, hle⟩ := hc
          subst hn
          have hrv := allT_rep hρ hxs
          have := does_litV (P := P) h (hT _ _ ht) rfl (hT _ _ hie) hz hrv (fun y hy => by simpa using (List.all_eq_true.1 hall) y hy) hle hd
          have hp : (((parts.toList.map (·.2)).map ρ).zipIdx 0).map (fun p => (p.2, p.1)) = (parts.map fun p => (p.1, ρ p.2)).toList := by
            rw [Array.toList_map, seqFrom_zip hseq, List.map_map]
            rfl
          rw [hp] at this
          rw [Array.toArray_toList] at this
          exact .of this
        · cases he
      · cases he
    · cases he
  case call cl =>
    obtain ⟨callee, args, tys⟩ := cl
    obtain ⟨args⟩ := args
    obtain ⟨tys⟩ := tys
    simp only [] at he
    split at he
    · rename_i s x t t'
      split at he
      · rename_i htt
        subst htt
        split at he
        · rename_i e sz by_ z ts tx ht hs hx
          split at he
          · rename_i ie hie
            split at he
            · rename_i k us hsrc
              have hs' := hρ _ _ hs
              have hx' := hρ _ _ hx
              have hgo : ∀ {y : T} {m' : Mem}, Does P c m μ L w (Builtin.append_ #[t, t] ty #[ρ s, ρ x]) y m' → Runs P c m μ L w (execOp ρ ⟨dst, .call ⟨.builtin .append, ⟨[s, x]⟩, ⟨[t, t]⟩⟩, ty, pos, after, guard⟩) (some y) m' := by
                intro y m' hd
                have := Runs.of hd
                simpa [execOp, resolve, invoke, builtin] using this
              split at he
              · split at he
                · rename_i hd
                  split at he
                  · rename_i hc
                    cases he
                    refine hgo ?_
                    have hyr := emp_ok hx' hc.2
                    have hk := (hT _ _ ht).kind
                    simp only [] at hk
                    obtain ⟨f, zz, hf, hfs, hfb, hfz, hzsz, hzr⟩ := (hT _ _ hie).info
                    cases hs' with
                    | d hs' =>
                      generalize hvs : ρ s = vs at hs'
                      generalize hvx : ρ x = vx at hyr
                      cases hs'
                      obtain ⟨B, cap', rfl, _, _, _⟩ := hyr.slice_inv
                      refine .pure h (v := .slice none 0 0) ?_ (.d .nil)
                      cases B <;> simp [Builtin.append_, run_underlying hk, sizeOf, typeInfo, hf, Builtin.lenOf, Builtin.firstCells, loadCells, loadCellsFrom, storeCells]
                  · split at he
                    · rename_i hc
                      cases he
                      refine hgo ?_
                      cases hs' with
                      | d hs' =>
                        generalize hvs : ρ s = vs at hs'
                        cases hs'
                        exact does_appendNV h (hT _ _ ht) rfl (hT _ _ hie) hd (srcT_ok h hx' hsrc hc.1) hc.1 hc.2.1 (by simp only [maxLen]; omega)
                    · cases he
                · cases he
              · rename_i id g sz' off n
                split at he
                · rename_i g' cs hm
                  split at he
                  · rename_i hc
                    obtain ⟨rfl, hc⟩ := hc
                    cases he
                    exact hgo (does_appendV0 h (hT _ _ ht) rfl (hT _ _ hie) hm hs' (emp_ok hx' hc))
                  · split at he
                    · rename_i hc
                      obtain ⟨rfl, rfl, rfl, h3, h4, h5, h6, h7⟩ := hc
                      cases he
                      exact hgo (does_appendV h (hT _ _ ht) rfl (hT _ _ hie) h4 hm hs' h3 (srcT_ok h hx' hsrc h5) h5 h6 (by simp only [maxLen]; omega))
                    · cases he
                · cases he
              · cases he
            · cases he
          · cases he
        · cases he
      · cases he
    · cases he
end
end Go.Pm
