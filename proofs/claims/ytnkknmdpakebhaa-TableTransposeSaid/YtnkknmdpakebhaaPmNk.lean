/-
  What is proved: the law TableTranspose of package ndjqlaw09 answers true at every input, and leaves its arguments as they were.
  Conditions: none beyond the given statement's own.
-/
import Derived.Test.YtnkknmdpakebhaaRows
import Derived.Test.YtnkknmdpakebhaaPmNj
import Derived.WalkKit
import Derived.ProofKit
import Derived.OpenShut
import Derived.ShutString
import Derived.ChangeOld
import Derived.Below
namespace Go.Proofs.Ytnkknmdpakebhaa
open Go Go.Pm
attribute [local irreducible] WC WOps WOpsG
attribute [local go_sem] WOps WOp callOf gtmp gval gvalT evOp evBuiltin binT St.ev constT St.m envOf Go.Pm.look St.upd St.putO St.put St.set allT allP T.toD unD1 T.cells T.asSlice D.cells D.sz eqTy binD unD cvD cv2 fillD ldT ldD TyI.agg allD splice isSome' cut bnd resT resOf Done Option.all_some Option.all_none Option.getD_some Option.getD_none Option.bind_some Option.bind_none Option.map_some Option.map_none List.map List.map_cons List.map_nil List.cons_append List.nil_append List.append_nil List.take_succ_cons List.drop_succ_cons List.take_zero List.drop_zero List.take_nil List.drop_nil List.head?_cons List.length_cons List.length_nil List.getElem?_cons_zero List.getElem?_cons_succ List.getElem?_toArray List.all_cons List.all_nil ite_true ite_false if_true if_false Bool.not_false Bool.not_true decide_true decide_false and_true true_and and_self false_and and_false Bool.and_true Bool.true_and Bool.or_true Bool.true_or List.size_toArray seqFrom beq_self_eq_true BEq.rfl eq_self Nat.succ_ne_self false_or or_false Nat.zero_add Nat.add_zero Nat.not_lt_zero Nat.one_ne_zero tab2 tab3 tab4 tab5 tab9 tab22 tab24 tab25 tab27 tab30 tab54 tab57 tab78 tab85
open Go.ChangeShapes Go.WideShapes Go.ChangeAt Go.RowKit
set_option linter.unusedVariables false
set_option linter.unusedSimpArgs false
theorem own : ownKnob Try.prog.godebug = none := by kernel_rfl
theorem laidOut : laidOutB Try.prog = true := by kernel_rfl
/-- What the walk is told of a slice of integers that came in. -/
def IsRow (k : IntKind) (w : World) (a : Option Addr) (len cap : Nat) (zs : List Int) : Prop :=
  (a = none ∧ len = 0 ∧ cap = 0 ∧ zs = []) ∨
  ∃ x, a = some x ∧ len ≤ cap ∧ cap ≤ maxLen ∧ zs.length = cap ∧ (∀ i, i < zs.length → w.cell? (x.add i) = some (.int k (zs.getD i 0))) ∧ ∀ n ∈ zs, (Lit.int k n).wf = true
theorem row_rep {k : IntKind} {w : World} {b : Nat} : ∀ (l : List Int) (o : Nat), (∀ i, i < l.length → w.cell? ⟨b, o + i, none⟩ = some (.int k (l.getD i 0))) → RepRow (fun a => w.cell? a) (l.map (D.int k)) b o
  | [], o, _ => .nil b o
  | z :: r, o, h => by
    refine .cons (.one (.int k z) rfl ?_) ?_
    · have := h 0 (by simp)
      simpa using this
    · refine row_rep r (o + 1) (fun i hi => ?_)
      have := h (i + 1) (by simpa using hi)
      simp only [List.getD_cons_succ] at this
      rw [show o + 1 + i = o + (i + 1) by omega]
      exact this
theorem isRow_rep {k : IntKind} {w : World} {a : Option Addr} {len cap : Nat} {zs : List Int} (h : IsRow k w a len cap zs) : RepD (fun a => w.cell? a) (.slice ((zs.take len).map (D.int k))) (.slice a len cap) := by
  rcases h with ⟨rfl, rfl, rfl, rfl⟩ | ⟨x, rfl, hl, hm, hz, hcell, _⟩
  · exact .slice0 none 0 (by decide)
  · cases len with
    | zero => exact .slice0 _ _ hm
    | succ n =>
      obtain ⟨b, off, rfl, hc⟩ := ints_at hcell (by omega)
      cases hzs : zs.take (n + 1) with
      | nil =>
        have := congrArg List.length hzs
        rw [List.length_take, List.length_nil] at this
        omega
      | cons z r =>
        have hlen : (z :: r).length = n + 1 := by rw [← hzs, List.length_take]; omega
        have hrow := row_rep (k := k) (w := w) (b := b) (zs.take (n + 1)) off (fun i hi => by
          have hi' : i < zs.length := by rw [List.length_take] at hi; omega
          have hin : i < n + 1 := by rw [List.length_take] at hi; omega
          have := hc i hi'
          have hg : (zs.take (n + 1)).getD i 0 = zs.getD i 0 := by simp [List.getD, List.getElem?_take, hin]
          rw [hg]
          exact this)
        rw [hzs] at hrow
        have hs : ∀ y ∈ (z :: r).map (D.int k), y.sz = 1 := by
          intro y hy
          obtain ⟨q, _, rfl⟩ := List.mem_map.1 hy
          rfl
        have := RepD.slice (cap := cap) hrow hs (by rw [List.length_cons, List.length_map]; simp at hlen; omega) hm
        rw [List.length_cons, List.length_map] at this
        simp only [List.length_cons] at hlen
        rw [hlen] at this
        exact this
theorem calls_true {g : FuncId} {fn : Func} {cd : Code} {ys : List D} {vs : List Value} {w : World} (hf : X0.P.funcs[g]? = some fn) (hn : (fn.name == "runtime.NumGoroutine") = false) (hb : fn.body = some cd)
    (hs : Pm.Spec X0.P g ys [.bool true]) (hv : RepV (fun a => w.cell? a) ys vs) : Calls Try.prog g vs.toArray w fun e w' => e = .returned (.bool true) ∧ Below w.heap.size w w' := by
  have h := hs w (fun a => w.cell? a) vs (fun a u h => h) hv
  rcases h with ⟨_, h⟩ | ⟨v, h, _⟩
  · refine h.mono fun e w' hl => ?_
    obtain ⟨v, μ', rfl, hr, _, _, _, hfr⟩ := hl
    cases hr with
    | one hr =>
      cases hr
      exact ⟨rfl, hfr.os, hfr.tape, hfr.output, hfr.size, fun k hk => hfr.block k hk (fun q => q)⟩
    | many hn _ => exact absurd rfl hn
  · exfalso
    have hn' : fn.name ≠ "runtime.NumGoroutine" := by simpa using hn
    simp [callFunc, hf, hn', hb, mark] at h
set_option maxRecDepth 100000 in
theorem tableTranspose_lifted (os : Os) (started : os.Started) (H : Type) (enc : TypeId × Value → H) :
    ReturnsInHanded {} Try.checked os 5 .any (Rows.tableTransposeSpec.pre6 enc Try.prog Try.f5 Rows.tableTransposeRow.domain false) (Rows.tableTransposeSpec.post enc Try.prog Try.f5 false true false false) := by
  refine returnsInHanded_of_change (C := Try.checked) own started (by kernel_rfl) Try.func5
    (ChangeSpec.witness6 (enc := enc) (C := Try.checked) false ⟨#[], #[.slice none 0 0, .int .i64 0], []⟩ 8 (by kernel_rfl) (by kernel_rfl) (by kernel_rfl) (by kernel_rfl)) ?_
  intro W base args ds gs before hval0 hW hcnd _
  have hval : ∀ (j : Nat) t v, Try.f5.params[j]? = some t → args[j]? = some v → Value.okWide Try.prog W .any base t v := hval0
  have hW' := hW
  obtain ⟨p, q, hA0, hV, rfl, hfz, hnd⟩ := hW
  have hA : DataW.TrodAll enc Try.prog W 0 (fun _ => true) true Try.f5.params.toList args.toList ds p := hA0
  rw [Try.params5] at hA hval
  obtain ⟨v0, vs0, d0, ds0, p0, q0, hargs, rfl, rfl, h0, r0⟩ := trodAll_cons hA
  obtain ⟨v1, vs1, d1, ds1, p1, q1, rfl, rfl, rfl, h1, r1⟩ := trodAll_cons r0
  obtain ⟨rfl, rfl, rfl⟩ := trodAll_nil r1
  obtain rfl : args = #[v0, v1] := by cases args; simp_all
  obtain ⟨rfl, rfl⟩ := trodVars_none hV
  obtain ⟨a0, len0, cap0, rfl⟩ := okWide_slice Try.underlying22 (hval 0 22 v0 rfl rfl)
  have k0 := h0
  have lt0 : ∀ x ∈ p0, x.block < W.heap.size := by obtain ⟨m, hm⟩ := k0; exact DataW.trod_lt m _ _ _ hm
  obtain ⟨z0, w0⟩ : ∃ zs, IsRow .i64 W a0 len0 cap0 zs := by
    obtain ⟨fuel, hf⟩ := h0
    rcases open_ints Try.underlying22 Try.underlying3 (by kernel_rfl) hf with ⟨hcs, _⟩ | ⟨x, l, c, zs, hcs, _, hl, hm, hz, _, hcell, hwz⟩
    · simp [Value.cells] at hcs
      obtain ⟨rfl, rfl, rfl⟩ := hcs
      exact ⟨[], .inl ⟨rfl, rfl, rfl, rfl⟩⟩
    · simp [Value.cells] at hcs
      obtain ⟨rfl, rfl, rfl⟩ := hcs
      exact ⟨zs, .inr ⟨_, rfl, hl, hm, by simpa using hz, hcell, hwz⟩⟩
  obtain ⟨a1, rfl, rfl, rfl, w1⟩ := open_int Try.underlying3 (hval 1 3 v1 rfl rfl) h1
  clear hA0 hval0
  refine (calls_true fn5 (by kernel_rfl) rfl (transpose_walk (z0.take len0) a1) (.cons (isRow_rep w0) (.cons (.int .i64 a1) .nil))).mono fun e W' ⟨he, bel⟩ => ?_
  subst he
  exact ⟨_, rfl, _, _, _, [], _, [], hW', trodAll_mk1 (shut_bool Try.underlying4 _), (trodAll_cons_mk (Below.trod laidOut (by kernel_rfl) (of_decide_eq_true (by kernel_rfl)) k0 bel lt0) (trodAll_cons_mk (shut_int Try.underlying3 w1) trodAll_mk0)), rfl, bel.frame _, fun h => by cases h⟩

theorem tableTranspose_over : Rows.tableTransposeRow.holds Try.pinned (OpenSpec.ofChange Rows.tableTransposeSpec) :=
  OpenClaim.holds_of_wide 5 Try.f5 rfl rfl rfl rfl rfl rfl rfl ⟨rfl, rfl, rfl, rfl, rfl⟩ rfl rfl rfl rfl rfl (by kernel_rfl) Try.func5 (by kernel_rfl)
    (of_decide_eq_true (by kernel_rfl)) (by unfold Func.isWrapper; first | (rw [if_pos (by decide +kernel)]; kernel_rfl) | (rw [if_neg (by decide +kernel)]; exact ⟨rfl, rfl⟩))
    (fun os started H enc _ => tableTranspose_lifted os started H enc)

/-- The statement. -/
theorem tableTranspose_holds : Rows.TableTransposeSaid := tableTranspose_over
#print axioms tableTranspose_holds
end Go.Proofs.Ytnkknmdpakebhaa
