/- The abstract machine 'Pm', part W3: splitting at guards, meeting again behind a region. -/
import Derived.Test.YtnkknmdpakebhaaPmW2
set_option linter.unusedSimpArgs false
set_option linter.unusedVariables false
namespace Go.Pm
open Go.RowKit
section
variable {x : X} {N : Nat}
theorem gval_cond {ops : Array Oper} {σ : St} {j : Nat} : True := trivial
/-- A guard that nobody knows: both ways. -/
theorem wo_gST {ref : Bool} {ops : Array Oper} {o : Oper} {r : List Oper} {K : St → Prop} {j : Nat} {b : Bool} {σ : St} (hg : o.guard = some (j, true)) (hb : gval ops σ.env j = some (some b)) (hd : o.dst.all (· < N) = true)
    (h1 : b = true → WOps x N ref ops ({ o with guard := none } :: r) σ K) (h2 : b = false → WOps x N ref ops r (σ.putO o.dst .un) K) : WOps x N ref ops (o :: r) σ K :=
  wo_guard hg hb (fun e => h1 (by simpa using e)) (fun e => ⟨hd, h2 (by simpa using e)⟩)
theorem wo_gSF {ref : Bool} {ops : Array Oper} {o : Oper} {r : List Oper} {K : St → Prop} {j : Nat} {b : Bool} {σ : St} (hg : o.guard = some (j, false)) (hb : gval ops σ.env j = some (some b)) (hd : o.dst.all (· < N) = true)
    (h1 : b = true → WOps x N ref ops r (σ.putO o.dst .un) K) (h2 : b = false → WOps x N ref ops ({ o with guard := none } :: r) σ K) : WOps x N ref ops (o :: r) σ K :=
  wo_guard hg hb (fun e => h2 (by simpa using e)) (fun e => ⟨hd, h1 (by simpa using e)⟩)
variable {σ σ1 σc : St} {K : Exit → St → Prop}
/-- Operations up to a place where ways meet. -/
theorem wg_cut {ops : Array Oper} {l l1 l2 : List Oper} {K : St → Prop} (k : Nat) (σc : St) (e1 : l.take k = l1) (e2 : l.drop k = l2) (h : WOps x N true ops l1 σ (fun σ' => Gh x.refs σ' σc)) (h2 : WOpsG x N ops l2 σc K) (hne : l2 ≠ []) : WOpsG x N ops l σ K := by
  rw [← List.take_append_drop k l, e1, e2]
  exact WOpsG_app (WOps_mono' (fun σ' h' => ⟨σc, h', h2⟩) h) hne
theorem wg_last {ops : Array Oper} {l : List Oper} {K : St → Prop} (h : WOps x N true ops l σ K) : WOpsG x N ops l σ K := WOpsG_of h
/-- A region that decides what follows; its ways meet again. With ghost steps inside. -/
theorem wc_regCondG {id : Nat} {ops : Array Oper} {q : Operand} {a b c : Code} (t : Bool) (σc : St) (h : WOpsG x N ops ops.toList σ (fun σ' => σ'.ev q = some (.d (.bool t)) ∧ Gh x.refs σ' σc))
    (h1 : t = true → ∀ σ', Gh x.refs σ' σc → WC x N (.seq a c) σ' K) (h2 : t = false → ∀ σ', Gh x.refs σ' σc → WC x N (.seq b c) σ' K) : WC x N (.seq (.region id ops false) (.seq (.cond q a b) c)) σ K := by
  refine Or.inr (And.intro rfl ?_)
  refine WOpsG_mono (fun σ' e => ?_) h
  exact wc_condThen e.1 (fun e' => h1 e' σ' e.2) (fun e' => h2 e' σ' e.2)
theorem wc_regCondEndG {id : Nat} {ops : Array Oper} {q : Operand} {a b : Code} (t : Bool) (σc : St) (h : WOpsG x N ops ops.toList σ (fun σ' => σ'.ev q = some (.d (.bool t)) ∧ Gh x.refs σ' σc))
    (h1 : t = true → ∀ σ', Gh x.refs σ' σc → WC x N a σ' K) (h2 : t = false → ∀ σ', Gh x.refs σ' σc → WC x N b σ' K) : WC x N (.seq (.region id ops false) (.cond q a b)) σ K := by
  refine Or.inr (And.intro rfl ?_)
  refine WOpsG_mono (fun σ' e => ?_) h
  exact wc_cond e.1 (fun e' => h1 e' σ' e.2) (fun e' => h2 e' σ' e.2)
theorem wc_regG {id : Nat} {ops : Array Oper} {b : Code} (h : WOpsG x N ops ops.toList σ (fun σ' => WC x N b σ' K)) : WC x N (.seq (.region id ops false) b) σ K := by
  refine Or.inr (And.intro rfl ?_)
  exact h
theorem wc_regGLast {id : Nat} {ops : Array Oper} (h : WOpsG x N ops ops.toList σ (K .normal)) : WC x N (.region id ops false) σ K := by
  refine Or.inr (And.intro rfl ?_)
  exact h
/-- A region that decides what follows what follows; its ways meet again. -/
theorem wc_regCond {id : Nat} {ops : Array Oper} {q : Operand} {a b c : Code} (t : Bool) (σc : St) (hg : Gh x.refs σ σ1) (h : WOps x N true ops ops.toList σ1 (fun σ' => σ'.ev q = some (.d (.bool t)) ∧ Gh x.refs σ' σc))
    (h1 : t = true → ∀ σ', Gh x.refs σ' σc → WC x N (.seq a c) σ' K) (h2 : t = false → ∀ σ', Gh x.refs σ' σc → WC x N (.seq b c) σ' K) : WC x N (.seq (.region id ops false) (.seq (.cond q a b) c)) σ K := by
  refine Or.inl (And.intro (fun q => by cases q) (Exists.intro σ1 (And.intro hg ?_)))
  refine WOps_mono' (fun σ' e => ?_) h
  exact wc_condThen e.1 (fun e' => h1 e' σ' e.2) (fun e' => h2 e' σ' e.2)
/-- The same, where nothing follows the condition. -/
theorem wc_regCondEnd {id : Nat} {ops : Array Oper} {q : Operand} {a b : Code} (t : Bool) (σc : St) (hg : Gh x.refs σ σ1) (h : WOps x N true ops ops.toList σ1 (fun σ' => σ'.ev q = some (.d (.bool t)) ∧ Gh x.refs σ' σc))
    (h1 : t = true → ∀ σ', Gh x.refs σ' σc → WC x N a σ' K) (h2 : t = false → ∀ σ', Gh x.refs σ' σc → WC x N b σ' K) : WC x N (.seq (.region id ops false) (.cond q a b)) σ K := by
  refine Or.inl (And.intro (fun q => by cases q) (Exists.intro σ1 (And.intro hg ?_)))
  refine WOps_mono' (fun σ' e => ?_) h
  exact wc_cond e.1 (fun e' => h1 e' σ' e.2) (fun e' => h2 e' σ' e.2)
/-- A region and what each of its ways leads to. -/
theorem wc_regThen {id : Nat} {ops : Array Oper} {b : Code} (hg : Gh x.refs σ σ1) (h : WOps x N true ops ops.toList σ1 (fun σ' => WC x N b σ' K)) : WC x N (.seq (.region id ops false) b) σ K := by
  refine Or.inl (And.intro (fun q => by cases q) (Exists.intro σ1 (And.intro hg ?_)))
  exact h
theorem wc_lastG {id : Nat} {ops : Array Oper} {σ2 : St} (hg : Gh x.refs σ σ1) (h : WOps x N true ops ops.toList σ1 (· = σ2)) (hk : K .normal σ2) : WC x N (.region id ops false) σ K := by
  refine Or.inl (And.intro (fun q => by cases q) (Exists.intro σ1 (And.intro hg ?_)))
  exact WOps_mono' (fun σ' e => by subst e; exact hk) h
theorem wc_ghostD {id : Nat} {ops : Array Oper} {b : Code} {σ2 : St} (hd : drawOK ops = true) (hg : Gh x.refs σ σ1) (h : WOps x N false ops ops.toList σ1 (· = σ2)) (hk : WC x N b σ2 K) : WC x N (.seq (.region id ops true) b) σ K := by
  refine Or.inl (And.intro (fun _ => hd) (Exists.intro σ1 (And.intro hg ?_)))
  exact WOps_mono' (fun σ' e => by subst e; exact hk) h
theorem loop_nextG {id : Nat} {c : Code} {I : Nat → St → Prop} {n : Nat} (n' : Nat) {σ2 : St} (hn : n' < n) (hg0 : Gh x.refs σ σ1) (hg : Gh x.refs σ1 σ2) (hI : I n' σ2) : LoopK x N id c I n K .normal σ := ⟨n', σ2, hn, .trans hg0 hg, hI⟩
/-- A loop behind which nothing comes. -/
def LoopE (x : X) (N id : Nat) (I : Nat → St → Prop) (n : Nat) (K : Exit → St → Prop) : Exit → St → Prop := fun e σ' => match e with
  | .normal => ∃ n' σ'', n' < n ∧ Gh x.refs σ' σ'' ∧ I n' σ''
  | .exit id' => if id' = id then K .normal σ' else K (.exit id') σ'
  | e => K e σ'
theorem wc_loopLast {id : Nat} {b : Code} (I : Nat → St → Prop) {σ0 : St} (n : Nat) (hg : Gh x.refs σ σ0) (hI : I n σ0) (hb : ∀ n σ, I n σ → WC x N b σ (LoopE x N id I n K)) : WC x N (.block id (.loop b)) σ K := by
  show ∃ (I : Nat → St → Prop), _
  refine ⟨I, ⟨n, σ0, hg, hI⟩, fun n σ hI => WC_mono (fun e σ' h' => ?_) (hb n σ hI)⟩
  cases e with
  | normal => exact h'
  | exit id' => exact h'
  | _ => exact h'
theorem loopE_exit {id : Nat} {I : Nat → St → Prop} {n : Nat} (h : K .normal σ) : LoopE x N id I n K (.exit id) σ := by unfold LoopE; simpa using h
theorem loopE_next {id : Nat} {I : Nat → St → Prop} {n : Nat} (n' : Nat) (hn : n' < n) (hg : Gh x.refs σ σ1) (hI : I n' σ1) : LoopE x N id I n K .normal σ := ⟨n', σ1, hn, hg, hI⟩
/-- A block behind which nothing comes. -/
def BlkE (x : X) (N id : Nat) (K : Exit → St → Prop) : Exit → St → Prop := fun e σ' => match e with
  | .exit id' => if id' = id then K .normal σ' else K (.exit id') σ'
  | e => K e σ'
theorem wc_blockLast {id : Nat} {b : Code} (h : WC x N b σ (BlkE x N id K)) : WC x N (.block id b) σ K := by
  show WC x N b σ _
  refine WC_mono (fun e σ' h' => ?_) h
  cases e with
  | exit id' => exact h'
  | normal => exact h'
  | _ => exact h'
theorem blkE_normal {id : Nat} (h : K .normal σ) : BlkE x N id K .normal σ := h
end
end Go.Pm
namespace Go.Pm
theorem allD_d : ∀ xs : List D, allD (xs.map T.d) = some xs
  | [] => rfl
  | x :: xs => by simp [allD, allD_d xs, T.toD, unD1]
theorem objsAt_one {m : Mem} {xs : List D} (h : m 900000 = some (.box 0 (xs.map T.d))) : objsAt m 0 1 = some [xs] := by
  simp [objsAt, oid, h, allD_d]
theorem boxes_one {m : Mem} {id g : Nat} {xs : List D} (h : m id = some (.box g (xs.map T.d))) : boxesOf m [id] = some [xs] := by
  simp [boxesOf, h, allD_d]
theorem SpecR.wf {P : Program} {g : FuncId} {as : List A} {css css' : List (List D)} {rs : List R} (h : (∀ x, A.d x ∈ as → x.wf) → SpecR P g as css rs css') : SpecR P g as css rs css' := by
  intro w0 μ0 bs rm vs h1 h2 h3 h4
  refine h ?_ w0 μ0 bs rm vs h1 h2 h3 h4
  clear h
  induction h4 with
  | nil => simp
  | cons h t ih =>
    intro x hx
    rcases List.mem_cons.1 hx with e | hx
    · subst e
      cases h with
      | d h => exact h.wf
    · exact ih x hx
end Go.Pm
