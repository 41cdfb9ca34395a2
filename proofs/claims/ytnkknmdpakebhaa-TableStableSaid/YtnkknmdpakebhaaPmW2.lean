/- The abstract machine 'Pm', part W2: rules to step with. -/
import Derived.Test.YtnkknmdpakebhaaPmV2
set_option linter.unusedSimpArgs false
set_option linter.unusedVariables false
namespace Go.Pm
open Go.RowKit
section
variable {x : X} {N : Nat}
theorem WOp_mono' {ref : Bool} {o : Oper} {σ : St} {K K' : St → Prop} (hk : ∀ σ, K σ → K' σ) (h : WOp x N ref o σ K) : WOp x N ref o σ K' := by
  unfold WOp at h ⊢
  split
  · rename_i f args hc
    rw [hc] at h
    simp only [] at h
    rcases h with ⟨g, caps, ys, zs, rs, h1, h2, h3, h4, h5, h6⟩ | ⟨h0, g, caps, as, zs, ids, css, rs, css', h1, h2, h3, h4, h5, h6, h7, h8, h9⟩
    · exact .inl ⟨g, caps, ys, zs, rs, h1, h2, h3, h4, h5, hk _ h6⟩
    · exact .inr ⟨h0, g, caps, as, zs, ids, css, rs, css', h1, h2, h3, h4, h5, h6, h7, h8, hk _ h9⟩
  · rename_i hc
    rw [hc] at h
    simp only [] at h
    split
    · rename_i y u he
      rw [he] at h
      exact ⟨h.1, hk _ h.2⟩
    · rename_i u he
      rw [he] at h
      exact ⟨h.1, hk _ h.2⟩
    · rename_i he
      rw [he] at h
      obtain ⟨h0, h⟩ := h
      refine ⟨h0, ?_⟩
      split
      · rename_i y u hx
        rw [hx] at h
        exact ⟨h.1, hk _ h.2⟩
      · rename_i hx
        rw [hx] at h
        exact h
theorem WOps_mono' {ref : Bool} {ops : Array Oper} {K K' : St → Prop} (hk : ∀ σ, K σ → K' σ) : ∀ {l : List Oper} {σ : St}, WOps x N ref ops l σ K → WOps x N ref ops l σ K'
  | [], σ, h => hk _ h
  | o :: r, σ, h => by
    unfold WOps at h ⊢
    split
    · rename_i hg
      rw [hg] at h
      exact WOp_mono' (fun σ' h' => WOps_mono' hk h') h
    · rename_i j want hg
      rw [hg] at h
      simp only [] at h
      split
      · rename_i b hb
        rw [hb] at h
        simp only [] at h
        split
        · rename_i e; rw [if_pos e] at h; exact WOp_mono' (fun σ' h' => WOps_mono' hk h') h
        · rename_i e; rw [if_neg e] at h; exact ⟨h.1, WOps_mono' hk h.2⟩
      · rename_i hne
        rw [hne] at h
        exact h
theorem WOpsG_mono {ops : Array Oper} {K K' : St → Prop} (hk : ∀ σ, K σ → K' σ) : ∀ {l : List Oper} {σ : St}, WOpsG x N ops l σ K → WOpsG x N ops l σ K'
  | [], σ, h => hk _ h
  | o :: r, σ, ⟨σ1, hg, h⟩ => ⟨σ1, hg, WOps_mono' (fun σ' h' => WOpsG_mono hk h') h⟩
/-- Operations up to a place where ways meet. -/
theorem WOpsG_app {ops : Array Oper} {K : St → Prop} : ∀ {l1 l2 : List Oper} {σ : St}, WOps x N true ops l1 σ (fun σ' => ∃ σ1, Gh x.refs σ' σ1 ∧ WOpsG x N ops l2 σ1 K) → l2 ≠ [] → WOpsG x N ops (l1 ++ l2) σ K
  | [], [], σ, _, h => absurd rfl h
  | [], o :: r, σ, h, _ => by
    obtain ⟨σ1, hg, σ2, hg2, h⟩ := h
    exact ⟨σ2, .trans hg hg2, h⟩
  | o :: l1, l2, σ, h, h2 => by
    refine ⟨σ, .refl _, ?_⟩
    unfold WOps at h ⊢
    have key : ∀ σ', WOps x N true ops l1 σ' (fun σ' => ∃ σ1, Gh x.refs σ' σ1 ∧ WOpsG x N ops l2 σ1 K) → WOps x N true ops [] σ' (fun σ' => WOpsG x N ops (l1 ++ l2) σ' K) := fun σ' h' => WOpsG_app h' h2
    split
    · rename_i hg
      rw [hg] at h
      exact WOp_mono' key h
    · rename_i j want hg
      rw [hg] at h
      simp only [] at h
      split
      · rename_i b hb
        rw [hb] at h
        simp only [] at h
        split
        · rename_i e; rw [if_pos e] at h; exact WOp_mono' key h
        · rename_i e; rw [if_neg e] at h; exact ⟨h.1, key _ h.2⟩
      · rename_i hne
        rw [hne] at h
        exact h
theorem WOpsG_of {ops : Array Oper} {K : St → Prop} {l : List Oper} {σ : St} (h : WOps x N true ops l σ K) : WOpsG x N ops l σ K := by
  induction l generalizing σ with
  | nil => exact h
  | cons o r ih =>
    refine ⟨σ, .refl _, ?_⟩
    unfold WOps at h ⊢
    have key : ∀ σ', WOps x N true ops r σ' K → WOps x N true ops [] σ' (fun σ' => WOpsG x N ops r σ' K) := fun σ' h' => ih h'
    split
    · rename_i hg
      rw [hg] at h
      exact WOp_mono' key h
    · rename_i j want hg
      rw [hg] at h
      simp only [] at h
      split
      · rename_i b hb
        rw [hb] at h
        simp only [] at h
        split
        · rename_i e; rw [if_pos e] at h; exact WOp_mono' key h
        · rename_i e; rw [if_neg e] at h; exact ⟨h.1, key _ h.2⟩
      · rename_i hne
        rw [hne] at h
        exact h
theorem WC_mono : ∀ {cd : Code} {σ : St} {K K' : Exit → St → Prop}, (∀ e σ, K e σ → K' e σ) → WC x N cd σ K → WC x N cd σ K' := by
  intro cd
  induction cd with
  | skip => intro σ K K' hk h; exact hk _ _ h
  | region id ops draw =>
    intro σ K K' hk h
    rcases h with ⟨hd, σ1, hg, h⟩ | ⟨rfl, h⟩
    · exact .inl ⟨hd, σ1, hg, WOps_mono' (fun σ => hk _ σ) h⟩
    · exact .inr ⟨rfl, WOpsG_mono (fun σ => hk _ σ) h⟩
  | seq a b iha ihb =>
    intro σ K K' hk h
    refine iha (fun e σ' h' => ?_) h
    cases e with
    | normal => exact ihb hk h'
    | _ => exact hk _ _ h'
  | cond q a b iha ihb =>
    intro σ K K' hk h
    rcases h with ⟨t, h1, h2, h3⟩ | ⟨h1, h2, h3⟩
    · exact .inl ⟨t, h1, fun q => iha hk (h2 q), fun q => ihb hk (h3 q)⟩
    · exact .inr ⟨h1, iha hk h2, ihb hk h3⟩
  | block id b ih =>
    intro σ K K' hk h
    refine ih (fun e σ' h' => ?_) h
    cases e with
    | exit id' =>
      simp only [] at h' ⊢
      split
      · rename_i q; rw [if_pos q] at h'; exact hk _ _ h'
      · rename_i q; rw [if_neg q] at h'; exact hk _ _ h'
    | _ => exact hk _ _ h'
  | loop b ih =>
    intro σ K K' hk h
    obtain ⟨I, h0, h1⟩ := h
    refine ⟨I, h0, fun n σ hI => ih (fun e σ' h' => ?_) (h1 n σ hI)⟩
    cases e with
    | normal => exact h'
    | _ => exact hk _ _ h'
  | exit id => intro σ K K' hk h; exact hk _ _ h
  | ret => intro σ K K' hk h; exact hk _ _ h
  | rangeFunc => intro σ K K' hk h; exact h.elim
  | scope => intro σ K K' hk h; exact h.elim
  | label => intro σ K K' hk h; exact h.elim
  | goto => intro σ K K' hk h; exact h.elim
  | refuse => intro σ K K' hk h; exact h.elim
variable {σ σ1 σ2 : St} {K : Exit → St → Prop}
theorem wc_assoc {a b c : Code} (h : WC x N (.seq a (.seq b c)) σ K) : WC x N (.seq (.seq a b) c) σ K := by
  show WC x N a σ _
  refine WC_mono (fun e σ' h' => ?_) h
  cases e with
  | normal => exact h'
  | _ => exact h'
/-- A region without a draw, to its end; first what the machine does not see. -/
theorem wc_ghost {id : Nat} {ops : Array Oper} {b : Code} (hg : Gh x.refs σ σ1) (h : WOps x N true ops ops.toList σ1 (· = σ2)) (hk : WC x N b σ2 K) : WC x N (.seq (.region id ops false) b) σ K := by
  refine Or.inl (And.intro (fun q => by cases q) (Exists.intro σ1 (And.intro hg ?_)))
  exact WOps_mono' (fun σ' e => by subst e; exact hk) h
theorem wc_then {id : Nat} {ops : Array Oper} {b : Code} (h : WOps x N true ops ops.toList σ (· = σ2)) (hk : WC x N b σ2 K) : WC x N (.seq (.region id ops false) b) σ K := wc_ghost (.refl _) h hk
theorem wc_last {id : Nat} {ops : Array Oper} (h : WOps x N true ops ops.toList σ (· = σ2)) (hk : K .normal σ2) : WC x N (.region id ops false) σ K := by
  refine Or.inl (And.intro (fun q => by cases q) (Exists.intro σ (And.intro (Gh.refl _) ?_)))
  exact WOps_mono' (fun σ' e => by subst e; exact hk) h
theorem wc_thenD {id : Nat} {ops : Array Oper} {b : Code} (hd : drawOK ops = true) (h : WOps x N false ops ops.toList σ (· = σ2)) (hk : WC x N b σ2 K) : WC x N (.seq (.region id ops true) b) σ K := by
  refine Or.inl (And.intro (fun _ => hd) (Exists.intro σ (And.intro (Gh.refl _) ?_)))
  exact WOps_mono' (fun σ' e => by subst e; exact hk) h
theorem wc_lastD {id : Nat} {ops : Array Oper} (hd : drawOK ops = true) (h : WOps x N false ops ops.toList σ (· = σ2)) (hk : K .normal σ2) : WC x N (.region id ops true) σ K := by
  refine Or.inl (And.intro (fun _ => hd) (Exists.intro σ (And.intro (Gh.refl _) ?_)))
  exact WOps_mono' (fun σ' e => by subst e; exact hk) h
theorem wc_cond {q : Operand} {a b : Code} {t : Bool} (hq : σ.ev q = some (.d (.bool t))) (h1 : t = true → WC x N a σ K) (h2 : t = false → WC x N b σ K) : WC x N (.cond q a b) σ K := .inl ⟨t, hq, h1, h2⟩
/-- A condition with what follows it. -/
theorem wc_condThen {q : Operand} {a b c : Code} {t : Bool} (hq : σ.ev q = some (.d (.bool t))) (h1 : t = true → WC x N (.seq a c) σ K) (h2 : t = false → WC x N (.seq b c) σ K) : WC x N (.seq (.cond q a b) c) σ K :=
  .inl ⟨t, hq, h1, h2⟩
theorem wc_condAny {q : Operand} {a b c : Code} (hq : σ.ev q = some .anyb) (h1 : WC x N (.seq a c) σ K) (h2 : WC x N (.seq b c) σ K) : WC x N (.seq (.cond q a b) c) σ K :=
  .inr ⟨hq, h1, h2⟩
theorem wc_skip {b : Code} (h : WC x N b σ K) : WC x N (.seq .skip b) σ K := h
theorem wc_skipEnd (h : K .normal σ) : WC x N .skip σ K := h
theorem wc_ret (h : K .ret σ) : WC x N .ret σ K := h
theorem wc_retThen {b : Code} (h : K .ret σ) : WC x N (.seq .ret b) σ K := h
theorem wc_exitThen {id : Nat} {b : Code} (h : K (.exit id) σ) : WC x N (.seq (.exit id) b) σ K := h
/-- Operations one by one. -/
theorem wo_nil {ref : Bool} {ops : Array Oper} {K : St → Prop} (h : K σ) : WOps x N ref ops [] σ K := h
/-- Behind a block comes c. -/
def BlkK (x : X) (N id : Nat) (c : Code) (K : Exit → St → Prop) : Exit → St → Prop := fun e σ' => match e with
  | .normal => WC x N c σ' K
  | .exit id' => if id' = id then WC x N c σ' K else K (.exit id') σ'
  | e => K e σ'
theorem wc_blockThen {id : Nat} {b c : Code} (h : WC x N b σ (BlkK x N id c K)) : WC x N (.seq (.block id b) c) σ K := by
  show WC x N b σ _
  refine WC_mono (fun e σ' h' => ?_) h
  cases e with
  | exit id' =>
    unfold BlkK at h'
    simp only [] at h' ⊢
    split
    · rename_i q; rw [if_pos q] at h'; exact h'
    · rename_i q; rw [if_neg q] at h'; exact h'
  | normal => exact h'
  | _ => exact h'
/-- A loop in a block of its own, and what comes behind it. -/
def LoopK (x : X) (N id : Nat) (c : Code) (I : Nat → St → Prop) (n : Nat) (K : Exit → St → Prop) : Exit → St → Prop := fun e σ' => match e with
  | .normal => ∃ n' σ'', n' < n ∧ Gh x.refs σ' σ'' ∧ I n' σ''
  | .exit id' => if id' = id then WC x N c σ' K else K (.exit id') σ'
  | e => K e σ'
theorem wc_loopThen {id : Nat} {b c : Code} (I : Nat → St → Prop) {σ0 : St} (n : Nat) (hg : Gh x.refs σ σ0) (hI : I n σ0) (hb : ∀ n σ, I n σ → WC x N b σ (LoopK x N id c I n K)) : WC x N (.seq (.block id (.loop b)) c) σ K := by
  refine wc_blockThen ?_
  refine ⟨I, ⟨n, σ0, hg, hI⟩, fun n σ hI => WC_mono (fun e σ' h' => ?_) (hb n σ hI)⟩
  cases e with
  | normal => exact h'
  | exit id' => exact h'
  | _ => exact h'
theorem blk_normal {id : Nat} {c : Code} (h : WC x N c σ K) : BlkK x N id c K .normal σ := h
theorem loop_exit {id : Nat} {c : Code} {I : Nat → St → Prop} {n : Nat} (h : WC x N c σ K) : LoopK x N id c I n K (.exit id) σ := by unfold LoopK; simpa using h
theorem loop_next {id : Nat} {c : Code} {I : Nat → St → Prop} {n : Nat} (n' : Nat) (hn : n' < n) (hg : Gh x.refs σ σ1) (hI : I n' σ1) : LoopK x N id c I n K .normal σ := ⟨n', σ1, hn, hg, hI⟩
theorem gh_keep (ts ids : List Nat) (h : σ.mem.all (fun p => decide (p.1 < 900000) || ids.contains p.1) = true) (he : σ.keep ts ids = σ1) {r : Bool} : Gh r σ σ1 := he ▸ .le (σ.keep_le ts ids h)
theorem wo_op {ref : Bool} {ops : Array Oper} {o : Oper} {r : List Oper} {K : St → Prop} {y : T} {u : Upd} {σ' : St} (hg : o.guard = none) (hc : callOf o.op = none) (he : evOp x.tab σ.ev σ.m (o.dst.getD 0) o.op = some (some y, u)) (hd : o.dst.all (· < N) = true)
    (hσ : (σ.upd u).putO o.dst y = σ') (h : WOps x N ref ops r σ' K) : WOps x N ref ops (o :: r) σ K := by
  subst hσ
  unfold WOps
  rw [hg]
  simp only []
  unfold WOp
  rw [hc]
  simp only []
  rw [he]
  exact ⟨hd, h⟩
theorem wo_eff {ref : Bool} {ops : Array Oper} {o : Oper} {r : List Oper} {K : St → Prop} {u : Upd} {σ' : St} (hg : o.guard = none) (hc : callOf o.op = none) (he : evOp x.tab σ.ev σ.m (o.dst.getD 0) o.op = some (none, u)) (hd : o.dst = none)
    (hσ : σ.upd u = σ') (h : WOps x N ref ops r σ' K) : WOps x N ref ops (o :: r) σ K := by
  subst hσ
  unfold WOps
  rw [hg]
  simp only []
  unfold WOp
  rw [hc]
  simp only []
  rw [he]
  exact ⟨hd, h⟩
theorem wo_x {ops : Array Oper} {o : Oper} {r : List Oper} {K : St → Prop} {y : T} {u : Upd} {σ' : St} (hg : o.guard = none) (hc : callOf o.op = none) (he : evOp x.tab σ.ev σ.m (o.dst.getD 0) o.op = none) (hx : evX x.tab σ.ev σ.m (o.dst.getD 0) o.op = some (y, u)) (hd : o.dst.all (· < N) = true)
    (hσ : (σ.upd u).putO o.dst y = σ') (h : WOps x N true ops r σ' K) : WOps x N true ops (o :: r) σ K := by
  subst hσ
  unfold WOps
  rw [hg]
  simp only []
  unfold WOp
  rw [hc]
  simp only []
  rw [he]
  simp only []
  rw [hx]
  exact ⟨trivial, hd, h⟩
theorem wo_call {ref : Bool} {ops : Array Oper} {o : Oper} {r : List Oper} {K : St → Prop} {f : Operand} {args : List Operand} {g : FuncId} {caps ys zs rs : List D} {σ' : St} (hg : o.guard = none) (hc : callOf o.op = some (f, args)) (hf : σ.ev f = some (.d (.fn g caps)))
    (ha : allT σ.ev args = some ys) (hle : LeL (ys ++ caps) zs) (hs : Spec x.P g zs rs) (hd : o.dst.all (· < N) = true) (hσ : σ.putO o.dst (resT rs) = σ') (h : WOps x N ref ops r σ' K) : WOps x N ref ops (o :: r) σ K := by
  subst hσ
  unfold WOps
  rw [hg]
  simp only []
  unfold WOp
  rw [hc]
  exact .inl ⟨g, caps, ys, zs, rs, hf, ha, hle, hs, hd, h⟩
theorem wo_ref {ops : Array Oper} {o : Oper} {r : List Oper} {K : St → Prop} {f : Operand} {args : List Operand} {g : FuncId} {caps : List D} {as zs : List A} {ids : List Nat} {css css' : List (List D)} {rs : List R} {σ' : St} (hg : o.guard = none) (hc : callOf o.op = some (f, args)) (hf : σ.ev f = some (.d (.fn g caps)))
    (ha : argsA σ.m ids σ.ev args = some as) (hle : LeA (as ++ caps.map .d) zs) (hb : boxesOf σ.m ids = some css) (hn : ids.Nodup) (hs : SpecR x.P g zs css rs css') (hd : o.dst.all (· < N) = true) (hfr : freshOf rs = [] ∨ (freshOf rs).length = 1 ∧ o.dst.isSome = true ∧ σ.m (o.dst.getD 0) = none)
    (hσ : σ.after ids css' rs o.dst = σ') (h : WOps x N true ops r σ' K) : WOps x N true ops (o :: r) σ K := by
  subst hσ
  unfold WOps
  rw [hg]
  simp only []
  unfold WOp
  rw [hc]
  exact .inr ⟨rfl, g, caps, as, zs, ids, css, rs, css', hf, ha, hle, hb, hn, hs, hd, hfr, h⟩
/-- A guarded operation. -/
theorem wo_guard {ref : Bool} {ops : Array Oper} {o : Oper} {r : List Oper} {K : St → Prop} {j : Nat} {want : Bool} {b : Option Bool} (hg : o.guard = some (j, want)) (hb : gval ops σ.env j = some b)
    (h1 : b = some want → WOps x N ref ops ({ o with guard := none } :: r) σ K) (h2 : b ≠ some want → o.dst.all (· < N) = true ∧ WOps x N ref ops r (σ.putO o.dst .un) K) : WOps x N ref ops (o :: r) σ K := by
  unfold WOps
  rw [hg]
  simp only []
  rw [hb]
  simp only []
  split
  · rename_i e
    have := h1 e
    unfold WOps at this
    simp only [] at this
    exact this
  · rename_i e
    exact h2 e
theorem wo_gT {ref : Bool} {ops : Array Oper} {o : Oper} {r : List Oper} {K : St → Prop} {j : Nat} {want : Bool} (hg : o.guard = some (j, want)) (hb : gval ops σ.env j = some (some want))
    (h : WOps x N ref ops ({ o with guard := none } :: r) σ K) : WOps x N ref ops (o :: r) σ K := wo_guard hg hb (fun _ => h) fun h' => absurd rfl h'
theorem wo_gF {ref : Bool} {ops : Array Oper} {o : Oper} {r : List Oper} {K : St → Prop} {j : Nat} {want : Bool} {σ' : St} (hg : o.guard = some (j, want)) (hb : gval ops σ.env j = some (some (!want))) (hd : o.dst.all (· < N) = true)
    (hσ : σ.putO o.dst .un = σ') (h : WOps x N ref ops r σ' K) : WOps x N ref ops (o :: r) σ K := by
  subst hσ
  exact wo_guard hg hb (fun h' => by cases want <;> cases h') fun _ => ⟨hd, h⟩
theorem wo_gU {ref : Bool} {ops : Array Oper} {o : Oper} {r : List Oper} {K : St → Prop} {j : Nat} {want : Bool} {σ' : St} (hg : o.guard = some (j, want)) (hb : gval ops σ.env j = some none) (hd : o.dst.all (· < N) = true)
    (hσ : σ.putO o.dst .un = σ') (h : WOps x N ref ops r σ' K) : WOps x N ref ops (o :: r) σ K := by
  subst hσ
  exact wo_guard hg hb (fun h' => by cases h') fun _ => ⟨hd, h⟩
end
/-! ### Lengths -/
mutual
def D.wf : D → Prop
  | .slice xs => xs.length ≤ maxLen ∧ wfL xs
  | .agg cs => wfL cs
  | _ => True
def wfL : List D → Prop
  | [] => True
  | x :: xs => x.wf ∧ wfL xs
end
section
variable {μ : Mu}
mutual
theorem RepD.wf : ∀ {x : D} {v : Value}, RepD μ x v → x.wf
  | _, _, .int k n => by simp [D.wf]
  | _, _, .bool b => by simp [D.wf]
  | _, _, .str s => by simp [D.wf]
  | _, _, .nil => by simp [D.wf]
  | _, _, .slice0 A cap hc => by simp [D.wf, wfL]
  | _, _, .slice h hs hl hc => by
    unfold D.wf
    exact ⟨Nat.le_trans hl hc, RepRow.wf h⟩
  | _, _, .agg h => by unfold D.wf; exact RepL.wf h
  | _, _, .ptr h => by simp [D.wf]
  | _, _, .fn h => by simp [D.wf]
theorem RepL.wf : ∀ {xs : List D} {l : List Value}, RepL μ xs l → wfL xs
  | _, _, .nil => by simp [wfL]
  | _, _, .cons h h1 t => by unfold wfL; exact ⟨h.wf, t.wf⟩
theorem RepRow.wf : ∀ {xs : List D} {b o : Nat}, RepRow μ xs b o → wfL xs
  | _, _, _, .nil b o => by simp [wfL]
  | _, _, _, .cons h t => by unfold wfL; exact ⟨RepE.wf h, RepRow.wf t⟩
theorem RepE.wf : ∀ {x : D} {b o : Nat}, RepE μ x b o → x.wf
  | _, _, _, .agg h => by unfold D.wf; exact RepC.wf h
  | _, _, _, .one h h1 e => h.wf
theorem RepC.wf : ∀ {xs : List D} {b o : Nat}, RepC μ xs b o → wfL xs
  | _, _, _, .nil b o => by simp [wfL]
  | _, _, _, .cons h h1 e t => by unfold wfL; exact ⟨h.wf, t.wf⟩
end
theorem RepV.wf {xs : List D} {l : List Value} (h : RepV μ xs l) : wfL xs := by
  induction h with
  | nil => simp [wfL]
  | cons h t ih => unfold wfL; exact ⟨h.wf, ih⟩
end
theorem Spec.wf {P : Program} {g : FuncId} {ys rs : List D} (h : wfL ys → Spec P g ys rs) : Spec P g ys rs := fun w0 μ0 vs h1 h2 => h h2.wf w0 μ0 vs h1 h2
theorem wrap_nat {n : Nat} (h : n ≤ maxLen) : IntKind.i64.wrap (n : Int) = (n : Int) := by
  rw [IntKind.wrap_i64]
  simp only [maxLen] at h
  omega
end Go.Pm
