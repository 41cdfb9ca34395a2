/- The abstract machine 'Pm', part V: code, loops, functions. -/
import Derived.Test.YtnkknmdpakebhaaPmS
set_option linter.unusedSimpArgs false
set_option linter.unusedVariables false
namespace Go.Pm
open Go.RowKit

theorem WOp_mono {x : X} {N : Nat} {o : Oper} {σ : St} {K K' : St → Prop} (hk : ∀ σ, K σ → K' σ) (h : WOp x N false o σ K) : WOp x N false o σ K' := by
  obtain ⟨out, u, h1, h2, h3⟩ := WOp_exec h
  exact exec_WOp h1 h2 (hk _ h3)
theorem WOps_mono {x : X} {N : Nat} {ops : Array Oper} {K K' : St → Prop} (hk : ∀ σ, K σ → K' σ) : ∀ {l : List Oper} {σ : St}, WOps x N false ops l σ K → WOps x N false ops l σ K'
  | [], σ, h => hk _ h
  | o :: r, σ, h => by
    unfold WOps at h ⊢
    split
    · rename_i hg
      rw [hg] at h
      exact WOp_mono (fun σ' h' => WOps_mono hk h') h
    · rename_i j want hg
      rw [hg] at h
      simp only [] at h
      split
      · rename_i b hb
        rw [hb] at h
        simp only [] at h
        split
        · rename_i e; rw [if_pos e] at h; exact WOp_mono (fun σ' h' => WOps_mono hk h') h
        · rename_i e; rw [if_neg e] at h; exact ⟨h.1, WOps_mono hk h.2⟩
      · rename_i hne
        rw [hne] at h
        exact h

/-! ### Operations with ghost steps in between -/
def WOpsG (x : X) (N : Nat) (ops : Array Oper) : List Oper → St → (St → Prop) → Prop
  | [], σ, K => K σ
  | o :: r, σ, K => ∃ σ1, Gh x.refs σ σ1 ∧ WOps x N true ops [o] σ1 fun σ' => WOpsG x N ops r σ' K
theorem WOpsG_ok {x : X} {c : Ctx} {ops : Array Oper} {Q : Exit → Act → World → Prop} (hS : x.refs = false → ∀ b, ¬ c.S b) : ∀ (l : List Oper) (σ : St) (K : St → Prop) (a : Act) (w : World), WOpsG x c.n ops l σ K → Sim c σ a w → (∀ σ' a' w', K σ' → Sim c σ' a' w' → Q .normal a' w') → wpList x.P ops Q l a w
  | [], σ, K, a, w, h, hs, hK => hK _ _ _ h hs
  | o :: r, σ, K, a, w, h, hs, hK => by
    obtain ⟨σ1, hg, h⟩ := h
    have hs := hs.gh hS hg
    unfold WOps at h
    refine wpList_step fun K' hK' => ?_
    split at h
    · rename_i hg
      rw [if_pos (by simp [Region.wanted, hg])]
      exact WOp_ok h hs fun σ' a' w' h' hs' => hK' _ _ (WOpsG_ok hS r σ' K a' w' (by unfold WOps at h'; exact h') hs' hK)
    · rename_i j want hg
      split at h
      · rename_i b hb
        have hy := yielded_of hs trivial hb
        split at h
        · rename_i e
          subst e
          rw [if_pos (by simp [Region.wanted, hg, hy])]
          exact WOp_ok h hs fun σ' a' w' h' hs' => hK' _ _ (WOpsG_ok hS r σ' K a' w' (by unfold WOps at h'; exact h') hs' hK)
        · rename_i e
          rw [if_neg (by simp [Region.wanted, hg, hy, e])]
          refine hK' _ _ (WOpsG_ok hS r _ K _ _ (by have := h.2; unfold WOps at this; exact this) ?_ hK)
          obtain ⟨μ, L, ow, hi, he⟩ := hs
          have hm : (σ1.putO o.dst .un).m = σ1.m := by cases o.dst <;> rfl
          refine ⟨μ, L, ow, by rw [hm]; exact hi, ?_⟩
          rw [hm]
          exact he.putO (mm := σ1.mem) h.1 .un
      · exact h.elim
/-! ### Code -/
/-- The weakest condition of a piece of code on abstract states; a loop wants a relation that bears a number. -/
def WC (x : X) (N : Nat) : Code → St → (Exit → St → Prop) → Prop
  | .skip, σ, K => K .normal σ
  | .region _ ops draw, σ, K => ((draw = true → drawOK ops = true) ∧ ∃ σ1, Gh x.refs σ σ1 ∧ WOps x N (!draw) ops ops.toList σ1 (K .normal)) ∨ (draw = false ∧ WOpsG x N ops ops.toList σ (K .normal))
  | .seq a b, σ, K => WC x N a σ fun e σ' => match e with
    | .normal => WC x N b σ' K
    | e => K e σ'
  | .cond q a b, σ, K => (∃ t, σ.ev q = some (.d (.bool t)) ∧ (t = true → WC x N a σ K) ∧ (t = false → WC x N b σ K)) ∨ (σ.ev q = some .anyb ∧ WC x N a σ K ∧ WC x N b σ K)
  | .block id b, σ, K => WC x N b σ fun e σ' => match e with
    | .exit id' => if id' = id then K .normal σ' else K (.exit id') σ'
    | e => K e σ'
  | .loop b, σ, K => ∃ (I : Nat → St → Prop), (∃ n σ0, Gh x.refs σ σ0 ∧ I n σ0) ∧ ∀ n σ, I n σ → WC x N b σ fun e σ' => match e with
    | .normal => ∃ n' σ'', n' < n ∧ Gh x.refs σ' σ'' ∧ I n' σ''
    | e => K e σ'
  | .exit id, σ, K => K (.exit id) σ
  | .ret, σ, K => K .ret σ
  | _, _, _ => False
theorem WC_ok {x : X} {c : Ctx} (hS : x.refs = false → ∀ b, ¬ c.S b) : ∀ (cd : Code) (σ : St) (K : Exit → St → Prop) (Q : Exit → Act → World → Prop) (a : Act) (w : World), WC x c.n cd σ K → Sim c σ a w → (∀ e σ' a' w', K e σ' → Sim c σ' a' w' → Q e a' w') → cd.wp x.P Q a w := by
  intro cd
  induction cd with
  | skip => intro σ K Q a w h hs hK; exact wp_skip (hK _ _ _ _ h hs)
  | region id ops draw =>
    intro σ K Q a w h hs hK
    rcases h with ⟨hd, σ1, hgh, h⟩ | ⟨rfl, h⟩
    case inr => exact wp_region_list (WOpsG_ok hS _ _ _ _ _ h hs fun σ' a' w' h' hs' => hK _ _ _ _ h' hs')
    have hs := hs.gh hS hgh
    cases draw with
    | false => exact wp_region_list (WOps_ok _ _ _ _ _ h hs fun σ' a' w' h' hs' => hK _ _ _ _ h' hs')
    | true =>
      refine wp_draw (K := fun σ' => ∃ σ'', Alike σ'' σ' ∧ K .normal σ'') x.mixed (hd rfl) ?_ ?_ (WOps_mono (fun σ' h' => ⟨σ', Alike.refl _, h'⟩) h) hs
      · rintro σ1 σ2 e ⟨σ3, e2, h3⟩
        exact ⟨σ3, e2.trans e, h3⟩
      · rintro σ1 a' w' ⟨σ3, e2, h3⟩ hs'
        exact hK _ _ _ _ h3 (hs'.alike e2.symm)
  | seq p q ihp ihq =>
    intro σ K Q a w h hs hK
    refine wp_seq (ihp σ _ _ a w h hs fun e σ' a' w' h' hs' => ?_)
    cases e with
    | normal => exact ihq σ' K Q a' w' h' hs' hK
    | _ => exact hK _ _ _ _ h' hs'
  | cond q p r ihp ihr =>
    intro σ K Q a w h hs hK
    rcases h with ⟨t, ht, h1, h2⟩ | ⟨ht, h1, h2⟩
    · have hv : a.eval q = .bool t := by
        obtain ⟨μ, L, ow, hi, he⟩ := hs
        have := ev_rep he ht
        cases this with
        | d hd => generalize a.eval q = v at hd; cases hd; rfl
      cases t with
      | true => exact wp_cond_true hv (ihp σ K Q a w (h1 rfl) hs hK)
      | false => exact wp_cond_false hv (ihr σ K Q a w (h2 rfl) hs hK)
    · have hv : ∃ t, a.eval q = .bool t := by
        obtain ⟨μ, L, ow, hi, he⟩ := hs
        have := ev_rep he ht
        generalize a.eval q = v at this
        cases this with
        | anyb t => exact ⟨t, rfl⟩
      obtain ⟨t, hv⟩ := hv
      cases t with
      | true => exact wp_cond_true hv (ihp σ K Q a w h1 hs hK)
      | false => exact wp_cond_false hv (ihr σ K Q a w h2 hs hK)
  | block id b ih =>
    intro σ K Q a w h hs hK
    refine wp_block (ih σ _ _ a w h hs fun e σ' a' w' h' hs' => ?_)
    cases e with
    | exit id' =>
      simp only [Exit.inBlock] at h' ⊢
      split at h'
      · rename_i e; rw [if_pos e]; exact hK _ _ _ _ h' hs'
      · rename_i e; rw [if_neg e]; exact hK _ _ _ _ h' hs'
    | _ => exact hK _ _ _ _ h' hs'
  | loop b ih =>
    intro σ K Q a w h hs hK
    obtain ⟨I, ⟨n, σ0, hg0, hn⟩, hI⟩ := h
    have hs := hs.gh hS hg0
    refine wp_loop_ghost (fun n a w => ∃ σ, I n σ ∧ Sim c σ a w) n ⟨σ0, hn, hs⟩ ?_
    rintro n a w ⟨σ1, h1, hs1⟩
    refine ih σ1 _ _ a w (hI n σ1 h1) hs1 fun e σ' a' w' h' hs' => ?_
    cases e with
    | normal =>
      obtain ⟨n', σ'', hlt, hle, h''⟩ := h'
      exact ⟨n', hlt, σ'', h'', hs'.gh hS hle⟩
    | _ => exact hK _ _ _ _ h' hs'
  | exit id => intro σ K Q a w h hs hK; exact wp_exit (hK _ _ _ _ h hs)
  | ret => intro σ K Q a w h hs hK; exact wp_ret (hK _ _ _ _ h hs)
  | rangeFunc => intro σ K Q a w h hs hK; exact h.elim
  | scope => intro σ K Q a w h hs hK; exact h.elim
  | label => intro σ K Q a w h hs hK; exact h.elim
  | goto => intro σ K Q a w h hs hK; exact h.elim
  | refuse => intro σ K Q a w h hs hK; exact h.elim

/-! ### Functions -/
def envOf : Nat → List D → List (Nat × T)
  | _, [] => []
  | k, y :: ys => (k, .d y) :: envOf (k + 1) ys
/-- What the result variables hold. -/
def resOf (x : X) (σ : St) : List ResultVar → Option (List D)
  | [] => some []
  | .tmp t :: r => match (look σ.env t).bind T.toD, resOf x σ r with
    | some y, some ys => some (y :: ys)
    | _, _ => none
  | .cell t ty :: r => match x.tab ty, look σ.env t, resOf x σ r with
    | some i, some (.obj id g off), some ys => match σ.m id with
      | some (.box g' cs) => if g' = g then match (ldT (cs.drop off) i).bind T.toD with
        | some y => some (y :: ys)
        | none => none else none
      | _ => none
    | _, _, _ => none
def Done (x : X) (fn : Func) (rs : List D) (e : Exit) (σ : St) : Prop := (e = .normal ∨ e = .ret) ∧ ∃ ys, resOf x σ fn.results.toList = some ys ∧ LeL ys rs
theorem look_envOf : ∀ (l : List D) (k t : Nat) (y : T), look (envOf k l) t = some y → ∃ j d, t = k + j ∧ l[j]? = some d ∧ y = .d d
  | [], k, t, y, h => by simp [envOf, look] at h
  | a :: l, k, t, y, h => by
    rw [envOf, look_cons] at h
    split at h
    · rename_i e
      injection h with h
      exact ⟨0, a, by omega, rfl, h.symm⟩
    · obtain ⟨j, d, h1, h2, h3⟩ := look_envOf l (k + 1) t y h
      exact ⟨j + 1, d, by omega, by simpa using h2, h3⟩
def resM (a : Act) : ResultVar → Sem Value
  | .tmp t => pure (a.tmps.getD t undef)
  | .cell t ty => do loadVar ty (← asAddr (a.tmps.getD t undef))
theorem resOf_ok {x : X} {c : Ctx} {σ : St} {a : Act} {w : World} {μ : Mu} {L : Loc} {ow : Nat → Option Nat} (hi : Inv c σ.m μ L ow w) (he : EnvOK c μ L σ.m σ.env a) : ∀ (l : List ResultVar) (rs : List D), resOf x σ l = some rs →
    ∃ vs, (l.mapM (resM a)).run x.P w = .ok vs w ∧ RepV μ rs vs
  | [], rs, h => by simp [resOf] at h; subst h; exact ⟨[], by simp, .nil⟩
  | .tmp t :: r, rs, h => by
    unfold resOf at h
    split at h
    · rename_i y ys hy hys
      injection h with h
      subst h
      obtain ⟨vs, h1, h2⟩ := resOf_ok hi he r ys hys
      obtain ⟨q, h3, h4⟩ := bind_eq hy
      exact ⟨a.tmps.getD t undef :: vs, by simp [List.mapM_cons, resM, h1], .cons (toD_rep (he.2.2 t q h3) h4) h2⟩
    · cases h
  | .cell t ty :: r, rs, h => by
    unfold resOf at h
    split at h
    · rename_i i id g off ys ht hl hys
      split at h
      · rename_i g' cs hm
        split at h
        case isFalse => cases h
        rename_i hgg
        subst hgg
        split at h
        · rename_i y hy
          injection h with h
          subst h
          obtain ⟨vs, h1, h2⟩ := resOf_ok hi he r ys hys
          obtain ⟨q, h3, h4⟩ := bind_eq hy
          have hr := he.2.2 t _ hl
          obtain ⟨v, hrun, hq⟩ := run_loadO (P := x.P) hi (x.ok _ _ ht) hr hm h3
          refine ⟨v :: vs, ?_, .cons (toD_rep hq h4) h2⟩
          generalize hv : a.tmps.getD t undef = tv at hr hrun
          have hp : ∃ A, tv = .pointer (some A) := by cases hr; exact ⟨_, rfl⟩
          obtain ⟨A, rfl⟩ := hp
          simp only [Instr.loadAt, Instr.sureAddr] at hrun
          have hrun' : (loadVar ty A).run x.P w = .ok v w := by simpa using hrun
          have hm1 : (resM a (.cell t ty)).run x.P w = .ok v w := by
            show ((do loadVar ty (← asAddr (a.tmps.getD t undef)) : Sem Value)).run x.P w = _
            rw [hv]
            simp [asAddr, hrun']
          simp [List.mapM_cons, hm1, h1]
        · cases h
      · cases h
    · cases h
theorem results_ok {x : X} {c : Ctx} {σ : St} {a : Act} {w : World} {μ : Mu} {L : Loc} {ow : Nat → Option Nat} (hi : Inv c σ.m μ L ow w) (he : EnvOK c μ L σ.m σ.env a) (fn : Func) {rs : List D} (h : resOf x σ fn.results.toList = some rs) :
    ∃ v, (results fn a.tmps).run x.P w = .ok v w ∧ RepR μ rs v := by
  obtain ⟨vs, h1, h2⟩ := resOf_ok hi he _ _ h
  have hr : (results fn a.tmps).run x.P w = .ok (if h : vs.length = 1 then vs[0] else .tuple vs.toArray) w := by
    have hres : results fn a.tmps = (do let vs ← fn.results.mapM (resM a); pure (if h : vs.size = 1 then vs[0] else .tuple vs) : Sem Value) := by
      unfold results
      congr 1
      all_goals (try (congr 1; funext r; cases r <;> rfl))
    rw [hres]
    have hm : fn.results.mapM (resM a) = (do let l ← fn.results.toList.mapM (resM a); pure l.toArray : Sem (Array Value)) := by
      rw [Array.mapM_eq_mapM_toList]
      rfl
    have hrun : (fn.results.mapM (resM a)).run x.P w = .ok vs.toArray w := by rw [hm]; simp [h1]
    simp [hrun]
  refine ⟨_, hr, ?_⟩
  split
  · rename_i hl
    cases h2 with
    | nil => simp at hl
    | cons h3 t =>
      cases t with
      | nil => exact .one h3
      | cons => simp at hl
  · rename_i hl
    exact .many (by rw [← h2.length]; exact hl) h2

theorem LeL.length {xs ys : List D} (h : LeL xs ys) : xs.length = ys.length := by
  induction h with
  | nil => rfl
  | cons _ _ ih => simp [ih]
theorem RepR.le {μ : Mu} {xs ys : List D} {v : Value} (h : RepR μ xs v) (hl : LeL xs ys) : RepR μ ys v := by
  cases h with
  | one h =>
    cases hl with
    | cons h1 t => cases t; exact .one (h1 _ _ h)
  | many hn h => exact .many (by rw [← hl.length]; exact hn) (h.le hl)
/-! ### nil forgotten -/
mutual
def D.norm : D → D
  | .nil => .slice []
  | .slice xs => .slice (normL xs)
  | .agg cs => .agg (normL cs)
  | x => x
def normL : List D → List D
  | [] => []
  | x :: xs => x.norm :: normL xs
end
theorem normL_length : ∀ xs : List D, (normL xs).length = xs.length
  | [] => rfl
  | x :: xs => by simp [normL, normL_length xs]
theorem D.norm_sz (x : D) : x.norm.sz = x.sz := by
  cases x <;> simp [D.norm, D.sz, normL_length]
theorem normL_sz {s : Nat} : ∀ {xs : List D}, (∀ y ∈ xs, y.sz = s) → ∀ y ∈ normL xs, y.sz = s
  | [], _, y, hy => by simp [normL] at hy
  | x :: xs, h, y, hy => by
    simp only [normL, List.mem_cons] at hy
    rcases hy with rfl | hy
    · rw [D.norm_sz]; exact h x List.mem_cons_self
    · exact normL_sz (fun z hz => h z (List.mem_cons_of_mem _ hz)) y hy
section
variable {μ : Mu}
mutual
theorem RepD.norm : ∀ {x : D} {v : Value}, RepD μ x v → RepD μ x.norm v
  | _, _, .int k n => .int k n
  | _, _, .bool b => .bool b
  | _, _, .str s => .str s
  | _, _, .nil => .slice0 _ _ (Nat.zero_le _)
  | _, _, .slice0 A cap hc => .slice0 A cap hc
  | _, _, .slice (xs := xs) h hs hl hc => by
    have h' := RepRow.norm h
    have := RepD.slice_mk h' (normL_sz hs) (by rw [normL_length]; exact hl) hc
    rw [normL_length] at this
    exact this
  | _, _, .agg h => .agg (RepL.norm h)
  | _, _, .ptr h => .ptr h
  | _, _, .fn h => .fn h
theorem RepL.norm : ∀ {xs : List D} {l : List Value}, RepL μ xs l → RepL μ (normL xs) l
  | _, _, .nil => .nil
  | _, _, .cons h h1 t => .cons h.norm h1 t.norm
theorem RepRow.norm : ∀ {xs : List D} {b o : Nat}, RepRow μ xs b o → RepRow μ (normL xs) b o
  | _, _, _, .nil b o => .nil b o
  | _, _, _, .cons (x := x) h t => .cons (RepE.norm h) (by rw [D.norm_sz]; exact RepRow.norm t)
theorem RepE.norm : ∀ {x : D} {b o : Nat}, RepE μ x b o → RepE μ x.norm b o
  | _, _, _, .agg h => .agg (RepC.norm h)
  | _, _, _, .one h h1 e => .one h.norm h1 e
theorem RepC.norm : ∀ {xs : List D} {b o : Nat}, RepC μ xs b o → RepC μ (normL xs) b o
  | _, _, _, .nil b o => .nil b o
  | _, _, _, .cons h h1 e t => .cons h.norm h1 e t.norm
end
end
theorem D.le_norm (x : D) : D.le x x.norm := fun _ _ h => h.norm
theorem LeL.norm : ∀ xs : List D, LeL xs (normL xs)
  | [] => .nil
  | x :: xs => .cons (D.le_norm x) (LeL.norm xs)
/-- A function's contract, by its body. -/
theorem Spec.of {x : X} {g : FuncId} {fn : Func} {cd : Code} (hf : x.P.funcs[g]? = some fn) (hname : (fn.name == "runtime.NumGoroutine") = false) (hb : fn.body = some cd) {args rs : List D} (hn : args.length ≤ fn.ntmps)
    (h : WC x fn.ntmps cd ⟨envOf 0 args, []⟩ (Done x fn rs)) : Spec x.P g args rs := by
  intro w0 μ0 vs hmu hv
  have hlen := hv.length
  refine .inl ⟨?_, ?_⟩
  · have h1 : fn.name ≠ "runtime.NumGoroutine" := by simpa using hname
    simp [callFunc, hf, h1, hb, mark]
  refine calls_of_wp hf hb ?_
  have hsim : Sim ⟨w0, μ0, fun _ => False, fn.ntmps, fun _ => none⟩ ⟨envOf 0 args, []⟩ { tmps := vs.toArray ++ Array.replicate (fn.ntmps - vs.toArray.size) undef, defers := [] } w0 := by
    refine ⟨μ0, ⟨fun _ => 0, fun _ => 0, fun _ => undef⟩, fun _ => none, ⟨Fr.refl _ _, hmu, Mu.le_refl _, (fun _ _ h => .inl h), (fun _ _ _ _ h => by cases h), (fun _ _ h => by cases h), (fun _ _ _ h => by cases h), (fun _ _ _ _ h => by cases h), (fun _ _ _ h => by cases h)⟩, ⟨rfl, fun _ _ _ h => by cases h⟩, ?_, ?_⟩
    · simp; omega
    · intro t y hy
      obtain ⟨j, d, h1, h2, rfl⟩ := look_envOf args 0 t y hy
      obtain ⟨v, h3, h4⟩ := hv.get j d h2
      have hj := (List.getElem?_eq_some_iff.1 h3).1
      have : t = j := by omega
      subst this
      refine .d ?_
      have e : (vs.toArray ++ Array.replicate (fn.ntmps - vs.toArray.size) undef).getD t undef = v := by
        rw [Array.getD_eq_getD_getElem?, Array.getElem?_append, if_pos (by simpa using hj)]
        simp [h3]
      rw [e]
      exact h4
  refine WC_ok (fun _ _ h => h) cd _ _ _ _ _ h hsim fun e σ' a' w' hd hs => ?_
  obtain ⟨he, ys, hr, hle⟩ := hd
  obtain ⟨μ, L, ow, hi, henv⟩ := hs
  obtain ⟨v, h1, h2'⟩ := results_ok hi henv fn hr
  have h2 : RepR μ rs v := h2'.le hle
  have hpost : a'.defers = [] ∧ ∃ v, (results fn a'.tmps).run x.P w' = .ok v w' ∧ Left w0 μ0 rs (.returned v) w' :=
    ⟨henv.1.1, v, h1, v, μ, rfl, h2, hi.mu0, hi.mu, hi.muNew, hi.fr⟩
  rcases he with rfl | rfl
  · exact hpost
  · exact hpost
end Go.Pm
