/- The abstract machine 'Pm', part O: drawn regions, the orders. -/
import Derived.Test.YtnkknmdpakebhaaPmN
set_option linter.unusedSimpArgs false
set_option linter.unusedVariables false
namespace Go.Pm
open Go.RowKit

def app (σ : St) (d : Option Nat) (out : Option T) (u : Upd) : St := match out with
  | some y => (σ.upd u).putO d y
  | none => σ.upd u
/-- Carried out. -/
def Exec (x : X) (o : Oper) (σ : St) (out : Option T) (u : Upd) : Prop :=
  (∃ f args g caps ys zs rs, callOf o.op = some (f, args) ∧ σ.ev f = some (.d (.fn g caps)) ∧ allT σ.ev args = some ys ∧ LeL (ys ++ caps) zs ∧ Spec x.P g zs rs ∧ out = some (resT rs) ∧ u = none) ∨
  (callOf o.op = none ∧ evOp x.tab σ.ev σ.m (o.dst.getD 0) o.op = some (out, u) ∧ (out = none → o.dst = none))
def Act1 (x : X) (N : Nat) (ops : Array Oper) (o : Oper) (σ : St) (out : Option T) (u : Upd) : Prop :=
  o.dst.all (· < N) = true ∧
  (((o.guard = none ∨ ∃ j want, o.guard = some (j, want) ∧ gval ops σ.env j = some (some want)) ∧ Exec x o σ out u) ∨
   ((∃ j want b, o.guard = some (j, want) ∧ gval ops σ.env j = some b ∧ b ≠ some want) ∧ out = some .un ∧ u = none))

theorem WOp_exec {x : X} {N : Nat} {o : Oper} {σ : St} {K : St → Prop} (h : WOp x N false o σ K) : ∃ out u, o.dst.all (· < N) = true ∧ Exec x o σ out u ∧ K (app σ o.dst out u) := by
  unfold WOp at h
  split at h
  · rename_i f args hc
    rcases h with ⟨g, caps, ys, zs, rs, hf, hargs, hle, hsp, hd, hk⟩ | ⟨h, _⟩
    case inr => cases h
    exact ⟨some (resT rs), none, hd, .inl ⟨f, args, g, caps, ys, zs, rs, hc, hf, hargs, hle, hsp, rfl, rfl⟩, hk⟩
  · rename_i hc
    split at h
    · rename_i y u hev
      exact ⟨some y, u, h.1, .inr ⟨hc, hev, fun q => by cases q⟩, h.2⟩
    · rename_i u hev
      exact ⟨none, u, by rw [h.1]; rfl, .inr ⟨hc, hev, fun _ => h.1⟩, h.2⟩
    · cases h.1
theorem exec_WOp {x : X} {N : Nat} {ref : Bool} {o : Oper} {σ : St} {out : Option T} {u : Upd} (hd : o.dst.all (· < N) = true) (h : Exec x o σ out u) {K : St → Prop} (hK : K (app σ o.dst out u)) : WOp x N ref o σ K := by
  rcases h with ⟨f, args, g, caps, ys, zs, rs, hc, hf, hargs, hle, hsp, rfl, rfl⟩ | ⟨hc, hev, hn⟩
  · unfold WOp
    rw [hc]
    exact .inl ⟨g, caps, ys, zs, rs, hf, hargs, hle, hsp, hd, hK⟩
  · unfold WOp
    rw [hc]
    simp only []
    rw [hev]
    cases out with
    | some y => exact ⟨hd, hK⟩
    | none => exact ⟨hn rfl, hK⟩
/-- The abstract run, operation by operation. -/
def Tr (x : X) (N : Nat) (ops : Array Oper) : List Nat → St → (St → Prop) → Prop
  | [], σ, K => K σ
  | i :: r, σ, K => ∃ o out u, ops[i]? = some o ∧ Act1 x N ops o σ out u ∧ Tr x N ops r (app σ o.dst out u) K
theorem Tr_of {x : X} {N : Nat} {ops : Array Oper} : ∀ (l : List Oper) (k : Nat) (σ : St) (K : St → Prop), (∀ j, l[j]? = ops[k + j]?) → WOps x N false ops l σ K → Tr x N ops (List.range' k l.length) σ K
  | [], k, σ, K, _, h => h
  | o :: r, k, σ, K, hj, h => by
    have h0 : ops[k]? = some o := by simpa using (hj 0).symm
    have hr : ∀ j, r[j]? = ops[k + 1 + j]? := fun j => by have := hj (j + 1); simpa [Nat.add_assoc, Nat.add_comm 1 j] using this
    unfold WOps at h
    simp only [List.length_cons, List.range'_succ]
    split at h
    · rename_i hg
      obtain ⟨out, u, h1, h2, h3⟩ := WOp_exec h
      exact ⟨o, out, u, h0, ⟨h1, .inl ⟨.inl hg, h2⟩⟩, Tr_of r (k + 1) _ K hr h3⟩
    · rename_i j want hg
      split at h
      · rename_i b hb
        split at h
        · rename_i e
          subst e
          obtain ⟨out, u, h1, h2, h3⟩ := WOp_exec h
          exact ⟨o, out, u, h0, ⟨h1, .inl ⟨.inr ⟨j, want, hg, hb⟩, h2⟩⟩, Tr_of r (k + 1) _ K hr h3⟩
        · rename_i e
          exact ⟨o, some .un, none, h0, ⟨h.1, .inr ⟨⟨j, want, b, hg, hb, e⟩, rfl, rfl⟩⟩, Tr_of r (k + 1) _ K hr h.2⟩
      · exact h.elim

/-! ### States that read alike -/
structure Alike (σ σ' : St) : Prop where
  env : ∀ t, look σ.env t = look σ'.env t
  mem : ∀ i, look σ.mem i = look σ'.mem i
theorem Alike.refl (σ : St) : Alike σ σ := ⟨fun _ => rfl, fun _ => rfl⟩
theorem Alike.symm {σ σ' : St} (h : Alike σ σ') : Alike σ' σ := ⟨fun t => (h.env t).symm, fun t => (h.mem t).symm⟩
theorem Alike.trans {a b c : St} (h : Alike a b) (k : Alike b c) : Alike a c := ⟨fun t => (h.env t).trans (k.env t), fun t => (h.mem t).trans (k.mem t)⟩
theorem Sim.alike {c : Ctx} {σ σ' : St} {a : Act} {w : World} (h : Sim c σ a w) (e : Alike σ σ') : Sim c σ' a w := by
  obtain ⟨μ, L, ow, hi, he⟩ := h
  have hm : σ'.m = σ.m := funext fun i => (e.mem i).symm
  refine ⟨μ, L, ow, by rw [hm]; exact hi, ⟨he.1.1, by rw [hm]; exact he.1.2⟩, he.2.1, fun t x hx => ?_⟩
  rw [hm]
  exact he.2.2 t x (by rw [e.env t]; exact hx)
theorem app_look (σ : St) (d : Option Nat) (out : Option T) (u : Upd) (t : Nat) : look (app σ d out u).env t = match d, out with
    | some d, some y => if d = t then some y else look σ.env t
    | _, _ => look σ.env t := by
  cases out with
  | none => simp only [app, St.upd_env]
  | some y =>
    cases d with
    | none => simp only [app, St.putO, St.upd_env]
    | some d => simp only [app, St.putO, St.put, look_cons, St.upd_env]
theorem app_m (σ : St) (d : Option Nat) (out : Option T) (u : Upd) : (app σ d out u).m = σ.m.upd u := by
  cases out with
  | none => exact St.upd_m σ u
  | some y =>
    rw [← St.upd_m]
    cases d <;> rfl
theorem app_alike {σ σ' : St} (h : Alike σ σ') (d : Option Nat) (out : Option T) (u : Upd) : Alike (app σ d out u) (app σ' d out u) := by
  refine ⟨fun t => ?_, fun i => ?_⟩
  · rw [app_look, app_look]
    split <;> first | (split <;> first | rfl | exact h.env t) | exact h.env t
  · have e : σ.m = σ'.m := funext h.mem
    show (app σ d out u).m i = (app σ' d out u).m i
    rw [app_m, app_m, e]

/-! ### An operation looks at its operands, its guard, and what it names -/
theorem looks_operand {ops : Array Oper} {o : Oper} {t : Nat} (h : Operand.tmp t ∈ o.op.operands) : t ∈ o.looksAt ops := by
  unfold Oper.looksAt
  refine List.mem_append_left _ (List.mem_filterMap.2 ⟨.tmp t, by simpa using h, rfl⟩)
theorem looks_guard {ops : Array Oper} {o : Oper} {j t : Nat} {want : Bool} (hg : o.guard = some (j, want)) (h : gtmp ops j = some t) : t ∈ o.looksAt ops := by
  unfold Oper.looksAt
  refine List.mem_append_right _ ?_
  rw [hg]
  unfold gtmp at h
  simp [h]
theorem ev_congr {σ σ' : St} {ops : Array Oper} {o : Oper} (h : ∀ t ∈ o.looksAt ops, look σ.env t = look σ'.env t) : ∀ y ∈ o.op.operands, σ.ev y = σ'.ev y := by
  intro y hy
  cases y with
  | tmp t => exact h t (looks_operand hy)
  | _ => rfl
theorem callOf_operands {op : Op} {f : Operand} {args : List Operand} (h : callOf op = some (f, args)) : f ∈ op.operands ∧ ∀ y ∈ args, y ∈ op.operands := by
  cases op <;> simp only [callOf] at h <;> try (cases h; done)
  rename_i cl
  obtain ⟨callee, cargs, tys⟩ := cl
  cases callee <;> simp only [] at h <;> try (cases h; done)
  simp only [Option.some.injEq, Prod.mk.injEq] at h
  obtain ⟨rfl, rfl⟩ := h
  simp [Op.operands, Call.operands]
  exact fun y hy => .inr hy
theorem Exec.congr {x : X} {o : Oper} {σ σ' : St} {ops : Array Oper} {out : Option T} {u : Upd} (h : Exec x o σ out u) (he : ∀ t ∈ o.looksAt ops, look σ.env t = look σ'.env t) (hm : ∀ id ∈ sup σ.ev (o.dst.getD 0) o.op, σ.m id = σ'.m id) : Exec x o σ' out u := by
  have hev := ev_congr he
  rcases h with ⟨f, args, g, caps, ys, zs, rs, hc, hf, hargs, hle, hsp, h1, h2⟩ | ⟨hc, h1, h2⟩
  · have ho := callOf_operands hc
    exact .inl ⟨f, args, g, caps, ys, zs, rs, hc, by rw [← hev f ho.1]; exact hf, by rw [← allT_congr fun y hy => hev y (ho.2 y hy)]; exact hargs, hle, hsp, h1, h2⟩
  · refine .inr ⟨hc, ?_, h2⟩
    rw [← evOp_ρ hev, ← evOp_m hm]
    exact h1
theorem Act1.congr {x : X} {N : Nat} {o : Oper} {σ σ' : St} {ops : Array Oper} {out : Option T} {u : Upd} (h : Act1 x N ops o σ out u) (he : ∀ t ∈ o.looksAt ops, look σ.env t = look σ'.env t)
    (hm : Exec x o σ out u → ∀ id ∈ sup σ.ev (o.dst.getD 0) o.op, σ.m id = σ'.m id) : Act1 x N ops o σ' out u := by
  have hgd : ∀ j want b, o.guard = some (j, want) → gval ops σ.env j = some b → gval ops σ'.env j = some b := by
    intro j want b hg hb
    unfold gval at hb ⊢
    cases hq : gtmp ops j with
    | none => rw [hq] at hb; cases hb
    | some t =>
      rw [hq, Option.bind_some] at hb
      rw [Option.bind_some, ← he t (looks_guard hg hq)]
      exact hb
  obtain ⟨h0, h1⟩ := h
  refine ⟨h0, ?_⟩
  rcases h1 with ⟨h2, h3⟩ | ⟨⟨j, want, b, h2, h3, h4⟩, h5⟩
  · refine .inl ⟨?_, h3.congr he (hm h3)⟩
    rcases h2 with h2 | ⟨j, want, h2, h4⟩
    · exact .inl h2
    · exact .inr ⟨j, want, h2, hgd _ _ _ h2 h4⟩
  · exact .inr ⟨⟨j, want, b, h2, hgd _ _ _ h2 h3, h4⟩, h5⟩
theorem Tr.alike {x : X} {N : Nat} {ops : Array Oper} {K : St → Prop} (hK : ∀ σ σ', Alike σ σ' → K σ → K σ') : ∀ {l : List Nat} {σ σ' : St}, Alike σ σ' → Tr x N ops l σ K → Tr x N ops l σ' K
  | [], σ, σ', e, h => hK _ _ e h
  | i :: r, σ, σ', e, ⟨o, out, u, h1, h2, h3⟩ => ⟨o, out, u, h1, h2.congr (fun t _ => e.env t) (fun _ i _ => e.mem i), Tr.alike hK (app_alike e _ _ _) h3⟩
end Go.Pm
