/- The abstract machine 'Pm', part E: types, operands, the value operations and memory operations, each once. -/
import Derived.Test.YtnkknmdpakebhaaPmD
set_option linter.unusedSimpArgs false
set_option linter.unusedVariables false
namespace Go.Pm
open Go.RowKit

/-! ### Types -/
inductive TK where
  | int (k : IntKind) | bool | str | slice (e : Nat) | struct (fs : List (Nat × Nat)) | array (n e : Nat) | func | ptr (e : Nat)
structure TyI where
  k : TK
  size : Nat
  bytes : Nat
  zero : D
  view : Bool := false
def TyI.agg (i : TyI) : Bool := match i.k with | .struct _ | .array _ _ => true | _ => false
structure TyOK (P : Program) (t : TypeId) (i : TyI) : Prop where
  info : ∃ f z, P.info? t = some f ∧ f.size = i.size ∧ f.bytes = i.bytes ∧ f.zero = some z ∧ i.zero.sz = i.size ∧ ∀ μ, RepD μ i.zero z
  kind : match i.k with
    | .int k => P.underlying t = some (.int k)
    | .bool => P.underlying t = some .bool
    | .str => P.underlying t = some .string
    | .slice e => P.underlying t = some (.slice e)
    | .struct fs => ∃ a, P.underlying t = some (.struct a) ∧ a.toList.mapM (fun f => (P.info? f.type).map fun i => (f.offset, i.size)) = some fs ∧ ∀ (j o s : Nat), fs[j]? = some (o, s) → ∃ f fi, a[j]? = some f ∧ f.offset = o ∧ P.info? f.type = some fi ∧ fi.size = s ∧ 0 < s
    | .array n e => P.underlying t = some (.array n e)
    | .func => ∃ p r v, P.underlying t = some (.func p r v)
    | .ptr e => P.underlying t = some (.pointer e)
abbrev Tab := Nat → Option TyI
def TabOK (P : Program) (tab : Tab) : Prop := ∀ t i, tab t = some i → TyOK P t i

mutual
def matchV : D → Value → Bool
  | .int k n, .int k' n' => k = k' && n = n'
  | .bool b, .bool b' => b = b'
  | .str s, .string s' => s = s'
  | .nil, .slice none 0 0 => true
  | .agg cs, .agg l => matchL cs l.toList
  | _, _ => false
def matchL : List D → List Value → Bool
  | [], [] => true
  | x :: xs, v :: l => matchV x v && v.oneCell' && matchL xs l
  | _, _ => false
end
mutual
theorem matchV_ok (μ : Mu) : ∀ (x : D) (v : Value), matchV x v = true → RepD μ x v := by
  intro x v h
  unfold matchV at h
  split at h
  · simp at h; obtain ⟨rfl, rfl⟩ := h; exact .int _ _
  · simp at h; subst h; exact .bool _
  · simp at h; subst h; exact .str _
  · exact .nil
  · exact .agg (matchL_ok μ _ _ h)
  · cases h
theorem matchL_ok (μ : Mu) : ∀ (xs : List D) (l : List Value), matchL xs l = true → RepL μ xs l := by
  intro xs l h
  unfold matchL at h
  split at h
  · exact .nil
  · simp at h; exact .cons (matchV_ok μ _ _ h.1.1) h.1.2 (matchL_ok μ _ _ h.2)
  · cases h
end
/-- A closed check of a type's row. -/
def chkTy (P : Program) (t : TypeId) (i : TyI) : Bool :=
  (match P.info? t with
   | some f => f.size == i.size && f.bytes == i.bytes && (match f.zero with | some z => matchV i.zero z && i.zero.sz == i.size | none => false)
   | none => false) &&
  (match i.k, P.underlying t with
   | .int k, some (.int k') => k = k'
   | .bool, some .bool => true
   | .str, some .string => true
   | .slice e, some (.slice e') => e == e'
   | .array n e, some (.array n' e') => n == n' && e == e'
   | .func, some (.func _ _ _) => true
   | .ptr e, some (.pointer e') => e == e'
   | .struct fs, some (.struct a) => decide (a.toList.mapM (fun f => (P.info? f.type).map fun i => (f.offset, i.size)) = some fs) && fs.zipIdx.all fun p => (match a[p.2]? with
      | some f => f.offset == p.1.1 && (match P.info? f.type with | some fi => fi.size == p.1.2 && decide (0 < p.1.2) | none => false)
      | none => false)
   | _, _ => false)
theorem chkTy_ok {P : Program} {t : TypeId} {i : TyI} (h : chkTy P t i = true) : TyOK P t i := by
  unfold chkTy at h
  rw [Bool.and_eq_true] at h
  obtain ⟨h1, h2⟩ := h
  refine ⟨?_, ?_⟩
  · split at h1
    · rename_i f hf
      simp only [Bool.and_eq_true, beq_iff_eq] at h1
      obtain ⟨⟨h3, h4⟩, h5⟩ := h1
      split at h5
      · rename_i z hz
        rw [Bool.and_eq_true] at h5
        exact ⟨f, z, hf, h3, h4, hz, by simpa using h5.2, fun μ => matchV_ok μ _ _ h5.1⟩
      · cases h5
    · cases h1
  · split at h2 <;> try (exact absurd h2 Bool.false_ne_true)
    all_goals rename_i hk hu
    all_goals rw [hk]
    all_goals simp only [] at h2 ⊢
    · simp at h2; subst h2; exact hu
    · exact hu
    · exact hu
    · simp at h2; subst h2; exact hu
    · simp at h2; obtain ⟨rfl, rfl⟩ := h2; exact hu
    · exact ⟨_, _, _, hu⟩
    · simp at h2; subst h2; exact hu
    · rw [Bool.and_eq_true] at h2
      obtain ⟨h20, h2⟩ := h2
      refine ⟨_, hu, by simpa using h20, fun j o s hj => ?_⟩
      rw [List.all_eq_true] at h2
      have := h2 ((o, s), j) (by rw [List.mem_zipIdx_iff_getElem?]; simpa using hj)
      simp only [] at this
      split at this
      · rename_i f hf
        rw [Bool.and_eq_true] at this
        obtain ⟨h3, h4⟩ := this
        split at h4
        · rename_i fi hfi
          simp at h3 h4
          exact ⟨f, fi, hf, h3, hfi, h4.1, h4.2⟩
        · cases h4
      · cases this
def chkTab (P : Program) (l : List (Nat × TyI)) : Bool := l.all fun p => chkTy P p.1 p.2
theorem look_mem {α : Type} : ∀ {l : List (Nat × α)} {t : Nat} {v : α}, look l t = some v → (t, v) ∈ l
  | [], _, _, h => by simp [look] at h
  | (k, u) :: r, t, v, h => by
    rw [look_cons] at h
    split at h
    · rename_i e
      injection h with h
      subst e h
      exact List.mem_cons_self
    · exact List.mem_cons_of_mem _ (look_mem h)
theorem chkTab_ok {P : Program} {l : List (Nat × TyI)} (h : chkTab P l = true) : TabOK P (look l) := fun t i ht =>
  chkTy_ok ((List.all_eq_true.1 h) (t, i) (look_mem ht))

section
variable {P : Program} {t : TypeId} {i : TyI}
theorem TyOK.isAgg (h : TyOK P t i) (w : World) : (isAgg t).run P w = .ok i.agg w := by
  have hk := h.kind
  unfold TyI.agg
  cases hi : i.k <;> rw [hi] at hk <;> simp only [] at hk ⊢
  case struct => obtain ⟨a, hk, _⟩ := hk; simp [Go.isAgg, run_underlying hk]
  case func => obtain ⟨_, _, _, hk⟩ := hk; simp [Go.isAgg, run_underlying hk]
  all_goals simp [Go.isAgg, run_underlying hk]
theorem TyOK.sizeOf (h : TyOK P t i) (w : World) : (sizeOf t).run P w = .ok i.size w := by
  obtain ⟨f, z, hf, hs, _⟩ := h.info
  simp [Go.sizeOf, typeInfo, hf, hs]
theorem TyOK.zero (h : TyOK P t i) : ∃ z, (∀ w, (zeroValue t).run P w = .ok z w) ∧ ∀ μ, RepD μ i.zero z := by
  obtain ⟨f, z, hf, _, _, hz, _, hr⟩ := h.info
  exact ⟨z, fun w => by simp [zeroValue, typeInfo, hf, hz], hr⟩
end

/-! ### Operands -/
def constT : Value → Option T
  | .int k n => some (.d (.int k n))
  | .bool b => some (.d (.bool b))
  | .string s => some (.d (.str s))
  | .slice none 0 0 => some (.d .nil)
  | _ => none
def St.ev (σ : St) : Operand → Option T
  | .tmp t => look σ.env t
  | .const v => constT v
  | .func f => some (.d (.fn f []))
  | .global _ => none
theorem ev_rep {c : Ctx} {μ : Mu} {L : Loc} {σ : St} {a : Act} (h : EnvOK c μ L σ.m σ.env a) {x : Operand} {t : T} (hx : σ.ev x = some t) : RepT μ L σ.m t (a.eval x) := by
  cases x with
  | tmp i => exact h.2.2 i t hx
  | const v =>
    simp only [St.ev] at hx
    unfold constT at hx
    split at hx <;> simp at hx <;> subst hx
    · exact .d (.int _ _)
    · exact .d (.bool _)
    · exact .d (.str _)
    · exact .d .nil
  | func f =>
    simp only [St.ev, Option.some.injEq] at hx
    subst hx
    exact .d (.fn .nil)
  | global g => simp [St.ev] at hx
end Go.Pm
