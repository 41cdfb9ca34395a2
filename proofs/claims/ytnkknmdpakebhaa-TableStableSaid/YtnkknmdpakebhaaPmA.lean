/- The abstract machine 'Pm', part A: persistent data, abstract states, the relation to the model's worlds. No program in sight. -/
import Derived.WalkKit
import Derived.Laws.AppendOwn
import Derived.Below
import Derived.Laws.NewBlocks
import Derived.Laws.IdiomStrings
import Derived.Deep.Draws
set_option linter.unusedSimpArgs false
set_option linter.unusedVariables false
namespace Go.Pm
open Go.RowKit

/-- Persistent data. -/
inductive D where
  | int (k : IntKind) (n : Int)
  | bool (b : Bool)
  | str (s : ByteArray)
  | nil
  | slice (xs : List D)
  | agg (cs : List D)
  | ptr (cs : List D)
  | fn (f : FuncId) (caps : List D)

def D.sz : D → Nat
  | .agg cs => cs.length
  | _ => 1
def D.cells : D → List D
  | .agg cs => cs
  | x => [x]

/-- A snapshot of memory. -/
abbrev Mu := Addr → Option Value

mutual
inductive RepD (μ : Mu) : D → Value → Prop
  | int (k : IntKind) (n : Int) : RepD μ (.int k n) (.int k n)
  | bool (b : Bool) : RepD μ (.bool b) (.bool b)
  | str (s : ByteArray) : RepD μ (.str s) (.string s)
  | nil : RepD μ .nil (.slice none 0 0)
  | slice0 (A : Option Addr) (cap : Nat) (hc : cap ≤ maxLen) : RepD μ (.slice []) (.slice A 0 cap)
  | slice {x : D} {xs : List D} {b o cap sz : Nat} (h : RepRow μ (x :: xs) b o) (hs : ∀ y ∈ x :: xs, y.sz = sz) (hl : (x :: xs).length ≤ cap) (hc : cap ≤ maxLen) :
      RepD μ (.slice (x :: xs)) (.slice (some ⟨b, o, none⟩) (x :: xs).length cap)
  | agg {cs : List D} {l : List Value} (h : RepL μ cs l) : RepD μ (.agg cs) (.agg l.toArray)
  | ptr {cs : List D} {b o : Nat} (h : RepC μ cs b o) : RepD μ (.ptr cs) (.pointer (some ⟨b, o, none⟩))
  | fn {f : FuncId} {cs : List D} {l : List Value} (h : RepL μ cs l) : RepD μ (.fn f cs) (.func (.func f) #[] l.toArray)
inductive RepL (μ : Mu) : List D → List Value → Prop
  | nil : RepL μ [] []
  | cons {x : D} {xs : List D} {v : Value} {l : List Value} (h : RepD μ x v) (h1 : v.oneCell' = true) (t : RepL μ xs l) : RepL μ (x :: xs) (v :: l)
inductive RepRow (μ : Mu) : List D → Nat → Nat → Prop
  | nil (b o : Nat) : RepRow μ [] b o
  | cons {x : D} {xs : List D} {b o : Nat} (h : RepE μ x b o) (t : RepRow μ xs b (o + x.sz)) : RepRow μ (x :: xs) b o
inductive RepE (μ : Mu) : D → Nat → Nat → Prop
  | agg {cs : List D} {b o : Nat} (h : RepC μ cs b o) : RepE μ (.agg cs) b o
  | one {x : D} {v : Value} {b o : Nat} (h : RepD μ x v) (h1 : v.oneCell' = true) (hm : μ ⟨b, o, none⟩ = some v) : RepE μ x b o
inductive RepC (μ : Mu) : List D → Nat → Nat → Prop
  | nil (b o : Nat) : RepC μ [] b o
  | cons {x : D} {xs : List D} {v : Value} {b o : Nat} (h : RepD μ x v) (h1 : v.oneCell' = true) (hm : μ ⟨b, o, none⟩ = some v) (t : RepC μ xs b (o + 1)) : RepC μ (x :: xs) b o
end

def Mu.le (μ μ' : Mu) : Prop := ∀ a v, μ a = some v → μ' a = some v

mutual
theorem RepD.mono {μ μ' : Mu} (hm : Mu.le μ μ') : ∀ {x : D} {v : Value}, RepD μ x v → RepD μ' x v
  | _, _, .int k n => .int k n
  | _, _, .bool b => .bool b
  | _, _, .str s => .str s
  | _, _, .nil => .nil
  | _, _, .slice0 A cap hc => .slice0 A cap hc
  | _, _, .slice h hs hl hc => .slice (h.mono hm) hs hl hc
  | _, _, .agg h => .agg (h.mono hm)
  | _, _, .ptr h => .ptr (h.mono hm)
  | _, _, .fn h => .fn (h.mono hm)
theorem RepL.mono {μ μ' : Mu} (hm : Mu.le μ μ') : ∀ {xs : List D} {l : List Value}, RepL μ xs l → RepL μ' xs l
  | _, _, .nil => .nil
  | _, _, .cons h h1 t => .cons (h.mono hm) h1 (t.mono hm)
theorem RepRow.mono {μ μ' : Mu} (hm : Mu.le μ μ') : ∀ {xs : List D} {b o : Nat}, RepRow μ xs b o → RepRow μ' xs b o
  | _, _, _, .nil b o => .nil b o
  | _, _, _, .cons h t => .cons (h.mono hm) (t.mono hm)
theorem RepE.mono {μ μ' : Mu} (hm : Mu.le μ μ') : ∀ {x : D} {b o : Nat}, RepE μ x b o → RepE μ' x b o
  | _, _, _, .agg h => .agg (h.mono hm)
  | _, _, _, .one h h1 e => .one (h.mono hm) h1 (hm _ _ e)
theorem RepC.mono {μ μ' : Mu} (hm : Mu.le μ μ') : ∀ {xs : List D} {b o : Nat}, RepC μ xs b o → RepC μ' xs b o
  | _, _, _, .nil b o => .nil b o
  | _, _, _, .cons h h1 e t => .cons (h.mono hm) h1 (hm _ _ e) (t.mono hm)
end

/-! ### Small facts -/
theorem RepL.length {μ : Mu} : ∀ {xs : List D} {l : List Value}, RepL μ xs l → l.length = xs.length
  | _, _, .nil => rfl
  | _, _, .cons _ _ t => by simp [t.length]
theorem RepL.get {μ : Mu} : ∀ {xs : List D} {l : List Value}, RepL μ xs l → ∀ (i : Nat) (x : D), xs[i]? = some x → ∃ v, l[i]? = some v ∧ RepD μ x v ∧ v.oneCell' = true
  | _, _, .nil, i, x, h => by simp at h
  | _, _, .cons h h1 t, 0, x, hx => by simp at hx; subst hx; exact ⟨_, rfl, h, h1⟩
  | _, _, .cons h h1 t, i + 1, x, hx => by simpa using t.get i x (by simpa using hx)
theorem RepL.one {μ : Mu} : ∀ {xs : List D} {l : List Value}, RepL μ xs l → ∀ u ∈ l, u.oneCell' = true
  | _, _, .nil, u, hu => by simp at hu
  | _, _, .cons h h1 t, u, hu => by
    rcases List.mem_cons.1 hu with rfl | hu
    · exact h1
    · exact t.one u hu
theorem RepD.sz {μ : Mu} {x : D} {v : Value} (h : RepD μ x v) : v.cells.size = x.sz := by
  cases h <;> first | rfl | skip
  rename_i h
  simp [Value.cells, D.sz, h.length]
/-- A value's cells by its data's cells. -/
theorem RepD.cells {μ : Mu} {x : D} {v : Value} (h : RepD μ x v) : RepL μ x.cells v.cells.toList := by
  cases h <;> first | exact .cons (by constructor <;> assumption) rfl .nil | skip
  rename_i h
  simpa [Value.cells, D.cells] using h
theorem RepRow.at_ {μ : Mu} {sz : Nat} : ∀ {xs : List D} {b o : Nat}, RepRow μ xs b o → (∀ y ∈ xs, y.sz = sz) → ∀ (i : Nat) (x : D), xs[i]? = some x → RepE μ x b (o + i * sz)
  | _, _, _, .nil _ _, _, i, x, h => by simp at h
  | _, _, _, .cons h t, hs, 0, x, hx => by simp at hx; subst hx; simpa using h
  | _, _, o, .cons (x := y) h t, hs, i + 1, x, hx => by
    have := t.at_ (fun z hz => hs z (List.mem_cons_of_mem _ hz)) i x (by simpa using hx)
    rw [hs y (List.mem_cons_self)] at this
    rwa [Nat.add_mul, Nat.one_mul, Nat.add_comm (i * sz), ← Nat.add_assoc]
theorem RepE.cells {μ : Mu} {x : D} {b o : Nat} (h : RepE μ x b o) : RepC μ x.cells b o := by
  cases h with
  | agg h => exact h
  | one h h1 hm =>
    cases h <;> first | (exact .cons (by constructor <;> assumption) h1 hm (.nil _ _)) | skip
    exact absurd h1 (by simp [Value.oneCell'])
theorem RepC.drop {μ : Mu} : ∀ {xs : List D} {b o : Nat}, RepC μ xs b o → ∀ k, k ≤ xs.length → RepC μ (xs.drop k) b (o + k)
  | _, _, _, h, 0, _ => by simpa using h
  | _, _, _, .nil b o, k + 1, hk => by simp at hk
  | _, _, o, .cons h h1 hm t, k + 1, hk => by
    have := t.drop k (by simpa using hk)
    rwa [Nat.add_assoc, Nat.add_comm 1 k] at this
theorem RepC.take {μ : Mu} : ∀ {xs : List D} {b o : Nat}, RepC μ xs b o → ∀ k, RepC μ (xs.take k) b o
  | _, b, o, _, 0 => by simpa using RepC.nil b o
  | _, _, _, .nil b o, k + 1 => .nil b o
  | _, _, _, .cons h h1 hm t, k + 1 => .cons h h1 hm (t.take k)
/-- What is loaded, cell by cell. -/
theorem RepC.vals {μ : Mu} : ∀ {xs : List D} {b o : Nat}, RepC μ xs b o → ∃ l, RepL μ xs l ∧ ∀ (i : Nat) (v : Value), l[i]? = some v → μ ⟨b, o + i, none⟩ = some v
  | _, _, _, .nil b o => ⟨[], .nil, by simp⟩
  | _, _, _, .cons (v := v) h h1 hm t => by
    obtain ⟨l, hl, hg⟩ := t.vals
    refine ⟨v :: l, .cons h h1 hl, fun i u hu => ?_⟩
    cases i with
    | zero => simp at hu; subst hu; exact hm
    | succ i =>
      have := hg i u (by simpa using hu)
      rwa [Nat.add_assoc, Nat.add_comm 1 i] at this
theorem RepC.of_vals {μ : Mu} {b : Nat} : ∀ {xs : List D} {l : List Value} {o : Nat}, RepL μ xs l → (∀ (i : Nat) (v : Value), l[i]? = some v → μ ⟨b, o + i, none⟩ = some v) → RepC μ xs b o
  | _, _, o, .nil, _ => .nil _ _
  | _, _, o, .cons (v := v) h h1 t, hg => .cons h h1 (hg 0 v rfl) (RepC.of_vals t fun i u hu => by
      have := hg (i + 1) u (by simpa using hu)
      rwa [Nat.add_comm i 1, ← Nat.add_assoc] at this)
theorem RepE.of_cells {μ : Mu} {x : D} {v : Value} {b o : Nat} (h : RepD μ x v) (hg : ∀ (i : Nat) (u : Value), v.cells[i]? = some u → μ ⟨b, o + i, none⟩ = some u) : RepE μ x b o := by
  cases h <;> first | (exact .one (by constructor <;> assumption) rfl (hg 0 _ rfl)) | skip
  rename_i h
  exact .agg (RepC.of_vals h fun i u hu => hg i u (by simpa [Value.cells] using hu))
theorem RepRow.append {μ : Mu} {sz : Nat} : ∀ {xs ys : List D} {b o : Nat}, RepRow μ xs b o → (∀ y ∈ xs, y.sz = sz) → RepRow μ ys b (o + xs.length * sz) → RepRow μ (xs ++ ys) b o
  | _, _, _, _, .nil b o, _, h => by simpa using h
  | _, _, _, o, .cons (x := x) (xs := xs) h t, hs, hy => .cons h (t.append (fun z hz => hs z (List.mem_cons_of_mem _ hz)) (by
      rw [hs x List.mem_cons_self, Nat.add_assoc, Nat.add_comm sz, ← Nat.succ_mul]; simpa using hy))
theorem RepRow.take {μ : Mu} : ∀ {xs : List D} {b o : Nat}, RepRow μ xs b o → ∀ k, RepRow μ (xs.take k) b o
  | _, b, o, _, 0 => by simpa using RepRow.nil b o
  | _, _, _, .nil b o, k + 1 => .nil b o
  | _, _, _, .cons h t, k + 1 => .cons h (t.take k)
theorem RepRow.drop {μ : Mu} {sz : Nat} : ∀ {xs : List D} {b o : Nat}, RepRow μ xs b o → (∀ y ∈ xs, y.sz = sz) → ∀ k, k ≤ xs.length → RepRow μ (xs.drop k) b (o + k * sz)
  | _, _, _, h, _, 0, _ => by simpa using h
  | _, _, _, .nil b o, _, k + 1, hk => by simp at hk
  | _, _, o, .cons (x := x) h t, hs, k + 1, hk => by
    have := t.drop (fun z hz => hs z (List.mem_cons_of_mem _ hz)) k (by simpa using hk)
    rw [hs x List.mem_cons_self] at this
    rwa [Nat.succ_mul, Nat.add_comm (k * sz), ← Nat.add_assoc]
/-- nil is a slice of no element. -/
theorem RepD.of_nil {μ : Mu} {v : Value} (h : RepD μ .nil v) : RepD μ (.slice []) v := by
  cases h
  exact .slice0 _ _ (Nat.zero_le _)
theorem RepD.slice_inv {μ : Mu} {xs : List D} {v : Value} (h : RepD μ (.slice xs) v) : ∃ A cap, v = .slice A xs.length cap ∧ xs.length ≤ cap ∧ cap ≤ maxLen ∧
    (xs = [] ∨ ∃ b o sz, A = some ⟨b, o, none⟩ ∧ RepRow μ xs b o ∧ ∀ y ∈ xs, y.sz = sz) := by
  cases h with
  | slice0 A cap hc => exact ⟨A, cap, rfl, Nat.zero_le _, hc, .inl rfl⟩
  | slice h hs hl hc => exact ⟨_, _, rfl, hl, hc, .inr ⟨_, _, _, rfl, h, hs⟩⟩
theorem RepD.slice_mk {μ : Mu} {xs : List D} {b o sz cap : Nat} (h : RepRow μ xs b o) (hs : ∀ y ∈ xs, y.sz = sz) (hl : xs.length ≤ cap) (hc : cap ≤ maxLen) : RepD μ (.slice xs) (.slice (some ⟨b, o, none⟩) xs.length cap) := by
  cases xs with
  | nil => exact .slice0 _ _ hc
  | cons x xs => exact .slice h hs hl hc
end Go.Pm
