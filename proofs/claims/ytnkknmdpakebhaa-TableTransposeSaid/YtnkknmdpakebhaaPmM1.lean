/- The abstract machine Pm, parts A to K, joined. -/
import Derived.WalkKit
import Derived.Laws.AppendOwn
import Derived.Below
import Derived.Laws.NewBlocks
import Derived.Laws.IdiomStrings
import Derived.Deep.Draws
import Derived.Maps.AppendAt
import Derived.Great.BuildSlice
import Derived.Laws.MakeOwn
import Derived.Laws.BytesString
import Derived.Laws.Tables
set_option linter.unusedSimpArgs false
set_option linter.unusedVariables false
namespace Go.Pm
open Go.RowKit

/-- Persistent data. -/
inductive D where
  | int (k : IntKind) (n : Int)
  | bool (b : Bool)
  | str (s : ByteArray)
  | nil
  | slice (xs : List D)
  | agg (cs : List D)
  | ptr (cs : List D)
  | fn (f : FuncId) (caps : List D)

def D.sz : D → Nat
  | .agg cs => cs.length
  | _ => 1
def D.cells : D → List D
  | .agg cs => cs
  | x => [x]

/-- A snapshot of memory. -/
abbrev Mu := Addr → Option Value

mutual
inductive RepD (μ : Mu) : D → Value → Prop
  | int (k : IntKind) (n : Int) : RepD μ (.int k n) (.int k n)
  | bool (b : Bool) : RepD μ (.bool b) (.bool b)
  | str (s : ByteArray) : RepD μ (.str s) (.string s)
  | nil : RepD μ .nil (.slice none 0 0)
  | slice0 (A : Option Addr) (cap : Nat) (hc : cap ≤ maxLen) : RepD μ (.slice []) (.slice A 0 cap)
  | slice {x : D} {xs : List D} {b o cap sz : Nat} (h : RepRow μ (x :: xs) b o) (hs : ∀ y ∈ x :: xs, y.sz = sz) (hl : (x :: xs).length ≤ cap) (hc : cap ≤ maxLen) :
      RepD μ (.slice (x :: xs)) (.slice (some ⟨b, o, none⟩) (x :: xs).length cap)
  | agg {cs : List D} {l : List Value} (h : RepL μ cs l) : RepD μ (.agg cs) (.agg l.toArray)
  | ptr {cs : List D} {b o : Nat} (h : RepC μ cs b o) : RepD μ (.ptr cs) (.pointer (some ⟨b, o, none⟩))
  | fn {f : FuncId} {cs : List D} {l : List Value} (h : RepL μ cs l) : RepD μ (.fn f cs) (.func (.func f) #[] l.toArray)
inductive RepL (μ : Mu) : List D → List Value → Prop
  | nil : RepL μ [] []
  | cons {x : D} {xs : List D} {v : Value} {l : List Value} (h : RepD μ x v) (h1 : v.oneCell' = true) (t : RepL μ xs l) : RepL μ (x :: xs) (v :: l)
inductive RepRow (μ : Mu) : List D → Nat → Nat → Prop
  | nil (b o : Nat) : RepRow μ [] b o
  | cons {x : D} {xs : List D} {b o : Nat} (h : RepE μ x b o) (t : RepRow μ xs b (o + x.sz)) : RepRow μ (x :: xs) b o
inductive RepE (μ : Mu) : D → Nat → Nat → Prop
  | agg {cs : List D} {b o : Nat} (h : RepC μ cs b o) : RepE μ (.agg cs) b o
  | one {x : D} {v : Value} {b o : Nat} (h : RepD μ x v) (h1 : v.oneCell' = true) (hm : μ ⟨b, o, none⟩ = some v) : RepE μ x b o
inductive RepC (μ : Mu) : List D → Nat → Nat → Prop
  | nil (b o : Nat) : RepC μ [] b o
  | cons {x : D} {xs : List D} {v : Value} {b o : Nat} (h : RepD μ x v) (h1 : v.oneCell' = true) (hm : μ ⟨b, o, none⟩ = some v) (t : RepC μ xs b (o + 1)) : RepC μ (x :: xs) b o
end

def Mu.le (μ μ' : Mu) : Prop := ∀ a v, μ a = some v → μ' a = some v

mutual
theorem RepD.mono {μ μ' : Mu} (hm : Mu.le μ μ') : ∀ {x : D} {v : Value}, RepD μ x v → RepD μ' x v
  | _, _, .int k n => .int k n
  | _, _, .bool b => .bool b
  | _, _, .str s => .str s
  | _, _, .nil => .nil
  | _, _, .slice0 A cap hc => .slice0 A cap hc
  | _, _, .slice h hs hl hc => .slice (h.mono hm) hs hl hc
  | _, _, .agg h => .agg (h.mono hm)
  | _, _, .ptr h => .ptr (h.mono hm)
  | _, _, .fn h => .fn (h.mono hm)
theorem RepL.mono {μ μ' : Mu} (hm : Mu.le μ μ') : ∀ {xs : List D} {l : List Value}, RepL μ xs l → RepL μ' xs l
  | _, _, .nil => .nil
  | _, _, .cons h h1 t => .cons (h.mono hm) h1 (t.mono hm)
theorem RepRow.mono {μ μ' : Mu} (hm : Mu.le μ μ') : ∀ {xs : List D} {b o : Nat}, RepRow μ xs b o → RepRow μ' xs b o
  | _, _, _, .nil b o => .nil b o
  | _, _, _, .cons h t => .cons (h.mono hm) (t.mono hm)
theorem RepE.mono {μ μ' : Mu} (hm : Mu.le μ μ') : ∀ {x : D} {b o : Nat}, RepE μ x b o → RepE μ' x b o
  | _, _, _, .agg h => .agg (h.mono hm)
  | _, _, _, .one h h1 e => .one (h.mono hm) h1 (hm _ _ e)
theorem RepC.mono {μ μ' : Mu} (hm : Mu.le μ μ') : ∀ {xs : List D} {b o : Nat}, RepC μ xs b o → RepC μ' xs b o
  | _, _, _, .nil b o => .nil b o
  | _, _, _, .cons h h1 e t => .cons (h.mono hm) h1 (hm _ _ e) (t.mono hm)
end

/-! ### Small facts -/
theorem RepL.length {μ : Mu} : ∀ {xs : List D} {l : List Value}, RepL μ xs l → l.length = xs.length
  | _, _, .nil => rfl
  | _, _, .cons _ _ t => by simp [t.length]
theorem RepL.get {μ : Mu} : ∀ {xs : List D} {l : List Value}, RepL μ xs l → ∀ (i : Nat) (x : D), xs[i]? = some x → ∃ v, l[i]? = some v ∧ RepD μ x v ∧ v.oneCell' = true
  | _, _, .nil, i, x, h => by simp at h
  | _, _, .cons h h1 t, 0, x, hx => by simp at hx; subst hx; exact ⟨_, rfl, h, h1⟩
  | _, _, .cons h h1 t, i + 1, x, hx => by simpa using t.get i x (by simpa using hx)
theorem RepL.one {μ : Mu} : ∀ {xs : List D} {l : List Value}, RepL μ xs l → ∀ u ∈ l, u.oneCell' = true
  | _, _, .nil, u, hu => by simp at hu
  | _, _, .cons h h1 t, u, hu => by
    rcases List.mem_cons.1 hu with rfl | hu
    · exact h1
    · exact t.one u hu
theorem RepD.sz {μ : Mu} {x : D} {v : Value} (h : RepD μ x v) : v.cells.size = x.sz := by
  cases h <;> first | rfl | skip
  rename_i h
  simp [Value.cells, D.sz, h.length]
/-- A value's cells by its data's cells. -/
theorem RepD.cells {μ : Mu} {x : D} {v : Value} (h : RepD μ x v) : RepL μ x.cells v.cells.toList := by
  cases h <;> first | exact .cons (by constructor <;> assumption) rfl .nil | skip
  rename_i h
  simpa [Value.cells, D.cells] using h
theorem RepRow.at_ {μ : Mu} {sz : Nat} : ∀ {xs : List D} {b o : Nat}, RepRow μ xs b o → (∀ y ∈ xs, y.sz = sz) → ∀ (i : Nat) (x : D), xs[i]? = some x → RepE μ x b (o + i * sz)
  | _, _, _, .nil _ _, _, i, x, h => by simp at h
  | _, _, _, .cons h t, hs, 0, x, hx => by simp at hx; subst hx; simpa using h
  | _, _, o, .cons (x := y) h t, hs, i + 1, x, hx => by
    have := t.at_ (fun z hz => hs z (List.mem_cons_of_mem _ hz)) i x (by simpa using hx)
    rw [hs y (List.mem_cons_self)] at this
    rwa [Nat.add_mul, Nat.one_mul, Nat.add_comm (i * sz), ← Nat.add_assoc]
theorem RepE.cells {μ : Mu} {x : D} {b o : Nat} (h : RepE μ x b o) : RepC μ x.cells b o := by
  cases h with
  | agg h => exact h
  | one h h1 hm =>
    cases h <;> first | (exact .cons (by constructor <;> assumption) h1 hm (.nil _ _)) | skip
    exact absurd h1 (by simp [Value.oneCell'])
theorem RepC.drop {μ : Mu} : ∀ {xs : List D} {b o : Nat}, RepC μ xs b o → ∀ k, k ≤ xs.length → RepC μ (xs.drop k) b (o + k)
  | _, _, _, h, 0, _ => by simpa using h
  | _, _, _, .nil b o, k + 1, hk => by simp at hk
  | _, _, o, .cons h h1 hm t, k + 1, hk => by
    have := t.drop k (by simpa using hk)
    rwa [Nat.add_assoc, Nat.add_comm 1 k] at this
theorem RepC.take {μ : Mu} : ∀ {xs : List D} {b o : Nat}, RepC μ xs b o → ∀ k, RepC μ (xs.take k) b o
  | _, b, o, _, 0 => by simpa using RepC.nil b o
  | _, _, _, .nil b o, k + 1 => .nil b o
  | _, _, _, .cons h h1 hm t, k + 1 => .cons h h1 hm (t.take k)
/-- What is loaded, cell by cell. -/
theorem RepC.vals {μ : Mu} : ∀ {xs : List D} {b o : Nat}, RepC μ xs b o → ∃ l, RepL μ xs l ∧ ∀ (i : Nat) (v : Value), l[i]? = some v → μ ⟨b, o + i, none⟩ = some v
  | _, _, _, .nil b o => ⟨[], .nil, by simp⟩
  | _, _, _, .cons (v := v) h h1 hm t => by
    obtain ⟨l, hl, hg⟩ := t.vals
    refine ⟨v :: l, .cons h h1 hl, fun i u hu => ?_⟩
    cases i with
    | zero => simp at hu; subst hu; exact hm
    | succ i =>
      have := hg i u (by simpa using hu)
      rwa [Nat.add_assoc, Nat.add_comm 1 i] at this
theorem RepC.of_vals {μ : Mu} {b : Nat} : ∀ {xs : List D} {l : List Value} {o : Nat}, RepL μ xs l → (∀ (i : Nat) (v : Value), l[i]? = some v → μ ⟨b, o + i, none⟩ = some v) → RepC μ xs b o
  | _, _, o, .nil, _ => .nil _ _
  | _, _, o, .cons (v := v) h h1 t, hg => .cons h h1 (hg 0 v rfl) (RepC.of_vals t fun i u hu => by
      have := hg (i + 1) u (by simpa using hu)
      rwa [Nat.add_comm i 1, ← Nat.add_assoc] at this)
theorem RepE.of_cells {μ : Mu} {x : D} {v : Value} {b o : Nat} (h : RepD μ x v) (hg : ∀ (i : Nat) (u : Value), v.cells[i]? = some u → μ ⟨b, o + i, none⟩ = some u) : RepE μ x b o := by
  cases h <;> first | (exact .one (by constructor <;> assumption) rfl (hg 0 _ rfl)) | skip
  rename_i h
  exact .agg (RepC.of_vals h fun i u hu => hg i u (by simpa [Value.cells] using hu))
theorem RepRow.append {μ : Mu} {sz : Nat} : ∀ {xs ys : List D} {b o : Nat}, RepRow μ xs b o → (∀ y ∈ xs, y.sz = sz) → RepRow μ ys b (o + xs.length * sz) → RepRow μ (xs ++ ys) b o
  | _, _, _, _, .nil b o, _, h => by simpa using h
  | _, _, _, o, .cons (x := x) (xs := xs) h t, hs, hy => .cons h (t.append (fun z hz => hs z (List.mem_cons_of_mem _ hz)) (by
      rw [hs x List.mem_cons_self, Nat.add_assoc, Nat.add_comm sz, ← Nat.succ_mul]; simpa using hy))
theorem RepRow.take {μ : Mu} : ∀ {xs : List D} {b o : Nat}, RepRow μ xs b o → ∀ k, RepRow μ (xs.take k) b o
  | _, b, o, _, 0 => by simpa using RepRow.nil b o
  | _, _, _, .nil b o, k + 1 => .nil b o
  | _, _, _, .cons h t, k + 1 => .cons h (t.take k)
theorem RepRow.drop {μ : Mu} {sz : Nat} : ∀ {xs : List D} {b o : Nat}, RepRow μ xs b o → (∀ y ∈ xs, y.sz = sz) → ∀ k, k ≤ xs.length → RepRow μ (xs.drop k) b (o + k * sz)
  | _, _, _, h, _, 0, _ => by simpa using h
  | _, _, _, .nil b o, _, k + 1, hk => by simp at hk
  | _, _, o, .cons (x := x) h t, hs, k + 1, hk => by
    have := t.drop (fun z hz => hs z (List.mem_cons_of_mem _ hz)) k (by simpa using hk)
    rw [hs x List.mem_cons_self] at this
    rwa [Nat.succ_mul, Nat.add_comm (k * sz), ← Nat.add_assoc]
/-- nil is a slice of no element. -/
theorem RepD.of_nil {μ : Mu} {v : Value} (h : RepD μ .nil v) : RepD μ (.slice []) v := by
  cases h
  exact .slice0 _ _ (Nat.zero_le _)
theorem RepD.slice_inv {μ : Mu} {xs : List D} {v : Value} (h : RepD μ (.slice xs) v) : ∃ A cap, v = .slice A xs.length cap ∧ xs.length ≤ cap ∧ cap ≤ maxLen ∧
    (xs = [] ∨ ∃ b o sz, A = some ⟨b, o, none⟩ ∧ RepRow μ xs b o ∧ ∀ y ∈ xs, y.sz = sz) := by
  cases h with
  | slice0 A cap hc => exact ⟨A, cap, rfl, Nat.zero_le _, hc, .inl rfl⟩
  | slice h hs hl hc => exact ⟨_, _, rfl, hl, hc, .inr ⟨_, _, _, rfl, h, hs⟩⟩
theorem RepD.slice_mk {μ : Mu} {xs : List D} {b o sz cap : Nat} (h : RepRow μ xs b o) (hs : ∀ y ∈ xs, y.sz = sz) (hl : xs.length ≤ cap) (hc : cap ≤ maxLen) : RepD μ (.slice xs) (.slice (some ⟨b, o, none⟩) xs.length cap) := by
  cases xs with
  | nil => exact .slice0 _ _ hc
  | cons x xs => exact .slice h hs hl hc
end Go.Pm
namespace Go.Pm
open Go.RowKit

/-- What a temporary, or a cell of a variable in memory, holds. -/
inductive T where
  | d (x : D)
  | obj (id g off : Nat)
  | own (id : Nat) (xs : List D)
  | view (id g sz off n : Nat)
  | tup (xs : List T)
  | anyb
  | un
  | any

/-- What the call owns: cells that may be written; a row that may be appended to; cells that nobody writes any more. -/
inductive Own where
  | box (g : Nat) (cs : List T)
  | tok (e sz n : Nat)
  | froz (g : Nat) (cs : List D)
/-- Its generation: an elder pointer into it means nothing. -/
def Own.gen : Own → Option Nat
  | .box g _ => some g
  | .tok .. => none
  | .froz g _ => some g

abbrev Mem := Nat → Option Own
structure Loc where
  blk : Nat → Nat
  room : Nat → Nat
  hdr : Nat → Value

def look {α : Type} : List (Nat × α) → Nat → Option α
  | [], _ => none
  | (k, v) :: r, t => if k = t then some v else look r t
theorem look_cons {α : Type} (k : Nat) (v : α) (r : List (Nat × α)) (t : Nat) : look ((k, v) :: r) t = if k = t then some v else look r t := rfl

inductive RepT (μ : Mu) (L : Loc) (m : Mem) : T → Value → Prop
  | d {x : D} {v : Value} (h : RepD μ x v) : RepT μ L m (.d x) v
  | obj {id g off g' : Nat} {A : Addr} {o : Own} (hm : m id = some o) (hg : o.gen = some g') (hle : g ≤ g') (h : g' = g → A = ⟨L.blk id, off, none⟩) : RepT μ L m (.obj id g off) (.pointer (some A))
  | own {id : Nat} {xs : List D} {v : Value} {e sz n : Nat} (h : RepD μ (.slice xs) v) (hm : m id = some (.tok e sz n)) (hl : xs.length ≤ n) (he : xs.length = n → v = L.hdr id) (hs : ∀ y ∈ xs, y.sz = sz) : RepT μ L m (.own id xs) v
  | view {id g sz off n cap g' : Nat} {A : Addr} {o : Own} (hm : m id = some o) (hg : o.gen = some g') (hle : g ≤ g') (h : g' = g → (0 < cap → A = ⟨L.blk id, off, none⟩) ∧ off + cap * sz ≤ L.room id ∧ n ≤ cap ∧ cap ≤ maxLen) : RepT μ L m (.view id g sz off n) (.slice (some A) n cap)
  | tup {xs : List T} {vs : List Value} (hl : vs.length = xs.length) (h : ∀ (i : Nat) (x : T), xs[i]? = some x → RepT μ L m x (vs.getD i undef)) : RepT μ L m (.tup xs) (.tuple vs.toArray)
  | anyb (b : Bool) : RepT μ L m .anyb (.bool b)
  | un : RepT μ L m .un undef
  | any (v : Value) : RepT μ L m .any v

/-- What was owned stays owned, in its kind. -/
structure Stays (L : Loc) (m : Mem) (L' : Loc) (m' : Mem) : Prop where
  gen : ∀ id o g, m id = some o → o.gen = some g → ∃ o' g', m' id = some o' ∧ o'.gen = some g' ∧ g ≤ g' ∧ (g' = g → L'.blk id = L.blk id ∧ L'.room id = L.room id)
  tok : ∀ id e sz n, m id = some (.tok e sz n) → ∃ n', m' id = some (.tok e sz n') ∧ n ≤ n' ∧ (n' = n → L'.hdr id = L.hdr id)
theorem Stays.refl (L : Loc) (m : Mem) : Stays L m L m := ⟨fun _ o g h hg => ⟨o, g, h, hg, Nat.le_refl _, fun _ => ⟨rfl, rfl⟩⟩, fun _ _ _ n h => ⟨n, h, Nat.le_refl _, fun _ => rfl⟩⟩
theorem RepT.mono {μ μ' : Mu} {L L' : Loc} {m m' : Mem} (hm : Mu.le μ μ') (hs : Stays L m L' m') {x : T} {v : Value} (h : RepT μ L m x v) : RepT μ' L' m' x v := by
  induction h with
  | d h => exact .d (h.mono hm)
  | obj h hg hle hA =>
    obtain ⟨o', g2, h', hg', hle', e⟩ := hs.gen _ _ _ h hg
    exact .obj h' hg' (Nat.le_trans hle hle') fun q => by
      have q1 := Nat.le_antisymm hle (by omega)
      rw [hA q1.symm, (e (by omega)).1]
  | own h hmm hl he hz =>
    obtain ⟨n', h', hle, e⟩ := hs.tok _ _ _ _ hmm
    exact .own (h.mono hm) h' (by omega) (fun hx => by rw [he (by omega), e (by omega)]) hz
  | view h hg hle hA =>
    obtain ⟨o', g2, h', hg', hle', e⟩ := hs.gen _ _ _ h hg
    exact .view h' hg' (Nat.le_trans hle hle') fun q => by
      have q1 := Nat.le_antisymm hle (by omega)
      rw [(e (by omega)).1, (e (by omega)).2]
      exact hA q1.symm
  | tup hl h ih => exact .tup hl ih
  | anyb b => exact .anyb b
  | un => exact .un
  | any v => exact .any v

/-- Elements laid out cell by cell. -/
inductive RepF (μ : Mu) : List D → List Value → Prop
  | nil : RepF μ [] []
  | cons {x : D} {xs : List D} {c l : List Value} (h : RepL μ x.cells c) (t : RepF μ xs l) : RepF μ (x :: xs) (c ++ l)

/-- What was there at the call's begin is as it was, but for the blocks in S. -/
structure Fr (w0 : World) (S : Nat → Prop) (w : World) : Prop where
  os : w.os = w0.os
  tape : w.tape = w0.tape
  output : w.output = w0.output
  size : w0.heap.size ≤ w.heap.size
  block : ∀ k, k < w0.heap.size → ¬ S k → w.heap[k]? = w0.heap[k]?

structure Ctx where
  w0 : World
  μ0 : Mu
  S : Nat → Prop
  n : Nat
  ob : Nat → Option (Nat × Nat)
/-- What was handed in to be written keeps its name and its place. -/
def oid (k : Nat) : Nat := 900000 + k
def ObOK (c : Ctx) (m : Mem) (L : Loc) : Prop := ∀ id b r, c.ob id = some (b, r) → 900000 ≤ id ∧ ∃ o, m id = some o ∧ (o.gen = some 0 → L.blk id = b ∧ L.room id = r)
theorem ObOK.stays {c : Ctx} {L L' : Loc} {m m' : Mem} (h : ObOK c m L) (hs : Stays L m L' m') : ObOK c m' L' := by
  intro id b r hb
  obtain ⟨h1, o, h2, h3⟩ := h id b r hb
  refine ⟨h1, ?_⟩
  cases ho : o.gen with
  | some g =>
    obtain ⟨o', g', k1, k2, k3, k4⟩ := hs.gen id o g h2 ho
    refine ⟨o', k1, fun q => ?_⟩
    rw [k2] at q
    injection q with q
    have q2 : g = 0 := by omega
    subst q2
    obtain ⟨e1, e2⟩ := k4 q
    obtain ⟨e3, e4⟩ := h3 ho
    exact ⟨e1.trans e3, e2.trans e4⟩
  | none =>
    cases o with
    | tok e sz n =>
      obtain ⟨n', k1, _⟩ := hs.tok id e sz n h2
      exact ⟨_, k1, fun q => by cases q⟩
    | box => cases ho
    | froz => cases ho

/-- The row of a token or of an array: like 'ownsRow', wherever it lies. -/
def rowAt (w : World) (e size : Nat) (v : Value) (n : Nat) (xs : List Value) : Prop := w.ownsRow 0 e size v n xs

structure Inv (c : Ctx) (m : Mem) (μ : Mu) (L : Loc) (ow : Nat → Option Nat) (w : World) : Prop where
  fr : Fr c.w0 c.S w
  mu : ∀ a v, μ a = some v → w.cell? a = some v
  mu0 : Mu.le c.μ0 μ
  muNew : ∀ a v, μ a = some v → c.μ0 a = some v ∨ c.w0.heap.size ≤ a.block
  muOwn : ∀ a v, μ a = some v → ∀ id, ow a.block = some id → ∃ e sz n, m id = some (.tok e sz n) ∧ a.off < n * sz
  own : ∀ b id, ow b = some id → b < w.heap.size ∧ (c.w0.heap.size ≤ b ∨ c.S b)
  box : ∀ id g cs, m id = some (.box g cs) → ow (L.blk id) = some id ∧ ∃ vs e, w.heap[L.blk id]? = some (.cells vs e (0, 0)) ∧ cs.length ≤ vs.size ∧ vs.size = L.room id ∧
    ∀ (i : Nat) (x : T), cs[i]? = some x → ∃ v, vs[i]? = some v ∧ v.oneCell' = true ∧ RepT μ L m x v
  tok : ∀ id e sz n, m id = some (.tok e sz n) → 0 < sz ∧ (∃ cells, rowAt w e sz (L.hdr id) n cells) ∧ ∀ b, (L.hdr id).ownBlock = some b → ow b = some id ∧ c.w0.heap.size ≤ b
  froz : ∀ id g cs, m id = some (.froz g cs) → RepC μ cs (L.blk id) 0

structure St where
  env : List (Nat × T)
  mem : List (Nat × Own)
def St.m (σ : St) : Mem := look σ.mem
def St.put (σ : St) (d : Nat) (x : T) : St := ⟨(d, x) :: σ.env, σ.mem⟩
def St.set (σ : St) (id : Nat) (o : Own) : St := ⟨σ.env, (id, o) :: σ.mem⟩

def EnvOK (c : Ctx) (μ : Mu) (L : Loc) (m : Mem) (env : List (Nat × T)) (a : Act) : Prop :=
  (a.defers = [] ∧ ObOK c m L) ∧ a.tmps.size = c.n ∧ ∀ t x, look env t = some x → RepT μ L m x (a.tmps.getD t undef)
def Sim (c : Ctx) (σ : St) (a : Act) (w : World) : Prop := ∃ μ L ow, Inv c σ.m μ L ow w ∧ EnvOK c μ L σ.m σ.env a

theorem EnvOK.mono {c : Ctx} {μ μ' : Mu} {L L' : Loc} {m m' : Mem} {env : List (Nat × T)} {a : Act} (h : EnvOK c μ L m env a) (hm : Mu.le μ μ') (hs : Stays L m L' m') : EnvOK c μ' L' m' env a :=
  ⟨⟨h.1.1, h.1.2.stays hs⟩, h.2.1, fun t x hx => (h.2.2 t x hx).mono hm hs⟩
theorem EnvOK.put {c : Ctx} {μ : Mu} {L : Loc} {m : Mem} {env : List (Nat × T)} {a : Act} (h : EnvOK c μ L m env a) {d : Nat} (hd : d < c.n) {x : T} {v : Value} (hv : RepT μ L m x v) : EnvOK c μ L m ((d, x) :: env) (a.put (some d) v) := by
  refine ⟨h.1, by simp [Act.put, h.2.1], fun t y hy => ?_⟩
  rw [look_cons] at hy
  split at hy
  · rename_i e
    subst e
    injection hy with hy
    subst hy
    have : d < a.tmps.size := by rw [h.2.1]; exact hd
    simpa [Act.put, Array.getD_eq_getD_getElem?, Array.getElem?_setIfInBounds, this] using hv
  · rename_i e
    have := h.2.2 t y hy
    simpa [Act.put, Array.getD_eq_getD_getElem?, Array.getElem?_setIfInBounds, e] using this

/-! ### Worlds that move -/
theorem Mu.le_refl (μ : Mu) : Mu.le μ μ := fun _ _ h => h
theorem Fr.refl (w : World) (S : Nat → Prop) : Fr w S w := ⟨rfl, rfl, rfl, Nat.le_refl _, fun _ _ _ => rfl⟩

theorem Inv.drew {c : Ctx} {m : Mem} {μ : Mu} {L : Loc} {ow : Nat → Option Nat} {w : World} (h : Inv c m μ L ow w) : Inv c m μ L ow w.drew where
  fr := ⟨h.fr.os, h.fr.tape, h.fr.output, h.fr.size, h.fr.block⟩
  mu := h.mu
  mu0 := h.mu0
  muNew := h.muNew
  muOwn := h.muOwn
  own := h.own
  box := h.box
  tok := h.tok
  froz := h.froz

theorem rowAt_keep {w w1 : World} {e size n : Nat} {v : Value} {xs : List Value} (h : rowAt w e size v n xs) (hk : ∀ b, v.ownBlock = some b → w1.heap[b]? = w.heap[b]?) : rowAt w1 e size v n xs := by
  obtain ⟨h1, h2⟩ := h
  refine ⟨h1, ?_⟩
  rcases h2 with h2 | ⟨g, cap, cur, rfl, hg, hh, r⟩
  · exact .inl h2
  · exact .inr ⟨g, cap, cur, rfl, hg, (hk g (by simp [Value.ownBlock])).trans hh, r⟩

/-- Blocks that nobody owns here may be added and the world may grow: all that is old stays. -/
structure Grows (w w1 : World) : Prop where
  os : w1.os = w.os
  tape : w1.tape = w.tape
  output : w1.output = w.output
  size : w.heap.size ≤ w1.heap.size
  block : ∀ k, k < w.heap.size → w1.heap[k]? = w.heap[k]?
theorem Fr.grows {w0 w w1 : World} {S : Nat → Prop} (h : Fr w0 S w) (g : Grows w w1) : Fr w0 S w1 :=
  ⟨g.os.trans h.os, g.tape.trans h.tape, g.output.trans h.output, Nat.le_trans h.size g.size, fun k hk hS => (g.block k (Nat.lt_of_lt_of_le hk h.size)).trans (h.block k hk hS)⟩
theorem Grows.alloc (w : World) (o : Obj) : Grows w (w.alloc o) := ⟨rfl, rfl, rfl, by simp, fun k hk => Below.heap_alloc w o k hk⟩
theorem Grows.of_below {w w1 : World} (h : Below w.heap.size w w1) : Grows w w1 := ⟨h.os, h.tape, h.output, h.size, h.block⟩
theorem cell_grows {w w1 : World} (g : Grows w w1) {a : Addr} {v : Value} (h : w.cell? a = some v) : w1.cell? a = some v :=
  (World.cell?_of_block (g.block a.block (World.block_lt_of_cell? w a h))).trans h

/-- The world grows; the snapshot takes in cells of new blocks. -/
theorem Inv.grows {c : Ctx} {m : Mem} {μ μ1 : Mu} {L : Loc} {ow : Nat → Option Nat} {w w1 : World} (h : Inv c m μ L ow w) (g : Grows w w1)
    (hm : Mu.le μ μ1) (hn : ∀ a v, μ1 a = some v → μ a = some v ∨ (w.heap.size ≤ a.block ∧ w1.cell? a = some v)) : Inv c m μ1 L ow w1 where
  fr := h.fr.grows g
  mu := fun a v ha => by
    rcases hn a v ha with h1 | h1
    · exact cell_grows g (h.mu a v h1)
    · exact h1.2
  mu0 := fun a v ha => hm a v (h.mu0 a v ha)
  muNew := fun a v ha => by
    rcases hn a v ha with h1 | h1
    · exact h.muNew a v h1
    · exact .inr (Nat.le_trans h.fr.size h1.1)
  muOwn := fun a v ha id ho => by
    rcases hn a v ha with h1 | h1
    · exact h.muOwn a v h1 id ho
    · have := (h.own _ _ ho).1
      omega
  own := fun b id ho => ⟨Nat.lt_of_lt_of_le (h.own b id ho).1 g.size, (h.own b id ho).2⟩
  box := fun id g' cs hi => by
    obtain ⟨ho, vs, e, hh, hs, hr, hv⟩ := h.box id g' cs hi
    refine ⟨ho, vs, e, (g.block _ (h.own _ _ ho).1).trans hh, hs, hr, fun i x hx => ?_⟩
    obtain ⟨v, h1, h2, h3⟩ := hv i x hx
    exact ⟨v, h1, h2, h3.mono hm (Stays.refl _ _)⟩
  tok := fun id e sz n hi => by
    obtain ⟨h0, ⟨cells, hr⟩, ho⟩ := h.tok id e sz n hi
    exact ⟨h0, ⟨cells, rowAt_keep hr fun b hb => g.block b (h.own _ _ (ho b hb).1).1⟩, ho⟩
  froz := fun id g' cs hi => (h.froz id g' cs hi).mono hm
end Go.Pm
namespace Go.Pm
open Go.RowKit

/-! ### A new block that is only read from now on -/
def Mu.add (μ : Mu) (b : Nat) (vs : Array Value) : Mu := fun a => if a.block = b ∧ a.spot = none then vs[a.off]? else μ a
theorem Mu.add_new {μ : Mu} {b : Nat} {vs : Array Value} (i : Nat) : μ.add b vs ⟨b, i, none⟩ = vs[i]? := by simp [Mu.add]
section
variable {c : Ctx} {m : Mem} {μ : Mu} {L : Loc} {ow : Nat → Option Nat} {w : World}
theorem Inv.fresh (h : Inv c m μ L ow w) {b : Nat} (hb : w.heap.size ≤ b) : ow b = none := by
  cases ho : ow b with
  | none => rfl
  | some id => have := (h.own b id ho).1; omega
theorem Inv.mu_lt (h : Inv c m μ L ow w) {a : Addr} {v : Value} (ha : μ a = some v) : a.block < w.heap.size := World.block_lt_of_cell? w a (h.mu a v ha)
theorem Inv.mu_spot (h : Inv c m μ L ow w) {a : Addr} {v : Value} (ha : μ a = some v) : a.spot = none := by
  have := h.mu a v ha
  unfold World.cell? at this
  split at this
  · split at this
    · cases this
    · rename_i hs; simpa using hs
  · cases this
theorem Inv.le_add (h : Inv c m μ L ow w) (vs : Array Value) : Mu.le μ (μ.add w.heap.size vs) := by
  intro a v ha
  have := h.mu_lt ha
  unfold Mu.add
  rw [if_neg (by omega)]
  exact ha
theorem Inv.persist (h : Inv c m μ L ow w) (vs : Array Value) (e : Nat) (fr : Nat × Nat) : Inv c m (μ.add w.heap.size vs) L ow (w.alloc (.cells vs e fr)) :=
  h.grows (.alloc w _) (h.le_add vs) fun a v ha => by
    unfold Mu.add at ha
    split at ha
    · rename_i hb
      refine .inr ⟨by omega, ?_⟩
      obtain ⟨b, o, s⟩ := a
      obtain ⟨hb, hs⟩ := hb
      simp only at hb hs ha
      subst hb hs
      rw [World.cell?_alloc_mark]
      exact ha
    · exact .inl ha

/-! ### A new block that is owned -/
def Loc.setBlk (L : Loc) (id b r : Nat) : Loc := ⟨fun i => if i = id then b else L.blk i, fun i => if i = id then r else L.room i, L.hdr⟩
def Loc.setHdr (L : Loc) (id : Nat) (v : Value) : Loc := ⟨L.blk, L.room, fun i => if i = id then v else L.hdr i⟩
def setM (m : Mem) (id : Nat) (o : Own) : Mem := fun i => if id = i then some o else m i
theorem look_set (l : List (Nat × Own)) (id : Nat) (o : Own) : look ((id, o) :: l) = setM (look l) id o := by
  funext i
  simp [look_cons, setM]
theorem setM_self (m : Mem) (id : Nat) (o : Own) : setM m id o id = some o := by simp [setM]
theorem setM_ne (m : Mem) {id j : Nat} (o : Own) (h : id ≠ j) : setM m id o j = m j := by simp [setM, h]
theorem Stays.new (L : Loc) {m : Mem} {id : Nat} (hid : m id = none) (o : Own) (L' : Loc) (hb : ∀ i, i ≠ id → L'.blk i = L.blk i) (hr : ∀ i, i ≠ id → L'.room i = L.room i) (hh : ∀ i, i ≠ id → L'.hdr i = L.hdr i) : Stays L m L' (setM m id o) := by
  refine ⟨fun i o' g hi hg => ?_, fun i e sz n hi => ?_⟩
  all_goals
    have hne : i ≠ id := fun e => by rw [e, hid] at hi; cases hi
    rw [setM_ne m o (Ne.symm hne), hi]
  · exact ⟨o', g, rfl, hg, Nat.le_refl _, fun _ => ⟨hb i hne, hr i hne⟩⟩
  · exact ⟨n, rfl, Nat.le_refl _, fun _ => hh i hne⟩
/-- One thing that stands turns. -/
theorem Stays.turn (L : Loc) {m : Mem} {id : Nat} {o : Own} (hid : m id = some o) (o1 : Own) (L' : Loc) (hb : ∀ i, i ≠ id → L'.blk i = L.blk i) (hr : ∀ i, i ≠ id → L'.room i = L.room i) (hh : ∀ i, i ≠ id → L'.hdr i = L.hdr i)
    (hg : ∀ g, o.gen = some g → ∃ g', o1.gen = some g' ∧ g ≤ g' ∧ (g' = g → L'.blk id = L.blk id ∧ L'.room id = L.room id))
    (ht : ∀ e sz n, o = .tok e sz n → ∃ n', o1 = .tok e sz n' ∧ n ≤ n' ∧ (n' = n → L'.hdr id = L.hdr id)) : Stays L m L' (setM m id o1) := by
  refine ⟨fun i o' g hi hgi => ?_, fun i e sz n hi => ?_⟩
  · by_cases he : id = i
    · subst he
      rw [hid] at hi
      injection hi with hi
      subst hi
      obtain ⟨g', h1, h2, h3⟩ := hg g hgi
      exact ⟨o1, g', setM_self _ _ _, h1, h2, h3⟩
    · exact ⟨o', g, by rw [setM_ne m _ he, hi], hgi, Nat.le_refl _, fun _ => ⟨hb i (Ne.symm he), hr i (Ne.symm he)⟩⟩
  · by_cases he : id = i
    · subst he
      rw [hid] at hi
      injection hi with hi
      obtain ⟨n', h1, h2, h3⟩ := ht e sz n hi
      exact ⟨n', by rw [setM_self, h1], h2, h3⟩
    · exact ⟨n, by rw [setM_ne m _ he, hi], Nat.le_refl _, fun _ => hh i (Ne.symm he)⟩
def setOw (ow : Nat → Option Nat) (b id : Nat) : Nat → Option Nat := fun i => if i = b then some id else ow i

theorem RepF.mono {μ μ' : Mu} (hm : Mu.le μ μ') {xs : List D} {l : List Value} (h : RepF μ xs l) : RepF μ' xs l := by
  induction h with
  | nil => exact .nil
  | cons h t ih => exact .cons (h.mono hm) ih

/-- New cells. -/
theorem Inv.newBox (h : Inv c m μ L ow w) {id : Nat} (hid : m id = none) (vs : Array Value) (e g : Nat) (cs : List T) (hs : cs.length ≤ vs.size)
    (hv : ∀ (i : Nat) (x : T), cs[i]? = some x → ∃ v, vs[i]? = some v ∧ v.oneCell' = true ∧ RepT μ L m x v) :
    Inv c (setM m id (.box g cs)) μ (L.setBlk id w.heap.size vs.size) (setOw ow w.heap.size id) (w.alloc (.cells vs e)) ∧ Stays L m (L.setBlk id w.heap.size vs.size) (setM m id (.box g cs)) := by
  have hst : Stays L m (L.setBlk id w.heap.size vs.size) (setM m id (.box g cs)) := Stays.new L hid _ _ (fun i hi => by simp [Loc.setBlk, hi]) (fun i hi => by simp [Loc.setBlk, hi]) (fun i _ => rfl)
  have hg := h.grows (Grows.alloc w (.cells vs e)) (Mu.le_refl μ) (fun a v ha => .inl ha)
  have owlt : ∀ b i, ow b = some i → b ≠ w.heap.size := fun b i hb e => by have := (h.own b i hb).1; omega
  refine ⟨⟨hg.fr, hg.mu, hg.mu0, hg.muNew, ?_, ?_, ?_, ?_, ?_⟩, hst⟩
  · intro a v ha i hi
    have hlt := h.mu_lt ha
    have : ow a.block = some i := by simpa [setOw, Nat.ne_of_lt hlt] using hi
    obtain ⟨e', sz, n, hm, ho⟩ := h.muOwn a v ha i this
    refine ⟨e', sz, n, ?_, ho⟩
    have : id ≠ i := fun e => by rw [← e, hid] at hm; cases hm
    simp [setM, this, hm]
  · intro b i hb
    unfold setOw at hb
    split at hb
    · rename_i e'
      subst e'
      exact ⟨by simp, .inl h.fr.size⟩
    · exact ⟨by have := (h.own b i hb).1; simp; omega, (h.own b i hb).2⟩
  · intro i g' cs' hi
    by_cases he : id = i
    · subst he
      simp only [setM, if_true] at hi
      injection hi with hi
      injection hi with hi1 hi
      subst hi1 hi
      refine ⟨by simp [Loc.setBlk, setOw], vs, e, by simpa [Loc.setBlk] using heap_alloc_new w _, hs, by simp [Loc.setBlk], fun j x hx => ?_⟩
      obtain ⟨v, h1, h2, h3⟩ := hv j x hx
      exact ⟨v, h1, h2, h3.mono (Mu.le_refl _) hst⟩
    · have hi' : m i = some (.box g' cs') := by simpa [setM, he] using hi
      obtain ⟨ho, vs', e', hh, hs', hr', hv'⟩ := hg.box i g' cs' hi'
      have he' : i ≠ id := fun x => he x.symm
      have hb : (L.setBlk id w.heap.size vs.size).blk i = L.blk i := by simp [Loc.setBlk, he']
      rw [hb]
      refine ⟨by simp [setOw, owlt _ _ ho, ho], vs', e', hh, hs', by simp [Loc.setBlk, he', hr'], fun j x hx => ?_⟩
      obtain ⟨v, h1, h2, h3⟩ := hv' j x hx
      exact ⟨v, h1, h2, h3.mono (Mu.le_refl _) hst⟩
  · intro i e' sz n hi
    by_cases he : id = i
    · subst he
      simp [setM] at hi
    · have hi' : m i = some (.tok e' sz n) := by simpa [setM, he] using hi
      obtain ⟨h0, h1, h2⟩ := hg.tok i e' sz n hi'
      exact ⟨h0, h1, fun b hb => ⟨by simp [setOw, owlt _ _ (h2 b hb).1, (h2 b hb).1], (h2 b hb).2⟩⟩
  · intro i g' cs' hi
    by_cases he : id = i
    · subst he
      simp [setM] at hi
    · have hi' : m i = some (.froz g' cs') := by simpa [setM, he] using hi
      have he' : i ≠ id := fun x => he x.symm
      simpa [Loc.setBlk, he'] using hg.froz i g' cs' hi'

/-- A cell is written. -/
theorem Inv.store (h : Inv c m μ L ow w) {id g : Nat} {cs : List T} (hid : m id = some (.box g cs)) (i : Nat) (hi : i < cs.length) (x : T) (v : Value) (h1 : v.oneCell' = true) (hx : RepT μ L m x v) :
    Inv c (setM m id (.box g (cs.set i x))) μ L ow (w.setCell ⟨L.blk id, i, none⟩ v) ∧ Stays L m L (setM m id (.box g (cs.set i x))) ∧ (∃ u, w.cell? ⟨L.blk id, i, none⟩ = some u) ∧ w.frozen? ⟨L.blk id, i, none⟩ = false := by
  obtain ⟨ho, vs, e, hh, hs, hroom, hv⟩ := h.box id g cs hid
  have hst : Stays L m L (setM m id (.box g (cs.set i x))) := Stays.turn L hid _ _ (fun _ _ => rfl) (fun _ _ => rfl) (fun _ _ => rfl) (fun g' hg => ⟨g', hg, Nat.le_refl _, fun _ => ⟨rfl, rfl⟩⟩) (fun _ _ _ q => by cases q)
  have hother : ∀ k, k ≠ L.blk id → (w.setCell ⟨L.blk id, i, none⟩ v).heap[k]? = w.heap[k]? := fun k hk => Below.heap_setCell w _ v k hk
  have hself : (w.setCell ⟨L.blk id, i, none⟩ v).heap[L.blk id]? = some (.cells (vs.setIfInBounds i v) e (0, 0)) := by
    simp [World.setCell, Array.getElem?_modify, hh]
  have hnomu : ∀ a u, μ a = some u → a.block ≠ L.blk id := fun a u ha e => by
    obtain ⟨e', sz, n, hm, _⟩ := h.muOwn a u ha id (by rw [e]; exact ho)
    rw [hid] at hm
    cases hm
  have hcell : ∃ u, w.cell? ⟨L.blk id, i, none⟩ = some u := by
    refine ⟨vs[i], ?_⟩
    rw [cell_of_row w _ i vs e (0, 0) hh]
    exact Array.getElem?_eq_getElem (by omega)
  refine ⟨⟨?_, ?_, h.mu0, h.muNew, ?_, ?_, ?_, ?_, ?_⟩, hst, hcell, by simp [World.frozen?, hh]⟩
  · refine ⟨h.fr.os, h.fr.tape, h.fr.output, by simpa [World.setCell] using h.fr.size, fun k hk hS => ?_⟩
    rw [hother k (fun e => ?_)]
    · exact h.fr.block k hk hS
    · subst e
      rcases (h.own _ _ ho).2 with h' | h'
      · omega
      · exact hS h'
  · intro a u ha
    rw [World.cell?_of_block (w := w) (hother _ (hnomu a u ha))]
    exact h.mu a u ha
  · intro a u ha j hj
    obtain ⟨e', sz, n, hm, hoff⟩ := h.muOwn a u ha j hj
    have : id ≠ j := fun e => by rw [← e, hid] at hm; cases hm
    exact ⟨e', sz, n, by simp [setM, this, hm], hoff⟩
  · intro b j hb
    exact ⟨by simpa [World.setCell] using (h.own b j hb).1, (h.own b j hb).2⟩
  · intro j g' cs' hj
    by_cases he : id = j
    · subst he
      simp only [setM, if_true] at hj
      injection hj with hj
      injection hj with hj1 hj
      subst hj1 hj
      refine ⟨ho, _, e, hself, by simpa using hs, by simpa using hroom, fun k y hy => ?_⟩
      rw [List.getElem?_set] at hy
      split at hy
      · rename_i hk
        subst hk
        try rw [if_pos hi] at hy
        injection hy with hy
        subst hy
        exact ⟨v, by simp [Array.getElem?_setIfInBounds, show i < vs.size by omega], h1, hx.mono (Mu.le_refl _) hst⟩
      · rename_i hk
        obtain ⟨u, h2, h3, h4⟩ := hv k y hy
        exact ⟨u, by rw [Array.getElem?_setIfInBounds, if_neg hk]; exact h2, h3, h4.mono (Mu.le_refl _) hst⟩
    · have hj' : m j = some (.box g' cs') := by simpa [setM, he] using hj
      obtain ⟨ho', vs', e', hh', hs', hr', hv'⟩ := h.box j g' cs' hj'
      have hne : L.blk j ≠ L.blk id := fun e => by rw [e, ho] at ho'; injection ho' with ho'; exact he ho'
      refine ⟨ho', vs', e', (hother _ hne).trans hh', hs', hr', fun k y hy => ?_⟩
      obtain ⟨u, h2, h3, h4⟩ := hv' k y hy
      exact ⟨u, h2, h3, h4.mono (Mu.le_refl _) hst⟩
  · intro j e' sz n hj
    have he : id ≠ j := fun e => by subst e; simp [setM] at hj
    have hj' : m j = some (.tok e' sz n) := by simpa [setM, he] using hj
    obtain ⟨h0, ⟨cells, hr⟩, h2⟩ := h.tok j e' sz n hj'
    refine ⟨h0, ⟨cells, rowAt_keep hr fun b hb => hother b fun e => ?_⟩, h2⟩
    have := (h2 b hb).1
    rw [e, ho] at this
    injection this with this
    exact he this
  · intro j g' cs' hj
    have he : id ≠ j := fun e => by subst e; simp [setM] at hj
    exact h.froz j g' cs' (by simpa [setM, he] using hj)

/-- What the cells of a list of data are. -/
def unD1 : T → Option D
  | .d x => some x
  | .own _ xs => some (.slice xs)
  | _ => none
theorem unD1_rep {x : T} {y : D} {v : Value} (h : RepT μ L m x v) (hy : unD1 x = some y) : RepD μ y v := by
  cases h <;> simp [unD1] at hy <;> subst hy <;> assumption
theorem RepL.of_get {μ : Mu} : ∀ {ds : List D} {l : List Value}, l.length = ds.length → (∀ (i : Nat) (y : D), ds[i]? = some y → ∃ v, l[i]? = some v ∧ RepD μ y v ∧ v.oneCell' = true) → RepL μ ds l
  | [], [], _, _ => .nil
  | [], _ :: _, hl, _ => by simp at hl
  | _ :: _, [], hl, _ => by simp at hl
  | y :: ds, v :: l, hl, hg => by
    obtain ⟨u, h1, h2, h3⟩ := hg 0 y rfl
    simp at h1
    subst h1
    exact .cons h2 h3 (RepL.of_get (by simpa using hl) fun i z hz => by simpa using hg (i + 1) z (by simpa using hz))
/-- Cells that nobody will write any more. -/
def Mu.ice (μ : Mu) (b k : Nat) (vs : Array Value) : Mu := fun a => if a.block = b ∧ a.spot = none ∧ a.off < k then vs[a.off]? else μ a
theorem Inv.freeze (h : Inv c m μ L ow w) (hS : ∀ b, ¬ c.S b) {id g : Nat} {cs : List T} (hid : m id = some (.box g cs)) {ds : List D} (hlen : ds.length = cs.length) (hd : ∀ (i : Nat) (x : T), cs[i]? = some x → ∃ y, unD1 x = some y ∧ ds[i]? = some y) :
    ∃ μ' ow', Inv c (setM m id (.froz g ds)) μ' L ow' w ∧ Mu.le μ μ' ∧ Stays L m L (setM m id (.froz g ds)) := by
  obtain ⟨ho, vs, e, hh, hs, hroom, hv⟩ := h.box id g cs hid
  have hst : Stays L m L (setM m id (.froz g ds)) := Stays.turn L hid _ _ (fun _ _ => rfl) (fun _ _ => rfl) (fun _ _ => rfl) (fun g' hg => ⟨g', hg, Nat.le_refl _, fun _ => ⟨rfl, rfl⟩⟩) (fun _ _ _ q => by cases q)
  have hnomu : ∀ a u, μ a = some u → a.block ≠ L.blk id := fun a u ha e => by
    obtain ⟨e', sz, n, hm, _⟩ := h.muOwn a u ha id (by rw [e]; exact ho)
    rw [hid] at hm
    cases hm
  have hnew : c.w0.heap.size ≤ L.blk id := by
    rcases (h.own _ _ ho).2 with h' | h'
    · exact h'
    · exact absurd h' (hS _)
  have hle : Mu.le μ (μ.ice (L.blk id) cs.length vs) := by
    intro a v ha
    unfold Mu.ice
    rw [if_neg fun q => hnomu a v ha q.1]
    exact ha
  have hcell : ∀ k, w.cell? ⟨L.blk id, k, none⟩ = vs[k]? := fun k => cell_of_row w _ k vs e (0, 0) hh
  have how : ∀ b i, (if b = L.blk id then none else ow b) = some i → ow b = some i ∧ b ≠ L.blk id := by
    intro b i hb
    split at hb
    · cases hb
    · exact ⟨hb, by assumption⟩
  have hne : ∀ b i, ow b = some i → id ≠ i → b ≠ L.blk id := fun b i hb hi e => by rw [e, ho] at hb; injection hb with hb; exact hi hb
  refine ⟨μ.ice (L.blk id) cs.length vs, fun b => if b = L.blk id then none else ow b, ⟨h.fr, ?_, ?_, ?_, ?_, ?_, ?_, ?_, ?_⟩, hle, hst⟩
  · intro a v ha
    unfold Mu.ice at ha
    split at ha
    · rename_i hc
      obtain ⟨b, o, s⟩ := a
      obtain ⟨rfl, rfl, _⟩ := hc
      rw [hcell]; exact ha
    · exact h.mu a v ha
  · exact fun a v ha => hle a v (h.mu0 a v ha)
  · intro a v ha
    unfold Mu.ice at ha
    split at ha
    · rename_i hc; exact .inr (by omega)
    · exact h.muNew a v ha
  · intro a v ha i hi
    obtain ⟨h1, h2⟩ := how _ _ hi
    unfold Mu.ice at ha
    rw [if_neg fun q => h2 q.1] at ha
    obtain ⟨e', sz, n, hm, hoff⟩ := h.muOwn a v ha i h1
    have : id ≠ i := fun q => by rw [← q, hid] at hm; cases hm
    exact ⟨e', sz, n, by rw [setM_ne m _ this]; exact hm, hoff⟩
  · intro b i hb
    exact h.own b i (how _ _ hb).1
  · intro j g' cs' hj
    have he : id ≠ j := fun q => by subst q; simp [setM] at hj
    obtain ⟨ho', vs', e', hh', hs', hr', hv'⟩ := h.box j g' cs' (by simpa [setM, he] using hj)
    refine ⟨by rw [if_neg (hne _ _ ho' he)]; exact ho', vs', e', hh', hs', hr', fun k y hy => ?_⟩
    obtain ⟨u, h2, h3, h4⟩ := hv' k y hy
    exact ⟨u, h2, h3, h4.mono hle hst⟩
  · intro j e' sz n hj
    have he : id ≠ j := fun q => by subst q; simp [setM] at hj
    obtain ⟨h0, h1, h2⟩ := h.tok j e' sz n (by simpa [setM, he] using hj)
    exact ⟨h0, h1, fun b hb => ⟨by rw [if_neg (hne _ _ (h2 b hb).1 he)]; exact (h2 b hb).1, (h2 b hb).2⟩⟩
  · intro j g' cs' hj
    by_cases he : id = j
    · subst he
      simp only [setM, if_true] at hj
      injection hj with hj
      injection hj with hj1 hj2
      subst hj1 hj2
      have hl : (vs.toList.take cs.length).length = ds.length := by rw [List.length_take, Array.length_toList, hlen]; exact Nat.min_eq_left hs
      refine RepC.of_vals (l := vs.toList.take cs.length) (RepL.of_get hl fun i y hy => ?_) fun i v hv1 => ?_
      · have hi : i < cs.length := by rw [← hlen]; exact (List.getElem?_eq_some_iff.1 hy).1
        obtain ⟨u, h2, h3, h4⟩ := hv i cs[i] (List.getElem?_eq_getElem hi)
        obtain ⟨y', h5, h6⟩ := hd i cs[i] (List.getElem?_eq_getElem hi)
        rw [hy] at h6
        injection h6 with h6
        subst h6
        exact ⟨u, by rw [List.getElem?_take, if_pos hi]; simpa using h2, (unD1_rep h4 h5).mono hle, h3⟩
      · have hi : i < cs.length := by have := (List.getElem?_eq_some_iff.1 hv1).1; rw [hl, hlen] at this; exact this
        unfold Mu.ice
        rw [if_pos ⟨rfl, rfl, by simpa using hi⟩]
        rw [List.getElem?_take, if_pos hi] at hv1
        simpa using hv1
    · exact (h.froz j g' cs' (by simpa [setM, he] using hj)).mono hle
end
end Go.Pm
namespace Go.Pm
open Go.RowKit

theorem RepC.move {μ μ' : Mu} (hle : Mu.le μ μ') {b b' : Nat} : ∀ {cs : List D} {o o' : Nat}, RepC μ cs b o → (∀ i u, μ ⟨b, o + i, none⟩ = some u → μ' ⟨b', o' + i, none⟩ = some u) → RepC μ' cs b' o'
  | _, o, o', .nil _ _, _ => .nil _ _
  | _, o, o', .cons h h1 hm t, hv => .cons (h.mono hle) h1 (hv 0 _ hm) (t.move hle fun i u hu => by
      have := hv (i + 1) u (by rwa [Nat.add_comm i 1, ← Nat.add_assoc])
      rwa [Nat.add_comm i 1, ← Nat.add_assoc] at this)
theorem RepE.move {μ μ' : Mu} (hle : Mu.le μ μ') {b b' o o' : Nat} {x : D} (h : RepE μ x b o) (hv : ∀ i u, μ ⟨b, o + i, none⟩ = some u → μ' ⟨b', o' + i, none⟩ = some u) : RepE μ' x b' o' := by
  cases h with
  | agg h => exact .agg (h.move hle hv)
  | one h h1 hm => exact .one (h.mono hle) h1 (hv 0 _ hm)
theorem RepRow.move {μ μ' : Mu} (hle : Mu.le μ μ') {b b' : Nat} : ∀ {xs : List D} {o o' : Nat}, RepRow μ xs b o → (∀ i u, μ ⟨b, o + i, none⟩ = some u → μ' ⟨b', o' + i, none⟩ = some u) → RepRow μ' xs b' o'
  | _, o, o', .nil _ _, _ => .nil _ _
  | _, o, o', .cons (x := x) h t, hv => .cons (h.move hle hv) (t.move hle fun i u hu => by
      have := hv (x.sz + i) u (by rwa [← Nat.add_assoc])
      rwa [← Nat.add_assoc] at this)
/-- A row's cells, one behind the other. -/
theorem RepRow.flat {μ : Mu} {b : Nat} : ∀ {xs : List D} {o : Nat}, RepRow μ xs b o → ∃ l, RepF μ xs l ∧ ∀ (i : Nat) (u : Value), l[i]? = some u → μ ⟨b, o + i, none⟩ = some u
  | _, _, .nil _ _ => ⟨[], .nil, by simp⟩
  | _, o, .cons (x := x) h t => by
    obtain ⟨l, hl, hg⟩ := t.flat
    obtain ⟨c, hc, hcg⟩ := h.cells.vals
    have hlen : c.length = x.sz := by
      rw [hc.length]
      cases x <;> simp [D.cells, D.sz]
    refine ⟨c ++ l, .cons hc hl, fun i u hu => ?_⟩
    rcases Nat.lt_or_ge i c.length with hi | hi
    · rw [List.getElem?_append_left hi] at hu
      exact hcg i u hu
    · rw [List.getElem?_append_right hi] at hu
      have := hg _ u hu
      rwa [hlen, Nat.add_assoc, Nat.add_sub_cancel' (by omega)] at this
theorem D.cells_length (x : D) : x.cells.length = x.sz := by cases x <;> simp [D.cells, D.sz]
theorem RepE.of_L {μ μ' : Mu} (hle : Mu.le μ μ') {x : D} {c : List Value} {b o : Nat} (h : RepL μ x.cells c) (hv : ∀ (i : Nat) (u : Value), c[i]? = some u → μ' ⟨b, o + i, none⟩ = some u) : RepE μ' x b o := by
  have h' := h.mono hle
  cases x with
  | agg cs => exact .agg (RepC.of_vals h' hv)
  | _ =>
    cases h' with
    | cons h2 h1 t => exact .one h2 h1 (hv 0 _ rfl)
theorem RepF.row {μ μ' : Mu} (hle : Mu.le μ μ') {b : Nat} : ∀ {xs : List D} {l : List Value} {o : Nat}, RepF μ xs l → (∀ (i : Nat) (u : Value), l[i]? = some u → μ' ⟨b, o + i, none⟩ = some u) → RepRow μ' xs b o
  | _, _, o, .nil, _ => .nil _ _
  | _, _, o, .cons (x := x) (c := c) (l := l) h t, hv => by
    have hlen : c.length = x.sz := by rw [h.length, D.cells_length]
    refine .cons (RepE.of_L hle h fun i u hu => hv i u ?_) (t.row hle fun i u hu => ?_)
    · have hi : i < c.length := (List.getElem?_eq_some_iff.1 hu).1
      rw [List.getElem?_append_left hi]; exact hu
    · have := hv (x.sz + i) u (by rw [← hlen, List.getElem?_append_right (by omega), Nat.add_sub_cancel_left]; exact hu)
      rwa [← Nat.add_assoc] at this
theorem RepF.length {μ : Mu} {sz : Nat} : ∀ {xs : List D} {l : List Value}, RepF μ xs l → (∀ y ∈ xs, y.sz = sz) → l.length = xs.length * sz
  | _, _, .nil, _ => by simp
  | _, _, .cons (x := x) h t, hs => by
    rw [List.length_append, h.length, D.cells_length, hs x List.mem_cons_self, t.length (fun y hy => hs y (List.mem_cons_of_mem _ hy)), List.length_cons, Nat.add_mul, Nat.one_mul, Nat.add_comm]
theorem RepF.one {μ : Mu} : ∀ {xs : List D} {l : List Value}, RepF μ xs l → ∀ u ∈ l, u.oneCell' = true
  | _, _, .nil, u, hu => by simp at hu
  | _, _, .cons h t, u, hu => by
    rcases List.mem_append.1 hu with hu | hu
    · exact h.one u hu
    · exact t.one u hu

/-- What an append of at least one element does: in the row's own block, or in a new one; nothing else turns. -/
theorem run_append_two {P : Program} (w : World) (t ty e : TypeId) (i : TypeInfo) (z : Value) (ht : P.underlying t = some (.slice e)) (hi : P.info? e = some i) (hz : i.zero = some z) (hzs : z.cells.size = i.size) (hsz : 0 < i.size)
    (v : Value) (n : Nat) (xs : List Value) (hown : rowAt w e i.size v n xs)
    (a : Addr) (m c : Nat) (news : List Value) (hl : news.length = m * i.size) (hm : 0 < m) (hnews : ∀ j u, news[j]? = some u → w.cell? (a.add j) = some u) (h1 : ∀ u ∈ news, u.oneCell' = true)
    (h63 : n + m ≤ maxLen) (hbytes : (n + m) * i.bytes ≤ 140737488355328) :
    ∃ v' w', (Builtin.append_ #[t, t] ty #[v, .slice (some a) m c]).run P w = .ok v' w' ∧ rowAt w' e i.size v' (n + m) (xs ++ news) ∧
      ((v'.ownBlock = v.ownBlock ∧ w.grownBy w' v.ownBlock) ∨ (v'.ownBlock = some w.heap.size ∧ w.grownBy w' none)) := by
  have hlen : (xs ++ news).length = (n + m) * i.size := by rw [List.length_append, hown.1, hl, Nat.add_mul]
  have hsmall : n + m ≤ 9223372036854775807 := by simp only [maxLen] at h63; omega
  have grown : ∀ (old : Nat), old < n + m →
      rowAt (w.drew.alloc (.cells (xs.toArray ++ news.toArray ++ Builtin.zeroCells z.cells (grownCap w (n + m) old e - (n + m))) e)) e i.size
        (.slice (some ⟨w.heap.size, 0, none⟩) (n + m) (grownCap w (n + m) old e)) (n + m) (xs ++ news) ∧
      w.grownBy (w.drew.alloc (.cells (xs.toArray ++ news.toArray ++ Builtin.zeroCells z.cells (grownCap w (n + m) old e - (n + m))) e)) none := by
    intro old ho
    have hge := grownCap_ge w (n + m) old e
    have hcm : grownCap w (n + m) old e ≤ maxLen := grownCap_le_maxLen w (n + m) old e h63
    refine ⟨⟨hlen, .inr ⟨w.heap.size, _, _, rfl, Nat.zero_le _, heap_alloc_new w.drew _, hge, hcm, ?_, ?_⟩⟩, ⟨rfl, rfl, rfl, by simp, fun k hk _ => Below.heap_alloc w.drew _ k hk⟩⟩
    · simp only [Array.size_append, List.size_toArray, size_zeroCells, hzs, hown.1, hl, ← Nat.add_mul]
      congr 1
      omega
    · simp only [Array.toList_append, List.append_assoc]
      rw [← List.append_assoc, ← hlen]
      exact List.take_left
  rcases hown.2 with ⟨rfl, rfl⟩ | ⟨g, cap, cur, rfl, hbg, hg, hnc, hcm, hcs, htake⟩
  · have hx : xs = [] := List.eq_nil_of_length_eq_zero (by simpa using hown.1)
    subst hx
    have hr := run_append_nil (P := P) w t ty e i z ht hi hz a m c news hl hnews hm (by omega) (by simp only [Nat.zero_add] at hbytes; omega)
    have hgr := grown 0 (by omega)
    simp only [Nat.zero_add, List.nil_append, Array.empty_append] at hgr ⊢
    exact ⟨_, _, hr, hgr.1, .inr ⟨rfl, hgr.2⟩⟩
  · by_cases hroom : n + m ≤ cap
    · have hfit : n * i.size + news.length ≤ cur.size := by rw [hl, hcs, ← Nat.add_mul]; exact Nat.mul_le_mul_right _ hroom
      have hr := run_append_room (P := P) w t ty e i ht hi g n cap cur hg a m c news hl hnews h1 hroom hfit
      refine ⟨_, _, hr, ⟨hlen, .inr ⟨g, cap, _, rfl, hbg, setRow_heap w g cur _ e _ hg, hroom, hcm, ?_, ?_⟩⟩, .inl ⟨rfl, ⟨rfl, rfl, rfl, by simp, fun k _ hk => setRow_other w g k _ (fun e => hk (by simp [Value.ownBlock, e]))⟩⟩⟩
      · simp only [List.size_toArray, List.length_append, List.length_take, List.length_drop, Array.length_toList]
        omega
      · rw [htake, ← hlen]
        exact List.take_left
    · have holds : ∀ j u, xs[j]? = some u → w.cell? ((⟨g, 0, none⟩ : Addr).add j) = some u := World.ownsRow.cells hown (g := g) rfl
      have hr := run_append_grow (P := P) w t ty e i z ht hi hz ⟨g, 0, none⟩ n cap xs hown.1 holds a m c news hl hnews (by omega) (by omega) (growslice_fits (by omega) hbytes)
      have hgr := grown cap (by omega)
      exact ⟨_, _, hr, hgr.1, .inr ⟨rfl, hgr.2⟩⟩

/-- The snapshot behind an append: the row's block from its beginning. -/
def Mu.row (μ : Mu) (b : Nat) (cells : List Value) : Mu := fun a => if a.block = b ∧ a.spot = none ∧ a.off < cells.length then cells[a.off]? else μ a

theorem Inv.append {c : Ctx} {m : Mem} {μ : Mu} {L : Loc} {ow : Nat → Option Nat} {w w1 : World} (h : Inv c m μ L ow w) {id e sz n k : Nat} (hid : m id = some (.tok e sz n)) (hk : 0 < k)
    {cells news : List Value} {v1 : Value} (hr : rowAt w e sz (L.hdr id) n cells) (hr1 : rowAt w1 e sz v1 (n + k) (cells ++ news))
    (hat : (v1.ownBlock = (L.hdr id).ownBlock ∧ w.grownBy w1 (L.hdr id).ownBlock) ∨ (v1.ownBlock = some w.heap.size ∧ w.grownBy w1 none)) :
    ∃ b cap, v1 = .slice (some ⟨b, 0, none⟩) (n + k) cap ∧ n + k ≤ cap ∧ cap ≤ maxLen ∧
      Inv c (setM m id (.tok e sz (n + k))) (μ.row b (cells ++ news)) (L.setHdr id v1) (setOw ow b id) w1 ∧ Stays L m (L.setHdr id v1) (setM m id (.tok e sz (n + k))) ∧
      Mu.le μ (μ.row b (cells ++ news)) := by
  obtain ⟨hz, _, hown2⟩ := h.tok id e sz n hid
  have hown : ∀ b, (L.hdr id).ownBlock = some b → ow b = some id := fun b hb => (hown2 b hb).1
  have hbase : ∀ b, (L.hdr id).ownBlock = some b → c.w0.heap.size ≤ b := fun b hb => (hown2 b hb).2
  obtain ⟨b, cap, cur, rfl, hh1, hle, hmax, hcur, htake⟩ : ∃ b cap cur, v1 = .slice (some ⟨b, 0, none⟩) (n + k) cap ∧ w1.heap[b]? = some (.cells cur e (0, 0)) ∧ n + k ≤ cap ∧ cap ≤ maxLen ∧ cur.size = cap * sz ∧ cur.toList.take ((n + k) * sz) = cells ++ news := by
    rcases hr1.2 with ⟨_, h0⟩ | ⟨g, cap, cur, h1, h2, h3, h4, h5, h6, h7⟩
    · omega
    · exact ⟨g, cap, cur, h1, h3, h4, h5, h6, h7⟩
  have hlen : (cells ++ news).length = (n + k) * sz := hr1.1
  have hclen : cells.length = n * sz := hr.1
  have hb' : (some b = (L.hdr id).ownBlock ∧ w.grownBy w1 (some b)) ∨ (b = w.heap.size ∧ w.grownBy w1 none) := by
    rcases hat with ⟨h1, h2⟩ | ⟨h1, h2⟩
    · rw [← h1] at h2; exact .inl ⟨h1, h2⟩
    · exact .inr ⟨by simpa [Value.ownBlock] using h1, h2⟩
  have hgb : w.grownBy w1 (some b) := by
    rcases hb' with ⟨_, h2⟩ | ⟨_, h2⟩
    · exact h2
    · exact ⟨h2.os, h2.tape, h2.output, h2.size, fun j hj _ => h2.block j hj (by simp)⟩
  have howb : ∀ i, ow b = some i → i = id ∧ some b = (L.hdr id).ownBlock := by
    intro i hi
    rcases hb' with ⟨h1, _⟩ | ⟨h1, _⟩
    · have := hown b h1.symm
      rw [hi] at this
      injection this with this
      exact ⟨this, h1⟩
    · have := (h.own _ _ hi).1
      omega
  -- a cell of the snapshot in block b
  have hold : ∀ a v, μ a = some v → a.block = b → cells[a.off]? = some v ∧ a.off < cells.length := by
    intro a v ha hab
    rcases hb' with ⟨h1, _⟩ | ⟨h1, _⟩
    · obtain ⟨e', sz', n', hm', hoff⟩ := h.muOwn a v ha id (by rw [hab]; exact hown b h1.symm)
      rw [hid] at hm'
      injection hm' with hm'
      injection hm' with q1 q2 q3
      subst q1 q2 q3
      have hlt : a.off < cells.length := by rw [hclen]; exact hoff
      refine ⟨?_, hlt⟩
      rcases hr.2 with ⟨hn, _⟩ | ⟨g, cap0, cur0, hhdr, _, hg0, _, _, _, ht0⟩
      · rw [hn] at h1; simp [Value.ownBlock] at h1
      · have hgb : b = g := by rw [hhdr] at h1; simpa [Value.ownBlock] using h1
        subst hgb
        have hc := h.mu a v ha
        have hsp := h.mu_spot ha
        obtain ⟨bb, oo, ss⟩ := a
        simp only at hab hsp hlt hoff
        subst hab hsp
        rw [cell_of_row w _ oo cur0 e (0, 0) hg0] at hc
        rw [← ht0, List.getElem?_take, if_pos hoff]
        simpa using hc
    · have := h.mu_lt ha
      omega
  have hmle : Mu.le μ (μ.row b (cells ++ news)) := by
    intro a v ha
    unfold Mu.row
    split
    · rename_i hc
      obtain ⟨h1, h2⟩ := hold a v ha hc.1
      rw [List.getElem?_append_left h2]
      exact h1
    · exact ha
  have hst : Stays L m (L.setHdr id (.slice (some ⟨b, 0, none⟩) (n + k) cap)) (setM m id (.tok e sz (n + k))) := by
    refine Stays.turn L hid _ _ (fun _ _ => rfl) (fun _ _ => rfl) (fun i hi => by simp [Loc.setHdr, hi]) (fun g q => by cases q) (fun e' sz' n' q => ?_)
    injection q with q1 q2 q3
    subst q1 q2 q3
    exact ⟨n + k, rfl, by omega, fun e => by omega⟩
  have hb1 : b < w1.heap.size := (Array.getElem?_eq_some_iff.1 hh1).1
  have hcell1 : ∀ o u, (cells ++ news)[o]? = some u → w1.cell? ⟨b, o, none⟩ = some u := by
    intro o u hu
    rw [cell_of_row w1 b o cur e (0, 0) hh1]
    rw [← htake, List.getElem?_take] at hu
    split at hu
    · simpa using hu
    · cases hu
  have hkeep : ∀ j, j ≠ b → j < w.heap.size → w1.heap[j]? = w.heap[j]? := fun j hj hlt => hgb.block j hlt (by simpa using hj)
  have hneb : ∀ j, j ≠ id → ∀ b', ow b' = some j → b' ≠ b := fun j hj b' hb' e' => hj (howb j (by rw [← e']; exact hb')).1
  have how : ∀ j b', j ≠ id → ow b' = some j → setOw ow b id b' = some j := fun j b' hj hb' => by simp [setOw, hneb j hj b' hb', hb']
  refine ⟨b, cap, rfl, hle, hmax, ⟨?_, ?_, ?_, ?_, ?_, ?_, ?_, ?_, ?_⟩, hst, hmle⟩
  · refine ⟨hgb.os.trans h.fr.os, hgb.tape.trans h.fr.tape, hgb.output.trans h.fr.output, Nat.le_trans h.fr.size hgb.size, fun j hj hS => ?_⟩
    rw [hkeep j (fun e' => ?_) (Nat.lt_of_lt_of_le hj h.fr.size)]
    · exact h.fr.block j hj hS
    · subst e'
      rcases hb' with ⟨h1, _⟩ | ⟨h1, _⟩
      · rcases (h.own _ _ (hown _ h1.symm)).2 with h' | h'
        · omega
        · exact hS h'
      · have := h.fr.size; omega
  · intro a v ha
    unfold Mu.row at ha
    split at ha
    · rename_i hc
      obtain ⟨bb, oo, ss⟩ := a
      obtain ⟨rfl, rfl, _⟩ := hc
      exact hcell1 _ _ ha
    · rename_i hc
      have hne : a.block ≠ b := fun e' => hc ⟨e', h.mu_spot ha, by
        have := (hold a v ha e').2
        rw [List.length_append]; omega⟩
      exact (World.cell?_of_block (w := w) (hkeep a.block hne (h.mu_lt ha))).trans (h.mu a v ha)
  · exact fun a v ha => hmle a v (h.mu0 a v ha)
  · intro a v ha
    unfold Mu.row at ha
    split at ha
    · rename_i hc
      by_cases hlt : a.block < c.w0.heap.size
      · -- an elder block: only if it was handed in; then it is the row's own and the cell an old one, or it is new
        right
        rcases hb' with ⟨h1, _⟩ | ⟨h1, _⟩
        · rw [hc.1]
          exact hbase b h1.symm
        · have := h.fr.size; omega
      · exact .inr (by omega)
    · exact h.muNew a v ha
  · intro a v ha i hi
    unfold Mu.row at ha
    unfold setOw at hi
    split at ha
    · rename_i hc
      rw [if_pos hc.1] at hi
      injection hi with hi
      subst hi
      exact ⟨e, sz, n + k, by simp [setM], by rw [← hlen]; exact hc.2.2⟩
    · split at hi
      · rename_i hc hb2
        have := hold a v ha hb2
        exact absurd ⟨hb2, h.mu_spot ha, by rw [List.length_append]; omega⟩ hc
      · obtain ⟨e', sz', n', hm', hoff⟩ := h.muOwn a v ha i hi
        by_cases he : id = i
        · subst he
          rw [hid] at hm'
          injection hm' with hm'
          injection hm' with q1 q2 q3
          subst q1 q2 q3
          exact ⟨e, sz, n + k, by simp [setM], Nat.lt_of_lt_of_le hoff (Nat.mul_le_mul_right _ (by omega))⟩
        · exact ⟨e', sz', n', by simp [setM, he, hm'], hoff⟩
  · intro b' i hi
    unfold setOw at hi
    split at hi
    · rename_i e'
      subst e'
      refine ⟨hb1, ?_⟩
      rcases hb' with ⟨h1, _⟩ | ⟨h1, _⟩
      · exact (h.own _ _ (hown _ h1.symm)).2
      · exact .inl (by rw [h1]; exact h.fr.size)
    · exact ⟨Nat.lt_of_lt_of_le (h.own _ _ hi).1 hgb.size, (h.own _ _ hi).2⟩
  · intro j g cs hj
    have he : id ≠ j := fun e => by subst e; simp [setM] at hj
    have hj' : m j = some (.box g cs) := by simpa [setM, he] using hj
    obtain ⟨ho, vs, e', hh, hs', hroom', hv'⟩ := h.box j g cs hj'
    refine ⟨how _ _ (fun e => he e.symm) ho, vs, e', (hkeep _ (hneb j (fun e => he e.symm) _ ho) (h.own _ _ ho).1).trans hh, hs', hroom', fun i x hx => ?_⟩
    obtain ⟨u, h1, h2, h3⟩ := hv' i x hx
    exact ⟨u, h1, h2, h3.mono hmle hst⟩
  · intro j e' sz' n' hj
    by_cases he : id = j
    · subst he
      simp only [setM, if_true] at hj
      injection hj with hj
      injection hj with q1 q2 q3
      subst q1 q2 q3
      refine ⟨hz, ⟨_, by simpa [Loc.setHdr] using hr1⟩, fun b' hb2 => ?_⟩
      simp [Loc.setHdr, Value.ownBlock] at hb2
      subst hb2
      refine ⟨by simp [setOw], ?_⟩
      rcases hb' with ⟨h1, _⟩ | ⟨h1, _⟩
      · exact hbase b h1.symm
      · rw [h1]; exact h.fr.size
    · have hj' : m j = some (.tok e' sz' n') := by simpa [setM, he] using hj
      have he' : ¬ j = id := fun e => he e.symm
      obtain ⟨h0, ⟨cl, hr'⟩, h2⟩ := h.tok j e' sz' n' hj'
      refine ⟨h0, ⟨cl, ?_⟩, fun b' hb2 => ?_⟩
      · simp only [Loc.setHdr, if_neg he']
        exact rowAt_keep hr' fun b' hb2 => hkeep b' (hneb j he' b' (h2 b' hb2).1) (h.own _ _ (h2 b' hb2).1).1
      · simp only [Loc.setHdr, if_neg he'] at hb2
        exact ⟨how _ _ he' (h2 b' hb2).1, (h2 b' hb2).2⟩
  · intro j g cs hj
    have he : id ≠ j := fun e => by subst e; simp [setM] at hj
    exact (h.froz j g cs (by simpa [setM, he] using hj)).mono hmle
end Go.Pm
namespace Go.Pm
open Go.RowKit

/-! ### Types -/
inductive TK where
  | int (k : IntKind) | bool | str | slice (e : Nat) | struct (fs : List (Nat × Nat)) | array (n e : Nat) | func | ptr (e : Nat)
structure TyI where
  k : TK
  size : Nat
  bytes : Nat
  zero : D
  view : Bool := false
def TyI.agg (i : TyI) : Bool := match i.k with | .struct _ | .array _ _ => true | _ => false
structure TyOK (P : Program) (t : TypeId) (i : TyI) : Prop where
  info : ∃ f z, P.info? t = some f ∧ f.size = i.size ∧ f.bytes = i.bytes ∧ f.zero = some z ∧ i.zero.sz = i.size ∧ ∀ μ, RepD μ i.zero z
  kind : match i.k with
    | .int k => P.underlying t = some (.int k)
    | .bool => P.underlying t = some .bool
    | .str => P.underlying t = some .string
    | .slice e => P.underlying t = some (.slice e)
    | .struct fs => ∃ a, P.underlying t = some (.struct a) ∧ a.toList.mapM (fun f => (P.info? f.type).map fun i => (f.offset, i.size)) = some fs ∧ ∀ (j o s : Nat), fs[j]? = some (o, s) → ∃ f fi, a[j]? = some f ∧ f.offset = o ∧ P.info? f.type = some fi ∧ fi.size = s ∧ 0 < s
    | .array n e => P.underlying t = some (.array n e)
    | .func => ∃ p r v, P.underlying t = some (.func p r v)
    | .ptr e => P.underlying t = some (.pointer e)
abbrev Tab := Nat → Option TyI
def TabOK (P : Program) (tab : Tab) : Prop := ∀ t i, tab t = some i → TyOK P t i

mutual
def matchV : D → Value → Bool
  | .int k n, .int k' n' => k = k' && n = n'
  | .bool b, .bool b' => b = b'
  | .str s, .string s' => s = s'
  | .nil, .slice none 0 0 => true
  | .agg cs, .agg l => matchL cs l.toList
  | _, _ => false
def matchL : List D → List Value → Bool
  | [], [] => true
  | x :: xs, v :: l => matchV x v && v.oneCell' && matchL xs l
  | _, _ => false
end
mutual
theorem matchV_ok (μ : Mu) : ∀ (x : D) (v : Value), matchV x v = true → RepD μ x v := by
  intro x v h
  unfold matchV at h
  split at h
  · simp at h; obtain ⟨rfl, rfl⟩ := h; exact .int _ _
  · simp at h; subst h; exact .bool _
  · simp at h; subst h; exact .str _
  · exact .nil
  · exact .agg (matchL_ok μ _ _ h)
  · cases h
theorem matchL_ok (μ : Mu) : ∀ (xs : List D) (l : List Value), matchL xs l = true → RepL μ xs l := by
  intro xs l h
  unfold matchL at h
  split at h
  · exact .nil
  · simp at h; exact .cons (matchV_ok μ _ _ h.1.1) h.1.2 (matchL_ok μ _ _ h.2)
  · cases h
end
/-- A closed check of a type's row. -/
def chkTy (P : Program) (t : TypeId) (i : TyI) : Bool :=
  (match P.info? t with
   | some f => f.size == i.size && f.bytes == i.bytes && (match f.zero with | some z => matchV i.zero z && i.zero.sz == i.size | none => false)
   | none => false) &&
  (match i.k, P.underlying t with
   | .int k, some (.int k') => k = k'
   | .bool, some .bool => true
   | .str, some .string => true
   | .slice e, some (.slice e') => e == e'
   | .array n e, some (.array n' e') => n == n' && e == e'
   | .func, some (.func _ _ _) => true
   | .ptr e, some (.pointer e') => e == e'
   | .struct fs, some (.struct a) => decide (a.toList.mapM (fun f => (P.info? f.type).map fun i => (f.offset, i.size)) = some fs) && fs.zipIdx.all fun p => (match a[p.2]? with
      | some f => f.offset == p.1.1 && (match P.info? f.type with | some fi => fi.size == p.1.2 && decide (0 < p.1.2) | none => false)
      | none => false)
   | _, _ => false)
theorem chkTy_ok {P : Program} {t : TypeId} {i : TyI} (h : chkTy P t i = true) : TyOK P t i := by
  unfold chkTy at h
  rw [Bool.and_eq_true] at h
  obtain ⟨h1, h2⟩ := h
  refine ⟨?_, ?_⟩
  · split at h1
    · rename_i f hf
      simp only [Bool.and_eq_true, beq_iff_eq] at h1
      obtain ⟨⟨h3, h4⟩, h5⟩ := h1
      split at h5
      · rename_i z hz
        rw [Bool.and_eq_true] at h5
        exact ⟨f, z, hf, h3, h4, hz, by simpa using h5.2, fun μ => matchV_ok μ _ _ h5.1⟩
      · cases h5
    · cases h1
  · split at h2 <;> try (exact absurd h2 Bool.false_ne_true)
    all_goals rename_i hk hu
    all_goals rw [hk]
    all_goals simp only [] at h2 ⊢
    · simp at h2; subst h2; exact hu
    · exact hu
    · exact hu
    · simp at h2; subst h2; exact hu
    · simp at h2; obtain ⟨rfl, rfl⟩ := h2; exact hu
    · exact ⟨_, _, _, hu⟩
    · simp at h2; subst h2; exact hu
    · rw [Bool.and_eq_true] at h2
      obtain ⟨h20, h2⟩ := h2
      refine ⟨_, hu, by simpa using h20, fun j o s hj => ?_⟩
      rw [List.all_eq_true] at h2
      have := h2 ((o, s), j) (by rw [List.mem_zipIdx_iff_getElem?]; simpa using hj)
      simp only [] at this
      split at this
      · rename_i f hf
        rw [Bool.and_eq_true] at this
        obtain ⟨h3, h4⟩ := this
        split at h4
        · rename_i fi hfi
          simp at h3 h4
          exact ⟨f, fi, hf, h3, hfi, h4.1, h4.2⟩
        · cases h4
      · cases this
def chkTab (P : Program) (l : List (Nat × TyI)) : Bool := l.all fun p => chkTy P p.1 p.2
theorem look_mem {α : Type} : ∀ {l : List (Nat × α)} {t : Nat} {v : α}, look l t = some v → (t, v) ∈ l
  | [], _, _, h => by simp [look] at h
  | (k, u) :: r, t, v, h => by
    rw [look_cons] at h
    split at h
    · rename_i e
      injection h with h
      subst e h
      exact List.mem_cons_self
    · exact List.mem_cons_of_mem _ (look_mem h)
theorem chkTab_ok {P : Program} {l : List (Nat × TyI)} (h : chkTab P l = true) : TabOK P (look l) := fun t i ht =>
  chkTy_ok ((List.all_eq_true.1 h) (t, i) (look_mem ht))

section
variable {P : Program} {t : TypeId} {i : TyI}
theorem TyOK.isAgg (h : TyOK P t i) (w : World) : (isAgg t).run P w = .ok i.agg w := by
  have hk := h.kind
  unfold TyI.agg
  cases hi : i.k <;> rw [hi] at hk <;> simp only [] at hk ⊢
  case struct => obtain ⟨a, hk, _⟩ := hk; simp [Go.isAgg, run_underlying hk]
  case func => obtain ⟨_, _, _, hk⟩ := hk; simp [Go.isAgg, run_underlying hk]
  all_goals simp [Go.isAgg, run_underlying hk]
theorem TyOK.sizeOf (h : TyOK P t i) (w : World) : (sizeOf t).run P w = .ok i.size w := by
  obtain ⟨f, z, hf, hs, _⟩ := h.info
  simp [Go.sizeOf, typeInfo, hf, hs]
theorem TyOK.zero (h : TyOK P t i) : ∃ z, (∀ w, (zeroValue t).run P w = .ok z w) ∧ ∀ μ, RepD μ i.zero z := by
  obtain ⟨f, z, hf, _, _, hz, _, hr⟩ := h.info
  exact ⟨z, fun w => by simp [zeroValue, typeInfo, hf, hz], hr⟩
end

/-! ### Operands -/
def constT : Value → Option T
  | .int k n => some (.d (.int k n))
  | .bool b => some (.d (.bool b))
  | .string s => some (.d (.str s))
  | .slice none 0 0 => some (.d .nil)
  | _ => none
def St.ev (σ : St) : Operand → Option T
  | .tmp t => look σ.env t
  | .const v => constT v
  | .func f => some (.d (.fn f []))
  | .global _ => none
theorem ev_rep {c : Ctx} {μ : Mu} {L : Loc} {σ : St} {a : Act} (h : EnvOK c μ L σ.m σ.env a) {x : Operand} {t : T} (hx : σ.ev x = some t) : RepT μ L σ.m t (a.eval x) := by
  cases x with
  | tmp i => exact h.2.2 i t hx
  | const v =>
    simp only [St.ev] at hx
    unfold constT at hx
    split at hx <;> simp at hx <;> subst hx
    · exact .d (.int _ _)
    · exact .d (.bool _)
    · exact .d (.str _)
    · exact .d .nil
  | func f =>
    simp only [St.ev, Option.some.injEq] at hx
    subst hx
    exact .d (.fn .nil)
  | global g => simp [St.ev] at hx
end Go.Pm
namespace Go.Pm
open Go.RowKit

/-- A computation gives x and leaves m'. -/
def Does (P : Program) (c : Ctx) (m : Mem) (μ : Mu) (L : Loc) (w : World) (s : Sem Value) (x : T) (m' : Mem) : Prop :=
  ∃ v w' μ' L' ow', s.run P w = .ok v w' ∧ Inv c m' μ' L' ow' w' ∧ Mu.le μ μ' ∧ Stays L m L' m' ∧ RepT μ' L' m' x v
section
variable {P : Program} {c : Ctx} {m : Mem} {μ : Mu} {L : Loc} {ow : Nat → Option Nat} {w : World}
/-- Nothing turns. -/
theorem Does.pure (h : Inv c m μ L ow w) {s : Sem Value} {v : Value} {x : T} (hr : s.run P w = .ok v w) (hx : RepT μ L m x v) : Does P c m μ L w s x m :=
  ⟨v, w, μ, L, ow, hr, h, Mu.le_refl _, Stays.refl _ _, hx⟩

theorem add_at (b o i : Nat) : (⟨b, o, none⟩ : Addr).add i = ⟨b, o + i, none⟩ := by
  unfold Addr.add
  split
  · rename_i h; simp [h]
  · rfl

/-! ### load -/
abbrev T.toD : T → Option D := unD1
def allD : List T → Option (List D)
  | [] => some []
  | x :: xs => match x.toD, allD xs with
    | some y, some ys => some (y :: ys)
    | _, _ => none
theorem toD_rep {x : T} {y : D} {v : Value} (h : RepT μ L m x v) (hy : x.toD = some y) : RepD μ y v := unD1_rep h hy
theorem allD_rep {vs : Array Value} : ∀ {cs : List T} {l : List D} {o : Nat}, allD cs = some l → (∀ (i : Nat) (x : T), cs[i]? = some x → ∃ v, vs[o + i]? = some v ∧ v.oneCell' = true ∧ RepT μ L m x v) →
    ∃ r, RepL μ l r ∧ ∀ (i : Nat) (u : Value), r[i]? = some u → vs[o + i]? = some u
  | [], l, o, h, _ => by simp [allD] at h; subst h; exact ⟨[], .nil, by simp⟩
  | x :: xs, l, o, h, hv => by
    unfold allD at h
    split at h
    · rename_i y ys hy hys
      injection h with h
      subst h
      obtain ⟨r, hr, hg⟩ := allD_rep (o := o + 1) hys fun i z hz => by
        obtain ⟨v, h1, h2⟩ := hv (i + 1) z (by simpa using hz)
        exact ⟨v, by rwa [Nat.add_comm i 1, ← Nat.add_assoc] at h1, h2⟩
      obtain ⟨v, h1, h2, h3⟩ := hv 0 x rfl
      refine ⟨v :: r, .cons (toD_rep h3 hy) h2 hr, fun i u hu => ?_⟩
      cases i with
      | zero => simp at hu; subst hu; exact h1
      | succ i =>
        have := hg i u (by simpa using hu)
        rwa [Nat.add_assoc, Nat.add_comm 1 i] at this
    · cases h
def ldD (cs : List D) (i : TyI) : Option D :=
  if i.agg then (if i.size ≤ cs.length then some (.agg (cs.take i.size)) else none) else cs.head?
def ldT (cs : List T) (i : TyI) : Option T :=
  if i.agg then (match allD (cs.take i.size) with | some l => if l.length = i.size then some (.d (.agg l)) else none | none => none) else cs.head?

theorem does_loadP (h : Inv c m μ L ow w) {t : TypeId} {i : TyI} (ht : TyOK P t i) {v : Value} {cs : List D} (hv : RepD μ (.ptr cs) v) {x : D} (hx : ldD cs i = some x) :
    Does P c m μ L w (Instr.loadAt t v) (.d x) m := by
  cases hv with
  | @ptr _ b o hc =>
    unfold ldD at hx
    split at hx
    · rename_i hagg
      split at hx
      · rename_i hle
        injection hx with hx
        subst hx
        obtain ⟨l, hl, hg⟩ := (hc.take i.size).vals
        have hlen : l.length = i.size := by rw [hl.length, List.length_take]; omega
        refine .pure h (v := .agg l.toArray) ?_ (.d (.agg hl))
        have := run_loadCells_list (P := P) (w := w) ⟨b, o, none⟩ l (fun j u hu => by rw [add_at]; exact h.mu _ _ (hg j u hu))
        rw [hlen] at this
        simp [Instr.loadAt, Instr.sureAddr, loadVar, ht.isAgg, hagg, ht.sizeOf, this]
      · cases hx
    · rename_i hagg
      cases hc with
      | nil => simp at hx
      | cons h0 h1 hm t' =>
        simp at hx
        subst hx
        refine .pure h (v := _) ?_ (.d h0)
        simp [Instr.loadAt, Instr.sureAddr, loadVar, ht.isAgg, hagg, h.mu _ _ hm]

theorem run_loadO (h : Inv c m μ L ow w) {t : TypeId} {i : TyI} (ht : TyOK P t i) {v : Value} {id g off : Nat} (hv : RepT μ L m (.obj id g off) v) {cs : List T} (hm : m id = some (.box g cs)) {x : T} (hx : ldT (cs.drop off) i = some x) :
    ∃ q, (Instr.loadAt t v).run P w = .ok q w ∧ RepT μ L m x q := by
  cases hv with
  | obj h0 hg hle hA =>
    rw [hm] at h0
    injection h0 with h0
    subst h0
    cases hg
    rw [hA rfl]
    obtain ⟨ho, vs, e, hh, hs, hroom, hcell⟩ := h.box id g cs hm
    have hrow : ∀ k, w.cell? ⟨L.blk id, k, none⟩ = vs[k]? := fun k => cell_of_row w _ k vs e (0, 0) hh
    unfold ldT at hx
    split at hx
    · rename_i hagg
      split at hx
      · rename_i l hl
        split at hx
        · rename_i hlen
          injection hx with hx
          subst hx
          obtain ⟨r, hr, hg⟩ := allD_rep (vs := vs) (o := off) hl fun j z hz => by
            rw [List.getElem?_take] at hz
            split at hz
            · rw [List.getElem?_drop] at hz
              exact hcell _ z hz
            · cases hz
          have hrl : r.length = i.size := by rw [hr.length, hlen]
          refine ⟨.agg r.toArray, ?_, .d (.agg hr)⟩
          have := run_loadCells_list (P := P) (w := w) ⟨L.blk id, off, none⟩ r (fun j u hu => by rw [add_at, hrow]; exact hg j u hu)
          rw [hrl] at this
          simp [Instr.loadAt, Instr.sureAddr, loadVar, ht.isAgg, hagg, ht.sizeOf, this]
        · cases hx
      · cases hx
    · rename_i hagg
      rw [List.head?_eq_getElem?, List.getElem?_drop] at hx
      obtain ⟨u, h1, h2, h3⟩ := hcell _ x hx
      rw [Nat.add_zero] at h1
      refine ⟨u, ?_, h3⟩
      simp [Instr.loadAt, Instr.sureAddr, loadVar, ht.isAgg, hagg, hrow, h1]

theorem does_loadO (h : Inv c m μ L ow w) {t : TypeId} {i : TyI} (ht : TyOK P t i) {v : Value} {id g off : Nat} (hv : RepT μ L m (.obj id g off) v) {cs : List T} (hm : m id = some (.box g cs)) {x : T} (hx : ldT (cs.drop off) i = some x) :
    Does P c m μ L w (Instr.loadAt t v) x m := by
  obtain ⟨q, h1, h2⟩ := run_loadO (P := P) h ht hv hm hx
  exact .pure h h1 h2
/-- A pointer into cells that nobody writes any more is data. -/
theorem froz_ptr (h : Inv c m μ L ow w) {v : Value} {id g off : Nat} (hv : RepT μ L m (.obj id g off) v) {cs : List D} (hm : m id = some (.froz g cs)) (hle : off ≤ cs.length) : RepD μ (.ptr (cs.drop off)) v := by
  cases hv with
  | obj h0 hg hle' hA =>
    rw [hm] at h0
    injection h0 with h0
    subst h0
    cases hg
    rw [hA rfl]
    have := (h.froz id g cs hm).drop off hle
    rw [Nat.zero_add] at this
    exact .ptr this

/-! ### A value's cells; alloc, box -/
def T.cells : T → Option (List T)
  | .d x => some (x.cells.map .d)
  | .own id xs => some [.own id xs]
  | .obj id g off => some [.obj id g off]
  | .view id g sz off n => some [.view id g sz off n]
  | _ => none
theorem cells_rep {x : T} {cs : List T} {v : Value} (h : RepT μ L m x v) (hc : x.cells = some cs) :
    v.cells.size = cs.length ∧ ∀ (i : Nat) (y : T), cs[i]? = some y → ∃ u, v.cells[i]? = some u ∧ u.oneCell' = true ∧ RepT μ L m y u := by
  cases x with
  | d x =>
    simp [T.cells] at hc
    subst hc
    cases h with
    | d h =>
      have hl := h.cells
      refine ⟨by have := hl.length; simpa using this, fun i y hy => ?_⟩
      rw [List.getElem?_map] at hy
      cases hx : x.cells[i]? with
      | none => rw [hx] at hy; cases hy
      | some z =>
        rw [hx] at hy
        simp at hy
        subst hy
        obtain ⟨u, h1, h2, h3⟩ := hl.get i z hx
        exact ⟨u, by simpa using h1, h3, .d h2⟩
  | own id xs =>
    simp [T.cells] at hc
    subst hc
    have hv : ∃ A n k, v = .slice A n k := by
      cases h with
      | own h _ _ _ _ => obtain ⟨A, k, e, _⟩ := h.slice_inv; exact ⟨A, _, k, e⟩
    obtain ⟨A, n, k, rfl⟩ := hv
    refine ⟨rfl, fun i y hy => ?_⟩
    cases i with
    | zero => simp at hy; subst hy; exact ⟨_, rfl, rfl, h⟩
    | succ i => simp at hy
  | obj id g off =>
    simp [T.cells] at hc
    subst hc
    have hv : ∃ A, v = .pointer A := by cases h; exact ⟨_, rfl⟩
    obtain ⟨A, rfl⟩ := hv
    refine ⟨rfl, fun i y hy => ?_⟩
    cases i with
    | zero => simp at hy; subst hy; exact ⟨_, rfl, rfl, h⟩
    | succ i => simp at hy
  | view id g sz off n => 
    simp [T.cells] at hc
    subst hc
    have hv : ∃ A n k, v = .slice A n k := by cases h; exact ⟨_, _, _, rfl⟩
    obtain ⟨A, n, k, rfl⟩ := hv
    refine ⟨rfl, fun i y hy => ?_⟩
    cases i with
    | zero => simp at hy; subst hy; exact ⟨_, rfl, rfl, h⟩
    | succ i => simp at hy
  | tup xs => simp [T.cells] at hc
  | anyb => simp [T.cells] at hc
  | un => simp [T.cells] at hc
  | any => simp [T.cells] at hc

theorem obj_new {d o r : Nat} {cs : List T} {μ : Mu} {L : Loc} {m : Mem} : RepT μ (L.setBlk d o r) (setM m d (.box 0 cs)) (.obj d 0 0) (.pointer (some ⟨o, 0, none⟩)) :=
  .obj (setM_self m d _) rfl (Nat.le_refl _) fun _ => by simp [Loc.setBlk]
theorem does_box (h : Inv c m μ L ow w) {t : TypeId} {x : T} {v : Value} (hv : RepT μ L m x v) {cs : List T} (hc : x.cells = some cs) {d : Nat} (hd : m d = none) :
    Does P c m μ L w (Instr.box t v) (.obj d 0 0) (setM m d (.box 0 cs)) := by
  obtain ⟨h1, h2⟩ := cells_rep hv hc
  obtain ⟨hi, hs⟩ := h.newBox hd v.cells t 0 cs (by omega) h2
  refine ⟨.pointer (some ⟨w.heap.size, 0, none⟩), w.alloc (.cells v.cells t), μ, _, _, ?_, hi, Mu.le_refl _, hs, obj_new⟩
  simp [Instr.box, newVar, newRow]
theorem does_alloc (h : Inv c m μ L ow w) {t : TypeId} {i : TyI} (ht : TyOK P t i) {d : Nat} (hd : m d = none) :
    Does P c m μ L w (Instr.alloc t true (.tuple #[])) (.obj d 0 0) (setM m d (.box 0 (i.zero.cells.map .d))) := by
  obtain ⟨z, hz, hr⟩ := ht.zero
  have := does_box (P := P) h (t := t) (.d (hr μ)) (cs := i.zero.cells.map .d) rfl hd
  obtain ⟨v, w', μ', L', ow', h1, h2⟩ := this
  refine ⟨v, w', μ', L', ow', ?_, h2⟩
  rw [← h1]
  simp [Instr.alloc, Instr.box, hz]

/-! ### store -/
/-- Cells are written one behind the other. -/
theorem does_storeCells {P : Program} {c : Ctx} {μ : Mu} {L : Loc} {ow : Nat → Option Nat} {id g : Nat} : ∀ (vs : List Value) (ys : List T) (cs : List T) (off k : Nat) (m : Mem) (w : World), Inv c m μ L ow w → m id = some (.box g cs) → off + k + ys.length ≤ cs.length → vs.length = ys.length →
      (∀ (i : Nat) (y : T), ys[i]? = some y → ∃ u, vs[i]? = some u ∧ u.oneCell' = true ∧ RepT μ L m y u) →
    ∃ w' cs', (storeCells ⟨L.blk id, off, none⟩ vs k).run P w = .ok () w' ∧ cs'.length = cs.length ∧ (∀ i, cs'[i]? = if off + k ≤ i ∧ i < off + k + ys.length then ys[i - (off + k)]? else cs[i]?) ∧
      Inv c (setM m id (.box g cs')) μ L ow w' ∧ Stays L m L (setM m id (.box g cs'))
  | [], [], cs, off, k, m, w, h, hid, hle, _, _ => by
    have e : setM m id (.box g cs) = m := by
      funext j
      unfold setM
      split
      · rename_i e; subst e; exact hid.symm
      · rfl
    refine ⟨w, cs, by simp [storeCells], rfl, fun i => ?_, by rw [e]; exact h, by rw [e]; exact Stays.refl _ _⟩
    rw [if_neg (by simp only [List.length_nil]; omega)]
  | v :: vs, y :: ys, cs, off, k, m, w, h, hid, hle, hl, hv => by
    obtain ⟨u, h1, h2, h3⟩ := hv 0 y rfl
    simp at h1
    subst h1
    simp only [List.length_cons] at hle hl
    obtain ⟨hi, hs, ⟨u0, hu0⟩, hf⟩ := h.store hid (off + k) (by omega) y v h2 h3
    have e2 : ∀ cs2, setM (setM m id (.box g (cs.set (off + k) y))) id (.box g cs2) = setM m id (.box g cs2) := fun cs2 => by funext j; unfold setM; split <;> simp_all
    obtain ⟨w', cs', hr, hlen, hget, hinv, hst⟩ := does_storeCells (P := P) (id := id) (g := g) vs ys (cs.set (off + k) y) off (k + 1) _ _ hi (by simp [setM]) (by simp; omega) (by omega) fun i z hz => by
      obtain ⟨u', h4, h5, h6⟩ := hv (i + 1) z (by simpa using hz)
      exact ⟨u', by simpa using h4, h5, h6.mono (Mu.le_refl _) hs⟩
    rw [e2] at hinv hst
    refine ⟨w', cs', ?_, by simpa using hlen, fun i => ?_, hinv, ?_⟩
    · rw [← hr]
      simp [storeCells, add_at, hu0, hf, run_store, h2]
    · rw [hget i]
      simp only [List.length_cons]
      by_cases h7 : i = off + k
      · subst h7
        rw [if_neg (by omega), if_pos (by omega)]
        have h8 : off + k < cs.length := by omega
        simp [List.getElem?_set, h8]
      · by_cases h8 : off + (k + 1) ≤ i ∧ i < off + (k + 1) + ys.length
        · rw [if_pos h8, if_pos (by omega)]
          have : i - (off + k) = (i - (off + (k + 1))) + 1 := by omega
          rw [this]
          rfl
        · rw [if_neg h8, if_neg (by omega), List.getElem?_set_ne (by omega)]
    · exact Stays.turn L hid _ _ (fun _ _ => rfl) (fun _ _ => rfl) (fun _ _ => rfl) (fun g' hg => ⟨g', hg, Nat.le_refl _, fun _ => ⟨rfl, rfl⟩⟩) (fun _ _ _ q => by cases q)
  | [], _ :: _, _, _, _, _, _, _, _, _, hl, _ => by simp at hl
  | _ :: _, [], _, _, _, _, _, _, _, _, hl, _ => by simp at hl

def splice (cs : List T) (off : Nat) (ys : List T) : List T := cs.take off ++ ys ++ cs.drop (off + ys.length)
theorem splice_get (cs : List T) (off : Nat) (ys : List T) (h : off + ys.length ≤ cs.length) (i : Nat) : (splice cs off ys)[i]? = if off ≤ i ∧ i < off + ys.length then ys[i - off]? else cs[i]? := by
  unfold splice
  rw [List.append_assoc, List.getElem?_append]
  simp only [List.length_take, Nat.min_eq_left (show off ≤ cs.length by omega)]
  split
  · rw [if_neg (by omega), List.getElem?_take, if_pos (by assumption)]
  · rw [List.getElem?_append]
    split
    · rw [if_pos (by omega)]
    · rw [if_neg (by omega), List.getElem?_drop]
      congr 1
      omega
/-- A store. -/
theorem does_store (h : Inv c m μ L ow w) {t : TypeId} {i : TyI} (ht : TyOK P t i) {va vx : Value} {id g off : Nat} (ha : RepT μ L m (.obj id g off) va) {cs : List T} (hid : m id = some (.box g cs)) {x : T} (hx : RepT μ L m x vx)
    {ys : List T} (hy : x.cells = some ys) (hl : ys.length = i.size) (hle : off + i.size ≤ cs.length) :
    ∃ w', (Instr.storeAt t va vx).run P w = .ok () w' ∧ Inv c (setM m id (.box g (splice cs off ys))) μ L ow w' ∧ Stays L m L (setM m id (.box g (splice cs off ys))) := by
  cases ha with
  | obj h0 hg hle' hA =>
    rw [hid] at h0
    injection h0 with h0
    subst h0
    cases hg
    rw [hA rfl]
    obtain ⟨h1, h2⟩ := cells_rep hx hy
    obtain ⟨w', cs', hr, hlen, hget, hinv, hst⟩ := does_storeCells (P := P) vx.cells.toList ys cs off 0 m w h hid (by omega) (by simpa using h1) fun j y hj => by
      obtain ⟨u, h3, h4⟩ := h2 j y hj
      exact ⟨u, by simpa using h3, h4⟩
    have e : cs' = splice cs off ys := List.ext_getElem? fun j => by
      rw [hget j, splice_get _ _ _ (by omega)]
      simp
    rw [e] at hinv hst
    refine ⟨w', ?_, hinv, hst⟩
    have hsz : vx.cells.size = i.size := by omega
    simp [Instr.storeAt, Instr.sureAddr, storeVar, ht.sizeOf, hsz, hr]
end
end Go.Pm
namespace Go.Pm
open Go.RowKit
section
variable {P : Program} {c : Ctx} {m : Mem} {μ : Mu} {L : Loc} {ow : Nat → Option Nat} {w : World}

theorem RepL.drop {μ : Mu} : ∀ {xs : List D} {l : List Value}, RepL μ xs l → ∀ k, RepL μ (xs.drop k) (l.drop k)
  | _, _, .nil, k => by simpa using RepL.nil
  | _, _, .cons h1 h2 t, 0 => .cons h1 h2 t
  | _, _, .cons h1 h2 t, k + 1 => by simpa using t.drop k
theorem RepL.take {μ : Mu} : ∀ {xs : List D} {l : List Value}, RepL μ xs l → ∀ k, RepL μ (xs.take k) (l.take k)
  | _, _, .nil, k => by simpa using RepL.nil
  | _, _, .cons h1 h2 t, 0 => .nil
  | _, _, .cons h1 h2 t, k + 1 => .cons h1 h2 (t.take k)
/-! ### fields -/
theorem run_fieldAt {t : TypeId} {i : TyI} (ht : TyOK P t i) {fs : List (Nat × Nat)} (hk : i.k = .struct fs) {f o s : Nat} (hf : fs[f]? = some (o, s)) (b off : Nat) (w : World) :
    (Instr.fieldAt t (.pointer (some ⟨b, off, none⟩)) f).run P w = .ok (.pointer (some ⟨b, off + o, none⟩)) w := by
  have h := ht.kind
  rw [hk] at h
  obtain ⟨a, hu, _, hg⟩ := h
  obtain ⟨fl, fi, h1, h2, h3, h4, h5⟩ := hg f o s hf
  have h6 : fi.size ≠ 0 := by omega
  simp [Instr.fieldAt, run_underlying hu, h1, Instr.sureAddr, fieldPlace, sizeOf, typeInfo, h3, h6, h2, add_at]
theorem does_fieldP (h : Inv c m μ L ow w) {t : TypeId} {i : TyI} (ht : TyOK P t i) {fs : List (Nat × Nat)} (hk : i.k = .struct fs) {f o s : Nat} (hf : fs[f]? = some (o, s))
    {v : Value} {cs : List D} (hv : RepD μ (.ptr cs) v) (hl : o ≤ cs.length) : Does P c m μ L w (Instr.fieldAt t v f) (.d (.ptr ((cs.drop o).take s))) m := by
  cases hv with
  | @ptr _ b off hc => exact .pure h (run_fieldAt ht hk hf b off w) (.d (.ptr ((hc.drop o hl).take s)))
theorem run_fieldAt' {t : TypeId} {i : TyI} (ht : TyOK P t i) {fs : List (Nat × Nat)} (hk : i.k = .struct fs) {f o s : Nat} (hf : fs[f]? = some (o, s)) (A : Addr) (w : World) :
    (Instr.fieldAt t (.pointer (some A)) f).run P w = .ok (.pointer (some (A.add o))) w := by
  have h := ht.kind
  rw [hk] at h
  obtain ⟨a, hu, _, hg⟩ := h
  obtain ⟨fl, fi, h1, h2, h3, h4, h5⟩ := hg f o s hf
  have h6 : fi.size ≠ 0 := by omega
  simp [Instr.fieldAt, run_underlying hu, h1, Instr.sureAddr, fieldPlace, sizeOf, typeInfo, h3, h6, h2]
theorem does_fieldO (h : Inv c m μ L ow w) {t : TypeId} {i : TyI} (ht : TyOK P t i) {fs : List (Nat × Nat)} (hk : i.k = .struct fs) {f o s : Nat} (hf : fs[f]? = some (o, s))
    {v : Value} {id g off : Nat} (hv : RepT μ L m (.obj id g off) v) : Does P c m μ L w (Instr.fieldAt t v f) (.obj id g (off + o)) m := by
  cases hv with
  | obj hm hg hle hA => exact .pure h (run_fieldAt' ht hk hf _ w) (.obj hm hg hle fun q => by rw [hA q, add_at])
theorem does_indexV (h : Inv c m μ L ow w) {t e : TypeId} {i ie : TyI} (ht : TyOK P t i) (hk : i.k = .slice e) (he : TyOK P e ie) {v vi : Value} {id g off n : Nat} (hv : RepT μ L m (.view id g ie.size off n) v) {k : IntKind} {j : Int} (hn : RepD μ (.int k j) vi)
    (h0 : 0 ≤ j) (hlt : j < n) : Does P c m μ L w (Instr.indexAt t v vi) (.obj id g (off + j.toNat * ie.size)) m := by
  have hu := ht.kind
  rw [hk] at hu
  simp only [] at hu
  cases hv with
  | @view _ _ _ _ _ cap g' A o hm hg hle hA =>
    cases hn
    refine .pure h (v := .pointer (some (A.add (j.toNat * ie.size)))) ?_ (.obj hm hg hle fun q => by rw [(hA q).1 (by have := (hA q).2.2.1; omega), add_at])
    simp [Instr.indexAt, asIntOf, run_underlying hu, h0, hlt, he.sizeOf]
/-- A field of a struct value. -/
theorem does_field (h : Inv c m μ L ow w) {t : TypeId} {i : TyI} (ht : TyOK P t i) {a : Array Field} (hu : P.underlying t = some (.struct a)) {f : Nat} {fl : Field} (hf : a[f]? = some fl) {fi : TyI} (hfi : TyOK P fl.type fi)
    {v : Value} {cs : List D} (hv : RepD μ (.agg cs) v) {x : D} (hx : ldD (cs.drop fl.offset) fi = some x) : Does P c m μ L w (Instr.field t v f) (.d x) m := by
  cases hv with
  | @agg _ l hl =>
    have hlen := hl.length
    have hget : ∀ (j : Nat) (y : D), cs[j]? = some y → ∃ u, l[j]? = some u ∧ RepD μ y u ∧ u.oneCell' = true := fun j y hy => hl.get j y hy
    unfold ldD at hx
    split at hx
    · rename_i hagg
      split at hx
      · rename_i hle
        injection hx with hx
        subst hx
        refine .pure h (v := .agg ((l.drop fl.offset).take fi.size).toArray) ?_ (.d (.agg ((hl.drop _).take _)))
        have e : fl.offset + fi.size - fl.offset = fi.size := by omega
        simp [Instr.field, run_underlying hu, hf, asAgg, part, hfi.isAgg, hagg, hfi.sizeOf, e]
      · cases hx
    · rename_i hagg
      rw [List.head?_eq_getElem?, List.getElem?_drop] at hx
      obtain ⟨u, h1, h2, _⟩ := hget _ x hx
      rw [Nat.add_zero] at h1
      refine .pure h (v := u) ?_ (.d h2)
      simp [Instr.field, run_underlying hu, hf, asAgg, part, hfi.isAgg, hagg, h1]

/-! ### elements -/
theorem does_indexAddr (h : Inv c m μ L ow w) {t e : TypeId} {i ie : TyI} (ht : TyOK P t i) (hk : i.k = .slice e) (he : TyOK P e ie) {v vi : Value} {xs : List D} (hv : RepD μ (.slice xs) v) {k : IntKind} {n : Int} (hn : RepD μ (.int k n) vi)
    (h0 : 0 ≤ n) {y : D} (hy : xs[n.toNat]? = some y) (hs : y.sz = ie.size) : Does P c m μ L w (Instr.indexAt t v vi) (.d (.ptr y.cells)) m := by
  have hu := ht.kind
  rw [hk] at hu
  simp only [] at hu
  obtain ⟨A, cap, rfl, hle, hc, hr⟩ := hv.slice_inv
  have hlt : n.toNat < xs.length := (List.getElem?_eq_some_iff.1 hy).1
  rcases hr with rfl | ⟨b, o, sz, rfl, hrow, hsz⟩
  · simp at hlt
  · have hz : sz = ie.size := by rw [← hs, hsz y (List.mem_of_getElem? hy)]
    subst hz
    cases hn
    have hlt' : n < (xs.length : Int) := by omega
    refine .pure h (v := .pointer (some ⟨b, o + n.toNat * ie.size, none⟩)) ?_ (.d (.ptr (hrow.at_ hsz _ _ hy).cells))
    simp [Instr.indexAt, asIntOf, run_underlying hu, h0, hlt', he.sizeOf, add_at]

/-! ### arithmetic -/
def bitsV (op : BinOp) (k : IntKind) (x y : Int) : Option Int :=
  match op with
  | .and | .or | .xor | .andNot => some (bits op k x y)
  | _ => none
def binD (op : BinOp) : D → D → Option D
  | .int k a, .int k' b =>
    match op with
    | .shl => if b < 0 then none else some (.int k (k.wrap (a * 2 ^ (min b.toNat k.bits))))
    | .shr => if b < 0 then none else some (.int k (a.fdiv (2 ^ (min b.toNat k.bits))))
    | _ =>
    if k = k' then
      match op with
      | .add => some (.int k (k.wrap (a + b)))
      | .sub => some (.int k (k.wrap (a - b)))
      | .mul => some (.int k (k.wrap (a * b)))
      | .quo => if b = 0 then none else some (.int k (k.wrap (a.tdiv b)))
      | .rem => if b = 0 then none else some (.int k (a.tmod b))
      | .eql => some (.bool (a == b))
      | .neq => some (.bool (a != b))
      | .lss => some (.bool (decide (a < b)))
      | .leq => some (.bool (decide (a ≤ b)))
      | .gtr => some (.bool (decide (a > b)))
      | .geq => some (.bool (decide (a ≥ b)))
      | op => (bitsV op k a b).map (.int k)
    else none
  | .bool a, .bool b => match op with
    | .eql => some (.bool (a == b))
    | .neq => some (.bool (a != b))
    | _ => none
  | .str a, .str b => match op with
    | .add => if a.size + b.size ≤ 9223372036854775807 then some (.str (a ++ b)) else none
    | .eql => some (.bool (a.toList == b.toList))
    | .neq => some (.bool (!(a.toList == b.toList)))
    | .lss => some (.bool (Op.bytesLess a.toList b.toList))
    | .leq => some (.bool (Op.bytesLess a.toList b.toList || a.toList == b.toList))
    | .gtr => some (.bool (!(Op.bytesLess a.toList b.toList || a.toList == b.toList)))
    | .geq => some (.bool (!(Op.bytesLess a.toList b.toList)))
    | _ => none
  | .nil, .nil => match op with
    | .eql => some (.bool true)
    | .neq => some (.bool false)
    | _ => none
  | .slice (_ :: _), .nil => match op with
    | .eql => some (.bool false)
    | .neq => some (.bool true)
    | _ => none
  | _, _ => none
/-- The types at which '==' is asked of more than numbers and strings. -/
def eqTy (i : TyI) : D → Bool
  | .bool _ => match i.k with | .bool => true | _ => false
  | .nil | .slice _ => match i.k with | .slice _ => true | _ => false
  | _ => true
theorem run_equal_bool {t : TypeId} (hu : P.underlying t = some .bool) (a b : Bool) (w : World) : (Op.equal t (.bool a) (.bool b)).run P w = .ok (a == b) w := by
  show (Op.equalIn (9999 + 1) t _ _).run P w = _
  rw [Op.equalIn]
  simp [run_underlying hu]
theorem run_equal_nil {t e : TypeId} (hu : P.underlying t = some (.slice e)) (w : World) : (Op.equal t (.slice none 0 0) (.slice none 0 0)).run P w = .ok true w := by
  show (Op.equalIn (9999 + 1) t _ _).run P w = _
  rw [Op.equalIn]
  simp [run_underlying hu]
theorem run_equal_none {t e : TypeId} (hu : P.underlying t = some (.slice e)) (k : Nat) (w : World) : (Op.equal t (.slice none 0 k) (.slice none 0 0)).run P w = .ok true w := by
  show (Op.equalIn (9999 + 1) t _ _).run P w = _
  rw [Op.equalIn]
  simp [run_underlying hu]
theorem run_equal_some {t e : TypeId} (hu : P.underlying t = some (.slice e)) (a : Addr) (n k : Nat) (w : World) : (Op.equal t (.slice (some a) n k) (.slice none 0 0)).run P w = .ok false w := by
  show (Op.equalIn (9999 + 1) t _ _).run P w = _
  rw [Op.equalIn]
  simp [run_underlying hu]
theorem run_eql_of {t : TypeId} {vx vy : Value} {b : Bool} (h : (Op.equal t vx vy).run P w = .ok b w) (hb : binOp .eql t vx vy = (do pure (.bool (← Op.equal t vx vy)) : Sem Value)) (x y : Operand) (hg : eqGuard .eql t x y vx vy = pure ()) :
    (do eqGuard .eql t x y vx vy; binOp .eql t vx vy : Sem Value).run P w = .ok (.bool b) w := by
  rw [hg, hb]
  simp [h]
theorem run_neq_of {t : TypeId} {vx vy : Value} {b : Bool} (h : (Op.equal t vx vy).run P w = .ok b w) (hb : binOp .neq t vx vy = (do pure (.bool (!(← Op.equal t vx vy))) : Sem Value)) (x y : Operand) (hg : eqGuard .neq t x y vx vy = pure ()) :
    (do eqGuard .neq t x y vx vy; binOp .neq t vx vy : Sem Value).run P w = .ok (.bool (!b)) w := by
  rw [hg, hb]
  simp [h]
theorem run_binOp {t : TypeId} {i : TyI} (ht : TyOK P t i) {op : BinOp} {x y : Operand} {vx vy : Value} {dx dy r : D} (hx : RepD μ dx vx) (hy : RepD μ dy vy) (hb : binD op dx dy = some r) (he : eqTy i dx = true) :
    ∃ v, (do eqGuard op t x y vx vy; binOp op t vx vy : Sem Value).run P w = .ok v w ∧ RepD μ r v := by
  have hk := ht.kind
  unfold binD at hb
  split at hb
  · -- numbers
    cases hx; cases hy
    rename_i k a k' b
    split at hb
    · split at hb
      · cases hb
      · injection hb with hb; subst hb
        rename_i hlt
        exact ⟨_, by simp [eqGuard, binOp, Op.shift, hlt], .int _ _⟩
    · split at hb
      · cases hb
      · injection hb with hb; subst hb
        rename_i hlt
        exact ⟨_, by simp [eqGuard, binOp, Op.shift, hlt], .int _ _⟩
    · split at hb
      · rename_i hkk
        subst hkk
        split at hb
        all_goals try (injection hb with hb; subst hb)
        · exact ⟨_, by simp [eqGuard, binOp, Op.intArith], .int _ _⟩
        · exact ⟨_, by simp [eqGuard, binOp, Op.intArith], .int _ _⟩
        · exact ⟨_, by simp [eqGuard, binOp, Op.intArith], .int _ _⟩
        · split at hb
          · cases hb
          · injection hb with hb; subst hb; rename_i h0; exact ⟨_, by simp [eqGuard, binOp, Op.intDiv, h0], .int _ _⟩
        · split at hb
          · cases hb
          · injection hb with hb; subst hb; rename_i h0; exact ⟨_, by simp [eqGuard, binOp, Op.intDiv, h0], .int _ _⟩
        · exact ⟨_, by simp [eqGuard, binOp, Op.intCmp], .bool _⟩
        · exact ⟨_, by simp [eqGuard, binOp, Op.intCmp], .bool _⟩
        · exact ⟨_, by simp [eqGuard, binOp, Op.intCmp], .bool _⟩
        · exact ⟨_, by simp [eqGuard, binOp, Op.intCmp], .bool _⟩
        · exact ⟨_, by simp [eqGuard, binOp, Op.intCmp], .bool _⟩
        · exact ⟨_, by simp [eqGuard, binOp, Op.intCmp], .bool _⟩
        · unfold bitsV at hb
          split at hb <;> simp at hb <;> subst hb
          all_goals exact ⟨_, by simp [eqGuard, binOp, Op.intBits, bits], .int _ _⟩
      · cases hb
  · -- truth values
    cases hx; cases hy
    rename_i a b
    have hkk : i.k = .bool := by
      simp only [eqTy] at he
      split at he
      · assumption
      · cases he
    rw [hkk] at hk
    simp only [] at hk
    split at hb
    · injection hb with hb; subst hb
      exact ⟨_, run_eql_of (run_equal_bool hk a b w) rfl x y rfl, .bool _⟩
    · injection hb with hb; subst hb
      exact ⟨_, run_neq_of (run_equal_bool hk a b w) rfl x y rfl, .bool _⟩
    · cases hb
  · -- strings
    cases hx; cases hy
    rename_i a b
    split at hb
    · split at hb
      · rename_i hle
        injection hb with hb; subst hb
        have : ¬ ((a.size + b.size : Nat) : Int) > IntKind.i64.max := by simp [IntKind.max, IntKind.bits, IntKind.signed]; omega
        exact ⟨_, by simp only [eqGuard, binOp, Op.stringOp]; simp; omega, .str _⟩
      · cases hb
    all_goals first | cases hb; done | skip
    all_goals injection hb with hb; subst hb
    all_goals exact ⟨_, by simp [eqGuard, binOp, Op.stringOp], .bool _⟩
  · -- nil against nil
    cases hx; cases hy
    have hkk : ∃ e, i.k = .slice e := by
      simp only [eqTy] at he
      split at he
      · exact ⟨_, by assumption⟩
      · cases he
    obtain ⟨e, hkk⟩ := hkk
    rw [hkk] at hk
    simp only [] at hk
    split at hb
    · injection hb with hb; subst hb
      exact ⟨_, run_eql_of (run_equal_nil hk w) rfl x y rfl, .bool _⟩
    · injection hb with hb; subst hb
      exact ⟨_, run_neq_of (run_equal_nil hk w) rfl x y rfl, .bool _⟩
    · cases hb
  · -- a slice of some elements against nil
    cases hy
    obtain ⟨A, cap, rfl, _, _, hr⟩ := hx.slice_inv
    rcases hr with hr | ⟨b, o, sz, rfl, _⟩
    · cases hr
    have hkk : ∃ e, i.k = .slice e := by
      simp only [eqTy] at he
      split at he
      · exact ⟨_, by assumption⟩
      · cases he
    obtain ⟨e, hkk⟩ := hkk
    rw [hkk] at hk
    simp only [] at hk
    split at hb
    · injection hb with hb; subst hb
      exact ⟨_, run_eql_of (run_equal_some hk _ _ _ w) rfl x y rfl, .bool _⟩
    · injection hb with hb; subst hb
      exact ⟨_, run_neq_of (run_equal_some hk _ _ _ w) rfl x y rfl, .bool _⟩
    · cases hb
  · cases hb
def unD (op : UnOp) : D → Option D
  | .int k n => match op with
    | .neg => some (.int k (k.wrap (0 - n)))
    | _ => none
  | .bool b => match op with
    | .not => some (.bool !b)
    | _ => none
  | _ => none
theorem run_unOp {op : UnOp} {vx : Value} {dx r : D} (hx : RepD μ dx vx) (hb : unD op dx = some r) (w : World) : ∃ v, (Op.unary op vx).run P w = .ok v w ∧ RepD μ r v := by
  unfold unD at hb
  split at hb
  · cases hx
    split at hb
    · injection hb with hb; subst hb; exact ⟨_, by simp [Op.unary, Op.intArith], .int _ _⟩
    · cases hb
  · cases hx
    split at hb
    · injection hb with hb; subst hb; exact ⟨_, by simp [Op.unary], .bool _⟩
    · cases hb
  · cases hb
/-- Conversions of numbers; strings to strings. -/
def cvD (i : TyI) : D → Option D
  | .int _ n => match i.k with
    | .int k => some (.int k (k.wrap n))
    | _ => none
  | _ => none
theorem run_cv {s t : TypeId} {is it : TyI} (hs : TyOK P s is) (ht : TyOK P t it) {vx : Value} {dx r : D} (hx : RepD μ dx vx) (hb : cvD it dx = some r) (w : World) : ∃ v, (convert s t vx).run P w = .ok v w ∧ RepD μ r v := by
  unfold cvD at hb
  split at hb
  · cases hx
    split at hb
    · rename_i k hk
      injection hb with hb
      subst hb
      have h := ht.kind
      rw [hk] at h
      simp only [] at h
      have hu : ∃ d, P.underlying s = some d := by
        have := hs.kind
        split at this
        case h_5 => obtain ⟨a, h1, _⟩ := this; exact ⟨_, h1⟩
        case h_7 => obtain ⟨_, _, _, h1⟩ := this; exact ⟨_, h1⟩
        all_goals exact ⟨_, this⟩
      obtain ⟨d, hu⟩ := hu
      refine ⟨.int k _, ?_, .int _ _⟩
      simp [convert, run_underlying hu, run_underlying h, Conv.intToInt]
    · cases hb
  · cases hb
end
end Go.Pm
namespace Go.Pm
open Go.RowKit

/-! ### A literal's cells -/
theorem put_cells : ∀ (l : List Value) (k : Nat) (cs : Array Value) (off : Nat), off + k + l.length ≤ cs.size →
    ((l.zipIdx k).foldl (fun cs (p : Value × Nat) => cs.setIfInBounds (off + p.2) p.1) cs).toList = cs.toList.take (off + k) ++ l ++ cs.toList.drop (off + k + l.length)
  | [], k, cs, off, h => by simp
  | v :: l, k, cs, off, h => by
    simp only [List.length_cons] at h
    rw [List.zipIdx_cons, List.foldl_cons, put_cells l (k + 1) _ off (by simp; omega)]
    simp only [Array.toList_setIfInBounds, List.length_cons]
    have hlt : off + k < cs.toList.length := by simp; omega
    apply List.ext_getElem?
    intro i
    simp only [List.append_assoc, List.getElem?_append, List.length_take, List.length_set, Array.length_toList, List.length_cons]
    have h1 : min (off + (k + 1)) cs.size = off + k + 1 := by omega
    have h2 : min (off + k) cs.size = off + k := by omega
    rw [h1, h2]
    by_cases c1 : i < off + k
    · rw [if_pos (by omega), if_pos c1, List.getElem?_take, if_pos (by omega), List.getElem?_take, if_pos c1, List.getElem?_set_ne (by omega)]
    · by_cases c2 : i = off + k
      · subst c2
        rw [if_pos (by omega), if_neg (by omega), if_pos (by omega), List.getElem?_take, if_pos (by omega)]
        simp [List.getElem?_set, show off + k < cs.size by omega]
      · rw [if_neg (by omega), if_neg c1]
        by_cases c3 : i - (off + k + 1) < l.length
        · rw [if_pos c3, if_pos (by omega)]
          have : i - (off + k) = (i - (off + k + 1)) + 1 := by omega
          rw [this, List.getElem?_cons_succ]
        · rw [if_neg c3, if_neg (by omega), List.getElem?_drop, List.getElem?_drop, List.getElem?_set_ne (by omega)]
          congr 1
          omega
theorem fill_seq (size : Nat) : ∀ (vs : List Value) (k : Nat) (cs : Array Value), (∀ v ∈ vs, v.cells.size = size) → (k + vs.length) * size ≤ cs.size →
    ∃ cs', Instr.fill (fun i => some (i * size, size)) cs ((vs.zipIdx k).map fun p => (p.2, p.1)) = some cs' ∧ cs'.toList = cs.toList.take (k * size) ++ vs.flatMap (fun v => v.cells.toList) ++ cs.toList.drop ((k + vs.length) * size)
  | [], k, cs, _, h => ⟨cs, rfl, by simp⟩
  | v :: vs, k, cs, hs, h => by
    have hv := hs v List.mem_cons_self
    simp only [List.length_cons] at h
    have hk : (k + 1 + vs.length) * size = (k + (vs.length + 1)) * size := by congr 1; omega
    have hk1 : k * size + size ≤ (k + (vs.length + 1)) * size := by
      rw [← Nat.succ_mul]
      exact Nat.mul_le_mul_right _ (by omega)
    have hp := put_cells v.cells.toList 0 cs (k * size) (by simp; omega)
    obtain ⟨cs', h1, h2⟩ := fill_seq size vs (k + 1) (v.cells.zipIdx.foldl (fun cs p => cs.setIfInBounds (k * size + p.2) p.1) cs) (fun u hu => hs u (List.mem_cons_of_mem _ hu)) (by
      have : (v.cells.zipIdx.foldl (fun cs p => cs.setIfInBounds (k * size + p.2) p.1) cs).size = cs.size := by
        rw [← Array.foldl_toList, Array.toList_zipIdx, ← Array.length_toList, hp]
        simp
        omega
      rw [this, hk]; exact h)
    refine ⟨cs', ?_, ?_⟩
    · simp only [List.zipIdx_cons, List.map_cons, Instr.fill]
      have c1 : ¬ (v.cells.size ≠ size) := by simp [hv]
      have c2 : ¬ (k * size + v.cells.size > cs.size) := by omega
      simp only [c1, c2, decide_false, Bool.or_self, Bool.false_eq_true, if_false]
      exact h1
    · rw [h2, ← Array.foldl_toList, Array.toList_zipIdx, hp]
      simp only [Array.length_toList, Nat.add_zero, hv, List.flatMap_cons, List.length_cons, List.append_assoc]
      have e1 : (cs.toList.take (k * size) ++ v.cells.toList).length = (k + 1) * size := by
        simp only [List.length_append, List.length_take, Array.length_toList, hv, Nat.min_eq_left (show k * size ≤ cs.size by omega), ← Nat.succ_mul]
      have e2 : (k + 1) * size ≤ (k + (vs.length + 1)) * size := Nat.mul_le_mul_right _ (by omega)
      have e3 : k * size + size = (k + 1) * size := (Nat.succ_mul _ _).symm
      rw [hk, e3, ← List.append_assoc (cs.toList.take (k * size)), List.take_left' e1, List.drop_append, List.drop_eq_nil_of_le (by omega), List.nil_append, e1, List.drop_drop,
        Nat.add_sub_cancel' e2]
      simp only [List.append_assoc]
section
variable {P : Program} {c : Ctx} {m : Mem} {μ : Mu} {L : Loc} {ow : Nat → Option Nat} {w : World}

/-! ### tokens -/
/-- The nil slice may be appended to. -/
theorem Inv.tokNil (h : Inv c m μ L ow w) {d e sz : Nat} (hd : m d = none) (hz : 0 < sz) : Inv c (setM m d (.tok e sz 0)) μ (L.setHdr d (.slice none 0 0)) ow w ∧ Stays L m (L.setHdr d (.slice none 0 0)) (setM m d (.tok e sz 0)) := by
  have hst : Stays L m (L.setHdr d (.slice none 0 0)) (setM m d (.tok e sz 0)) := Stays.new L hd _ _ (fun i hi => rfl) (fun i hi => rfl) (fun i hi => by simp [Loc.setHdr, hi])
  refine ⟨⟨h.fr, h.mu, h.mu0, h.muNew, ?_, h.own, ?_, ?_, ?_⟩, hst⟩
  · intro a v ha i hi
    obtain ⟨e', sz', n', hm, ho⟩ := h.muOwn a v ha i hi
    have : d ≠ i := fun x => by subst x; rw [hd] at hm; cases hm
    exact ⟨e', sz', n', by simp [setM, this, hm], ho⟩
  · intro i g cs hi
    have he : d ≠ i := fun x => by subst x; simp [setM] at hi
    obtain ⟨ho, vs, e', hh, hs, hroom, hv⟩ := h.box i g cs (by simpa [setM, he] using hi)
    refine ⟨ho, vs, e', hh, hs, hroom, fun j x hx => ?_⟩
    obtain ⟨v, h1, h2, h3⟩ := hv j x hx
    exact ⟨v, h1, h2, h3.mono (Mu.le_refl _) hst⟩
  · intro i e' sz' n' hi
    by_cases he : d = i
    · subst he
      simp only [setM, if_true] at hi
      injection hi with hi
      injection hi with q1 q2 q3
      subst q1 q2 q3
      refine ⟨hz, ⟨[], ?_⟩, fun b hb => ?_⟩
      · simp only [Loc.setHdr, if_true]
        exact World.ownsRow_nil w 0 e sz
      · simp [Loc.setHdr, Value.ownBlock] at hb
    · have he' : ¬ i = d := fun x => he x.symm
      obtain ⟨h0, h1, h2⟩ := h.tok i e' sz' n' (by simpa [setM, he] using hi)
      simp only [Loc.setHdr, if_neg he']
      exact ⟨h0, h1, h2⟩
  · intro i g cs hi
    have he : d ≠ i := fun x => by subst x; simp [setM] at hi
    exact h.froz i g cs (by simpa [setM, he] using hi)

/-- A new row, which may be appended to. -/
theorem Inv.tokNew (h : Inv c m μ L ow w) {d e sz n cap : Nat} (hd : m d = none) (hz : 0 < sz) (vs : Array Value) (hn : n ≤ cap) (hc : cap ≤ maxLen) (hs : vs.size = cap * sz) :
    Inv c (setM m d (.tok e sz n)) (μ.row w.heap.size (vs.toList.take (n * sz))) (L.setHdr d (.slice (some ⟨w.heap.size, 0, none⟩) n cap)) (setOw ow w.heap.size d) (w.alloc (.cells vs e)) ∧
      Stays L m (L.setHdr d (.slice (some ⟨w.heap.size, 0, none⟩) n cap)) (setM m d (.tok e sz n)) ∧ Mu.le μ (μ.row w.heap.size (vs.toList.take (n * sz))) := by
  have hst : Stays L m (L.setHdr d (.slice (some ⟨w.heap.size, 0, none⟩) n cap)) (setM m d (.tok e sz n)) := Stays.new L hd _ _ (fun i hi => rfl) (fun i hi => rfl) (fun i hi => by simp [Loc.setHdr, hi])
  have hlen : (vs.toList.take (n * sz)).length = n * sz := by
    rw [List.length_take, Array.length_toList, hs]
    exact Nat.min_eq_left (Nat.mul_le_mul_right _ hn)
  have hle : Mu.le μ (μ.row w.heap.size (vs.toList.take (n * sz))) := by
    intro a v ha
    have := h.mu_lt ha
    unfold Mu.row
    rw [if_neg (by omega)]
    exact ha
  have hg := h.grows (μ1 := μ.row w.heap.size (vs.toList.take (n * sz))) (Grows.alloc w (.cells vs e)) hle fun a v ha => by
    unfold Mu.row at ha
    split at ha
    · rename_i hb
      refine .inr ⟨by omega, ?_⟩
      obtain ⟨b, o, s⟩ := a
      obtain ⟨hb, hs', ho⟩ := hb
      simp only at hb hs' ha ho
      subst hb hs'
      rw [World.cell?_alloc_mark]
      rw [List.getElem?_take] at ha
      split at ha
      · simpa using ha
      · cases ha
    · exact .inl ha
  have owlt : ∀ b i, ow b = some i → b ≠ w.heap.size := fun b i hb e => by have := (h.own b i hb).1; omega
  refine ⟨⟨hg.fr, hg.mu, hg.mu0, hg.muNew, ?_, ?_, ?_, ?_, ?_⟩, hst, hle⟩
  · intro a v ha i hi
    unfold Mu.row at ha
    unfold setOw at hi
    split at ha
    · rename_i hb
      rw [if_pos hb.1] at hi
      injection hi with hi
      subst hi
      exact ⟨e, sz, n, by simp [setM], by rw [← hlen]; exact hb.2.2⟩
    · have hlt := h.mu_lt ha
      rw [if_neg (by omega)] at hi
      obtain ⟨e', sz', n', hm, ho⟩ := h.muOwn a v ha i hi
      have : d ≠ i := fun x => by subst x; rw [hd] at hm; cases hm
      exact ⟨e', sz', n', by simp [setM, this, hm], ho⟩
  · intro b i hb
    unfold setOw at hb
    split at hb
    · rename_i e'
      subst e'
      exact ⟨by simp, .inl h.fr.size⟩
    · exact ⟨by have := (h.own b i hb).1; simp; omega, (h.own b i hb).2⟩
  · intro i g cs hi
    have he : d ≠ i := fun x => by subst x; simp [setM] at hi
    obtain ⟨ho, vs', e', hh, hs', hroom, hv⟩ := hg.box i g cs (by simpa [setM, he] using hi)
    refine ⟨by simp only [Loc.setHdr]; simp [setOw, owlt _ _ ho, ho], vs', e', hh, hs', hroom, fun j x hx => ?_⟩
    obtain ⟨v, h1, h2, h3⟩ := hv j x hx
    exact ⟨v, h1, h2, h3.mono (Mu.le_refl _) hst⟩
  · intro i e' sz' n' hi
    by_cases he : d = i
    · subst he
      simp only [setM, if_true] at hi
      injection hi with hi
      injection hi with q1 q2 q3
      subst q1 q2 q3
      refine ⟨hz, ⟨vs.toList.take (n * sz), ?_⟩, fun b hb => ?_⟩
      · simp only [Loc.setHdr, if_true]
        exact ⟨hlen, .inr ⟨w.heap.size, cap, vs, rfl, Nat.zero_le _, heap_alloc_new w _, hn, hc, hs, rfl⟩⟩
      · simp only [Loc.setHdr, if_true, Value.ownBlock, Option.some.injEq] at hb
        subst hb
        exact ⟨by simp [setOw], h.fr.size⟩
    · have he' : ¬ i = d := fun x => he x.symm
      obtain ⟨h0, h1, h2⟩ := hg.tok i e' sz' n' (by simpa [setM, he] using hi)
      simp only [Loc.setHdr, if_neg he']
      exact ⟨h0, h1, fun b hb => ⟨by simp [setOw, owlt _ _ (h2 b hb).1, (h2 b hb).1], (h2 b hb).2⟩⟩
  · intro i g cs hi
    have he : d ≠ i := fun x => by subst x; simp [setM] at hi
    exact hg.froz i g cs (by simpa [setM, he] using hi)
end
end Go.Pm
namespace Go.Pm
open Go.RowKit
section
variable {P : Program} {c : Ctx} {m : Mem} {μ : Mu} {L : Loc} {ow : Nat → Option Nat} {w : World}

/-- Values one by one. -/
inductive RepV (μ : Mu) : List D → List Value → Prop
  | nil : RepV μ [] []
  | cons {x : D} {xs : List D} {v : Value} {l : List Value} (h : RepD μ x v) (t : RepV μ xs l) : RepV μ (x :: xs) (v :: l)
theorem RepV.length {xs : List D} {l : List Value} (h : RepV μ xs l) : l.length = xs.length := by
  induction h with
  | nil => rfl
  | cons _ _ ih => simp [ih]
theorem RepV.flat {xs : List D} {l : List Value} (h : RepV μ xs l) : RepF μ xs (l.flatMap fun v => v.cells.toList) := by
  induction h with
  | nil => exact .nil
  | cons h t ih => exact .cons h.cells ih
theorem RepV.sz {s : Nat} {xs : List D} {l : List Value} (h : RepV μ xs l) (hs : ∀ y ∈ xs, y.sz = s) : ∀ v ∈ l, v.cells.size = s := by
  induction h with
  | nil => simp
  | cons h t ih =>
    intro v hv
    rcases List.mem_cons.1 hv with rfl | hv
    · rw [h.sz]; exact hs _ List.mem_cons_self
    · exact ih (fun y hy => hs y (List.mem_cons_of_mem _ hy)) v hv
theorem RepV.get {xs : List D} {l : List Value} (h : RepV μ xs l) : ∀ (i : Nat) (x : D), xs[i]? = some x → ∃ v, l[i]? = some v ∧ RepD μ x v := by
  induction h with
  | nil => simp
  | cons h t ih =>
    intro i x hx
    cases i with
    | zero => simp at hx; subst hx; exact ⟨_, rfl, h⟩
    | succ i => simpa using ih i x (by simpa using hx)
theorem RepV.mono {μ' : Mu} (hm : Mu.le μ μ') {xs : List D} {l : List Value} (h : RepV μ xs l) : RepV μ' xs l := by
  induction h with
  | nil => exact .nil
  | cons h t ih => exact .cons (h.mono hm) ih

/-- A slice literal. -/
theorem run_lit (w : World) {t e : TypeId} {i ie : TyI} (ht : TyOK P t i) (hk : i.k = .slice e) (he : TyOK P e ie) (hz : 0 < ie.size) {xs : List D} {vs : List Value} (hv : RepV μ xs vs) (hs : ∀ y ∈ xs, y.sz = ie.size)
    (hle : xs.length * ie.size ≤ 16777216) : (Instr.buildSlice t xs.length ((vs.zipIdx 0).map fun p => (p.2, p.1)).toArray).run P w =
      .ok (.slice (some ⟨w.heap.size, 0, none⟩) xs.length xs.length) (w.alloc (.cells (vs.flatMap fun v => v.cells.toList).toArray e)) := by
  have hu := ht.kind
  rw [hk] at hu
  simp only [] at hu
  obtain ⟨z, hzv, hzr⟩ := he.zero
  have hvl := hv.length
  have hfl := hv.flat
  have hsz := hv.sz hs
  -- the literal's cells, whatever stood there
  have hfill : ∀ z0 : Array Value, z0.size = xs.length * ie.size → Instr.fill (fun i => some (i * ie.size, ie.size)) z0 ((vs.zipIdx 0).map fun p => (p.2, p.1)) = some (vs.flatMap fun v => v.cells.toList).toArray := by
    intro z0 h0
    obtain ⟨cs', h1, h2⟩ := fill_seq ie.size vs 0 z0 hsz (by rw [Nat.zero_add, hvl, h0]; exact Nat.le_refl _)
    rw [h1]
    congr 1
    apply Array.ext'
    rw [h2, Nat.zero_add, hvl]
    simp [h0]
  obtain ⟨f, z', hf, hfs, hfb, hfz, _, _⟩ := he.info
  have hno : ¬ xs.length * f.size > 2 ^ 24 := by rw [hfs]; omega
  by_cases h0 : xs.length = 0
  · have hx : xs = [] := List.eq_nil_of_length_eq_zero h0
    subst hx
    cases hv
    simp [Instr.buildSlice, run_underlying hu, sizeOf, typeInfo, hf, newRow, Instr.fill]
    rw [Array.eq_empty_of_size_eq_zero (xs := Array.map (fun x : Nat => (default : Value)) (Array.range 0)) (by simp)]
  · have hpos : ¬ xs.length * f.size = 0 := by
      rw [hfs]
      exact Nat.mul_ne_zero h0 (by omega)
    refine run_buildSlice w t e xs.length _ _ f z' hu hf hfz hno hpos ?_
    rw [hfs]
    exact hfill _ (by simp)
theorem does_buildSlice (h : Inv c m μ L ow w) {t e : TypeId} {i ie : TyI} (ht : TyOK P t i) (hk : i.k = .slice e) (he : TyOK P e ie) (hz : 0 < ie.size) {xs : List D} {vs : List Value} (hv : RepV μ xs vs) (hs : ∀ y ∈ xs, y.sz = ie.size)
    (hle : xs.length * ie.size ≤ 16777216) {d : Nat} (hd : m d = none) :
    Does P c m μ L w (Instr.buildSlice t xs.length ((vs.zipIdx 0).map fun p => (p.2, p.1)).toArray) (.own d xs) (setM m d (.tok e ie.size xs.length)) := by
  have hu := ht.kind
  rw [hk] at hu
  simp only [] at hu
  obtain ⟨z, hzv, hzr⟩ := he.zero
  have hvl := hv.length
  have hfl := hv.flat
  have hsz := hv.sz hs
  have hlen : (vs.flatMap fun v => v.cells.toList).length = xs.length * ie.size := hfl.length hs
  have hmax : xs.length ≤ maxLen := by
    have : xs.length ≤ xs.length * ie.size := Nat.le_mul_of_pos_right _ hz
    simp only [maxLen]; omega
  have hrun := run_lit w ht hk he hz hv hs hle
  obtain ⟨hi, hst, hle'⟩ := h.tokNew (e := e) hd hz (vs.flatMap fun v => v.cells.toList).toArray (n := xs.length) (cap := xs.length) (Nat.le_refl _) hmax (by simp only [List.size_toArray]; exact hlen)
  have htk : ((vs.flatMap fun v => v.cells.toList).toArray.toList.take (xs.length * ie.size)) = vs.flatMap fun v => v.cells.toList := by
    simp only []
    rw [← hlen]
    exact List.take_length
  rw [htk] at hi hle'
  refine ⟨_, _, _, _, _, hrun, hi, hle', hst, ?_⟩
  have hrow : RepRow (μ.row w.heap.size (vs.flatMap fun v => v.cells.toList)) xs w.heap.size 0 := hfl.row hle' fun j u hu' => by
    have hj := (List.getElem?_eq_some_iff.1 hu').1
    unfold Mu.row
    rw [if_pos (by simpa using hj)]
    simpa using hu'
  exact .own (RepD.slice_mk hrow hs (Nat.le_refl _) hmax) (show setM m d (.tok e ie.size xs.length) d = some (.tok e ie.size xs.length) by simp [setM]) (Nat.le_refl _) (fun _ => by simp [Loc.setHdr]) hs

/-! ### append -/
/-- What is appended: a slice's cells. -/
theorem src_cells {xs : List D} {v : Value} (h : Inv c m μ L ow w) (hv : RepD μ (.slice xs) v) {sz : Nat} (hs : ∀ y ∈ xs, y.sz = sz) (hne : xs ≠ []) :
    ∃ a k news, v = .slice (some a) xs.length k ∧ RepF μ xs news ∧ news.length = xs.length * sz ∧ (∀ (j : Nat) (u : Value), news[j]? = some u → w.cell? (a.add j) = some u) ∧ ∀ u ∈ news, u.oneCell' = true := by
  obtain ⟨A, cap, rfl, hle, hc, hr⟩ := hv.slice_inv
  rcases hr with hr | ⟨b, o, s', rfl, hrow, _⟩
  · exact absurd hr hne
  · obtain ⟨news, hf, hg⟩ := hrow.flat
    exact ⟨⟨b, o, none⟩, cap, news, rfl, hf, hf.length hs, fun j u hu => by rw [add_at]; exact h.mu _ _ (hg j u hu), hf.one⟩
theorem own_slice {id : Nat} {xs : List D} {v : Value} (h : RepT μ L m (.own id xs) v) : RepD μ (.slice xs) v := by cases h; assumption

/-- append to a token's row: at least one element. -/
theorem does_append (h : Inv c m μ L ow w) {t ty e : TypeId} {i ie : TyI} (ht : TyOK P t i) (hk : i.k = .slice e) (he : TyOK P e ie) (hz : 0 < ie.size) {id n : Nat} {xs ys : List D} {v vy : Value}
    (hid : m id = some (.tok e ie.size n)) (hv : RepT μ L m (.own id xs) v) (hn : xs.length = n) (hy : RepD μ (.slice ys) vy) (hs : ∀ y ∈ ys, y.sz = ie.size) (hne : ys ≠ [])
    (hb : (xs.length + ys.length) * ie.bytes ≤ 140737488355328) (hmax : xs.length + ys.length ≤ maxLen) :
    Does P c m μ L w (Builtin.append_ #[t, t] ty #[v, vy]) (.own id (xs ++ ys)) (setM m id (.tok e ie.size (n + ys.length))) := by
  have hu := ht.kind
  rw [hk] at hu
  simp only [] at hu
  obtain ⟨f, z, hf, hfs, hfb, hfz, hzsz, hzr⟩ := he.info
  have hzs : z.cells.size = f.size := by rw [(hzr μ).sz, hzsz, hfs]
  obtain ⟨_, ⟨cells, hr⟩, _⟩ := h.tok id e ie.size n hid
  obtain ⟨a, k, news, rfl, hyf, hnl, hnc, hn1⟩ := src_cells h hy hs hne
  have hym : 0 < ys.length := List.length_pos_iff.2 hne
  subst hn
  -- what the temporary holds is the row as it stands
  have hxs : RepD μ (.slice xs) v ∧ v = L.hdr id ∧ ∀ y ∈ xs, y.sz = ie.size := by
    cases hv with
    | own h1 h2 h3 h4 h5 =>
      rw [hid] at h2
      injection h2 with h2
      injection h2 with q1 q2 q3
      subst q1 q2 q3
      exact ⟨h1, h4 rfl, h5⟩
  obtain ⟨hxr, rfl, hxz⟩ := hxs
  rw [← hfs] at hr hnl
  obtain ⟨v1, w1, hrun, hr1, hat⟩ := run_append_two (P := P) w t ty e f z hu hf hfz hzs (by omega) (L.hdr id) xs.length cells hr a ys.length k news hnl hym hnc hn1 hmax (by rw [hfb]; exact hb)
  rw [hfs] at hr hnl hr1
  obtain ⟨b, cap, rfl, hle, hcap, hi, hst, hmle⟩ := h.append hid hym hr hr1 hat
  refine ⟨_, w1, _, _, _, hrun, hi, hmle, hst, ?_⟩
  have hclen : cells.length = xs.length * ie.size := hr.1
  have hmu : ∀ (j : Nat) (u : Value), (cells ++ news)[j]? = some u → μ.row b (cells ++ news) ⟨b, j, none⟩ = some u := fun j u hu' => by
    have hj := (List.getElem?_eq_some_iff.1 hu').1
    unfold Mu.row
    rw [if_pos ⟨rfl, rfl, hj⟩]
    exact hu'
  -- the elder elements
  have hrow1 : RepRow (μ.row b (cells ++ news)) xs b 0 := by
    obtain ⟨A, cap0, hA, _, _, hr'⟩ := hxr.slice_inv
    rcases hr' with rfl | ⟨b0, o0, s0, rfl, hrow, _⟩
    · exact .nil _ _
    · refine hrow.move hmle fun j u hu' => ?_
      rw [Nat.zero_add]
      apply hmu
      -- the cell lies in the row
      have hc := h.mu _ _ hu'
      rcases hr.2 with ⟨hn0, hx0⟩ | ⟨g, cap1, cur, hg, _, hgb, _, _, _, htk⟩
      · rw [hn0] at hA; cases hA
      · rw [hA] at hg
        injection hg with hg
        injection hg with hg
        injection hg with q1 q2
        subst q1 q2
        obtain ⟨_, _, hown⟩ := h.tok id e ie.size xs.length hid
        obtain ⟨e', sz', n', hm', hoff⟩ := h.muOwn _ _ hu' id (hown _ (by rw [hA]; rfl)).1
        rw [hid] at hm'
        injection hm' with hm'
        injection hm' with q1 q2 q3
        subst q1 q2 q3
        simp only [Nat.zero_add] at hoff hc
        rw [cell_of_row w _ j cur e (0, 0) hgb] at hc
        rw [List.getElem?_append_left (by omega), ← htk, List.getElem?_take, if_pos hoff]
        simpa using hc
  have hrow2 : RepRow (μ.row b (cells ++ news)) ys b (0 + xs.length * ie.size) := hyf.row hmle fun j u hu' => by
    apply hmu
    rw [List.getElem?_append_right (by omega), Nat.zero_add, hclen, Nat.add_sub_cancel_left]
    exact hu'
  have hall : ∀ y ∈ xs ++ ys, y.sz = ie.size := fun y hy' => by
    rcases List.mem_append.1 hy' with h1 | h1
    · exact hxz y h1
    · exact hs y h1
  have hl2 : (xs ++ ys).length = xs.length + ys.length := List.length_append
  have hrep := RepD.slice_mk (hrow1.append hxz hrow2) hall (cap := cap) (by rw [hl2]; exact hle) hcap
  rw [hl2] at hrep
  exact .own hrep (show setM m id (.tok e ie.size (xs.length + ys.length)) id = some (.tok e ie.size (xs.length + ys.length)) by simp [setM]) (by rw [hl2]; exact Nat.le_refl _) (fun _ => by simp [Loc.setHdr]) hall
/-- append of no element. -/
theorem does_append_none (h : Inv c m μ L ow w) {t ty e : TypeId} {i ie : TyI} (ht : TyOK P t i) (hk : i.k = .slice e) (he : TyOK P e ie) {id : Nat} {xs : List D} {v vy : Value}
    (hv : RepT μ L m (.own id xs) v) (hy : RepD μ (.slice []) vy) : Does P c m μ L w (Builtin.append_ #[t, t] ty #[v, vy]) (.own id xs) m := by
  have hu := ht.kind
  rw [hk] at hu
  simp only [] at hu
  obtain ⟨f, z, hf, hfs, hfb, hfz, hzsz, hzr⟩ := he.info
  have hxr := own_slice hv
  obtain ⟨A, cap, rfl, hle, _, _⟩ := hxr.slice_inv
  obtain ⟨B, cap', rfl, _, _, _⟩ := hy.slice_inv
  refine .pure h ?_ hv
  cases A <;> cases B <;> simp [Builtin.append_, run_underlying hu, sizeOf, typeInfo, hf, Builtin.lenOf, hle, Builtin.firstCells, loadCells, loadCellsFrom, storeCells]
end
end Go.Pm
namespace Go.Pm
open Go.RowKit
section
variable {P : Program} {c : Ctx} {m : Mem} {μ : Mu} {L : Loc} {ow : Nat → Option Nat} {w : World}

/-- Cells get a new place, or more of it. -/
theorem Inv.rebox (h : Inv c m μ L ow w) {id g g' : Nat} {cs cs' : List T} (hid : m id = some (.box g cs)) (hg : g < g') {w1 : World} {b e : Nat} {vs : Array Value}
    (hos : w1.os = w.os) (htape : w1.tape = w.tape) (hout : w1.output = w.output) (hsize : w.heap.size ≤ w1.heap.size) (hkeep : ∀ k, k < w.heap.size → k ≠ L.blk id → w1.heap[k]? = w.heap[k]?)
    (hb : b = L.blk id ∨ b = w.heap.size) (hh : w1.heap[b]? = some (.cells vs e (0, 0))) (hlen : cs'.length ≤ vs.size)
    (hv : ∀ (i : Nat) (x : T), cs'[i]? = some x → ∃ v, vs[i]? = some v ∧ v.oneCell' = true ∧ RepT μ L m x v) :
    Inv c (setM m id (.box g' cs')) μ (L.setBlk id b vs.size) (setOw ow b id) w1 ∧ Stays L m (L.setBlk id b vs.size) (setM m id (.box g' cs')) := by
  obtain ⟨ho, vs0, e0, hh0, hs0, hroom0, hv0⟩ := h.box id g cs hid
  have hst : Stays L m (L.setBlk id b vs.size) (setM m id (.box g' cs')) := Stays.turn L hid _ _ (fun i hi => by simp [Loc.setBlk, hi]) (fun i hi => by simp [Loc.setBlk, hi]) (fun _ _ => rfl)
    (fun g2 q => ⟨g', rfl, by cases q; omega, fun q2 => by cases q; omega⟩) (fun _ _ _ q => by cases q)
  have hnomu : ∀ a u, μ a = some u → a.block ≠ L.blk id := fun a u ha e => by
    obtain ⟨e', sz, n, hm, _⟩ := h.muOwn a u ha id (by rw [e]; exact ho)
    rw [hid] at hm
    cases hm
  have hnb : ∀ a u, μ a = some u → a.block ≠ b := fun a u ha e => by
    rcases hb with hb | hb
    · exact hnomu a u ha (e.trans hb)
    · have := h.mu_lt ha; omega
  have howb : ∀ i k, ow k = some i → id ≠ i → k ≠ b ∧ k ≠ L.blk id := fun i k hk hi => by
    have h1 : k ≠ L.blk id := fun q => by rw [q, ho] at hk; injection hk with hk; exact hi hk
    refine ⟨fun q => ?_, h1⟩
    rcases hb with hb | hb
    · exact h1 (q.trans hb)
    · have := (h.own _ _ hk).1; omega
  have hb1 : b < w1.heap.size := (Array.getElem?_eq_some_iff.1 hh).1
  refine ⟨⟨?_, ?_, h.mu0, h.muNew, ?_, ?_, ?_, ?_, ?_⟩, hst⟩
  · refine ⟨hos.trans h.fr.os, htape.trans h.fr.tape, hout.trans h.fr.output, Nat.le_trans h.fr.size hsize, fun k hk hS => ?_⟩
    rw [hkeep k (Nat.lt_of_lt_of_le hk h.fr.size) (fun q => ?_)]
    · exact h.fr.block k hk hS
    · subst q
      rcases (h.own _ _ ho).2 with h' | h'
      · omega
      · exact hS h'
  · intro a u ha
    exact (World.cell?_of_block (w := w) (hkeep _ (h.mu_lt ha) (hnomu a u ha))).trans (h.mu a u ha)
  · intro a u ha j hj
    unfold setOw at hj
    rw [if_neg (hnb a u ha)] at hj
    obtain ⟨e', sz, n, hm, hoff⟩ := h.muOwn a u ha j hj
    have : id ≠ j := fun q => by rw [← q, hid] at hm; cases hm
    exact ⟨e', sz, n, by rw [setM_ne m _ this]; exact hm, hoff⟩
  · intro k j hk
    unfold setOw at hk
    split at hk
    · rename_i q
      subst q
      refine ⟨hb1, ?_⟩
      rcases hb with hb | hb
      · rw [hb]; exact (h.own _ _ ho).2
      · exact .inl (by rw [hb]; exact h.fr.size)
    · exact ⟨Nat.lt_of_lt_of_le (h.own _ _ hk).1 hsize, (h.own _ _ hk).2⟩
  · intro j g2 cs2 hj
    by_cases he : id = j
    · subst he
      simp only [setM, if_true] at hj
      injection hj with hj
      injection hj with hj1 hj2
      subst hj1 hj2
      refine ⟨by simp [Loc.setBlk, setOw], vs, e, by simpa [Loc.setBlk] using hh, hlen, by simp [Loc.setBlk], fun i x hx => ?_⟩
      obtain ⟨v, h1, h2, h3⟩ := hv i x hx
      exact ⟨v, h1, h2, h3.mono (Mu.le_refl _) hst⟩
    · have he' : ¬ j = id := fun q => he q.symm
      obtain ⟨ho', vs', e', hh', hs', hr', hv'⟩ := h.box j g2 cs2 (by simpa [setM, he] using hj)
      obtain ⟨q1, q2⟩ := howb j _ ho' he
      have hbj : (L.setBlk id b vs.size).blk j = L.blk j := by simp [Loc.setBlk, he']
      rw [hbj]
      refine ⟨by simp [setOw, q1, ho'], vs', e', (hkeep _ (h.own _ _ ho').1 q2).trans hh', hs', by simp [Loc.setBlk, he', hr'], fun i x hx => ?_⟩
      obtain ⟨v, h1, h2, h3⟩ := hv' i x hx
      exact ⟨v, h1, h2, h3.mono (Mu.le_refl _) hst⟩
  · intro j e' sz n hj
    have he : id ≠ j := fun q => by subst q; simp [setM] at hj
    obtain ⟨h0, ⟨cells, hr⟩, h2⟩ := h.tok j e' sz n (by simpa [setM, he] using hj)
    refine ⟨h0, ⟨cells, rowAt_keep hr fun k hk => ?_⟩, fun k hk => ?_⟩
    · obtain ⟨q1, q2⟩ := howb j _ (h2 k hk).1 he
      exact hkeep k (h.own _ _ (h2 k hk).1).1 q2
    · obtain ⟨q1, q2⟩ := howb j _ (h2 k hk).1 he
      exact ⟨by simp [setOw, q1, (h2 k hk).1], (h2 k hk).2⟩
  · intro j g2 ds hj
    have he : id ≠ j := fun q => by subst q; simp [setM] at hj
    have he' : ¬ j = id := fun q => he q.symm
    have := h.froz j g2 ds (by simpa [setM, he] using hj)
    simpa [Loc.setBlk, he'] using this

/-! ### append to such a slice -/
theorem run_append_room2 (w : World) (t ty e e2 : TypeId) (i : TypeInfo) (ht : P.underlying t = some (.slice e)) (hi : P.info? e = some i)
    (g sLen sCap : Nat) (cur : Array Value) (hg : w.heap[g]? = some (.cells cur e2 (0, 0)))
    (a : Addr) (k c : Nat) (news : List Value) (hl : news.length = k * i.size) (hnews : ∀ j u, news[j]? = some u → w.cell? (a.add j) = some u) (h1 : ∀ u ∈ news, u.oneCell' = true)
    (hroom : sLen + k ≤ sCap) (hfit : sLen * i.size + news.length ≤ cur.size) :
    (Builtin.append_ #[t, t] ty #[.slice (some ⟨g, 0, none⟩) sLen sCap, .slice (some a) k c]).run P w =
      .ok (.slice (some ⟨g, 0, none⟩) (sLen + k) sCap) (w.setRow g (cur.toList.take (sLen * i.size) ++ news ++ cur.toList.drop (sLen * i.size + news.length)).toArray) := by
  have hf := run_firstCells_some (P := P) w i.size k a k c news hl hnews
  have hst := run_storeCells_at P g (sLen * i.size) e2 news 0 cur w hg (by simpa using hfit) h1
  simp only [Nat.add_zero] at hst
  simp [Builtin.append_, run_underlying ht, sizeOf, typeInfo, hi, Builtin.lenOf, hroom, hf, Addr.add_lit, hst]
theorem getElem?_of_size {α : Type} {a : Array α} {i : Nat} (h : i < a.size) : ∃ v, a[i]? = some v := ⟨a[i], Array.getElem?_eq_getElem h⟩

/-- What is appended: values of cells that lie somewhere, k elements of them. -/
structure Src (m : Mem) (μ : Mu) (L : Loc) (w : World) (vy : Value) (k sz : Nat) (ts : List T) : Prop where
  ex : ∃ (a : Addr) (c : Nat) (news : List Value), vy = .slice (some a) k c ∧ news.length = k * sz ∧ news.length = ts.length ∧ (∀ (j : Nat) (u : Value), news[j]? = some u → w.cell? (a.add j) = some u) ∧
    (∀ (j : Nat) (x : T), ts[j]? = some x → ∃ u, news[j]? = some u ∧ u.oneCell' = true ∧ RepT μ L m x u)
theorem Src.ones {μ : Mu} {L : Loc} {m : Mem} {news : List Value} {ts : List T} (hl : news.length = ts.length) (h : ∀ (j : Nat) (x : T), ts[j]? = some x → ∃ u, news[j]? = some u ∧ u.oneCell' = true ∧ RepT μ L m x u) : ∀ u ∈ news, u.oneCell' = true := by
  intro u hu
  obtain ⟨j, hj⟩ := List.mem_iff_getElem?.1 hu
  have hlt : j < ts.length := by rw [← hl]; exact (List.getElem?_eq_some_iff.1 hj).1
  obtain ⟨u', h1, h2, _⟩ := h j _ (List.getElem?_eq_getElem hlt)
  rw [hj] at h1
  injection h1 with h1
  rw [h1]; exact h2

theorem does_appendV (h : Inv c m μ L ow w) {t ty e : TypeId} {i ie : TyI} (ht : TyOK P t i) (hk : i.k = .slice e) (he : TyOK P e ie) (hz : 0 < ie.size) {id g n k : Nat} {cs ts : List T} {v vy : Value}
    (hid : m id = some (.box g cs)) (hv : RepT μ L m (.view id g ie.size 0 n) v) (hn : n * ie.size = cs.length) (hy : Src m μ L w vy k ie.size ts) (hk0 : 0 < k)
    (hb : (n + k) * ie.bytes ≤ 140737488355328) (hmax : n + k ≤ maxLen) :
    Does P c m μ L w (Builtin.append_ #[t, t] ty #[v, vy]) (.view id (g + 1) ie.size 0 (n + k)) (setM m id (.box (g + 1) (cs ++ ts))) := by
  have hu := ht.kind
  rw [hk] at hu
  simp only [] at hu
  obtain ⟨f, z, hf, hfs, hfb, hfz, hzsz, hzr⟩ := he.info
  have hzs : z.cells.size = f.size := by rw [(hzr μ).sz, hzsz, hfs]
  obtain ⟨ho, vs, e0, hh, hs, hroom, hcell⟩ := h.box id g cs hid
  obtain ⟨a, c', news, rfl, hnl, hnt, hnc, hnr⟩ := hy.ex
  have h1 := Src.ones hnt hnr
  cases hv with
  | @view _ _ _ _ _ cap g' A o hm hg hle hA =>
  rw [hid] at hm
  injection hm with hm
  subst hm
  cases hg
  obtain ⟨hAA, hcap, hncap, hcm⟩ := hA rfl
  rw [Nat.zero_add, ← hroom] at hcap
  have hcells : ∀ (j : Nat) (x : T), (cs ++ ts)[j]? = some x → ∃ u, (vs.toList.take cs.length ++ news)[j]? = some u ∧ u.oneCell' = true ∧ RepT μ L m x u := by
    intro j x hx
    rw [List.getElem?_append] at hx
    have htl : (vs.toList.take cs.length).length = cs.length := by rw [List.length_take, Array.length_toList (xs := vs)]; exact Nat.min_eq_left hs
    split at hx
    · rename_i hj
      obtain ⟨u, q1, q2, q3⟩ := hcell j x hx
      refine ⟨u, ?_, q2, q3⟩
      rw [List.getElem?_append_left (by omega), List.getElem?_take, if_pos hj]
      simpa using q1
    · rename_i hj
      obtain ⟨u, q1, q2, q3⟩ := hnr _ x hx
      refine ⟨u, ?_, q2, q3⟩
      rw [List.getElem?_append_right (by omega), htl]
      exact q1
  have htl : (vs.toList.take cs.length).length = cs.length := by rw [List.length_take, Array.length_toList (xs := vs)]; exact Nat.min_eq_left hs
  by_cases hfits : n + k ≤ cap
  · obtain rfl := hAA (by omega)
    have hfit : n * f.size + news.length ≤ vs.size := by
      rw [hnl, hfs, ← Nat.add_mul]
      exact Nat.le_trans (Nat.mul_le_mul_right _ hfits) hcap
    have hrun := run_append_room2 (P := P) w t ty e e0 f hu hf (L.blk id) n cap vs hh a k c' news (by rw [hfs]; exact hnl) hnc h1 hfits hfit
    rw [hfs, hn] at hrun hfit
    have hsz : (vs.toList.take cs.length ++ news ++ vs.toList.drop (cs.length + news.length)).toArray.size = vs.size := by
      simp only [List.size_toArray, List.length_append, List.length_take, List.length_drop, Array.length_toList]
      omega
    obtain ⟨hi, hst⟩ := h.rebox (g' := g + 1) (cs' := cs ++ ts) hid (Nat.lt_succ_self g) (w1 := w.setRow (L.blk id) (vs.toList.take cs.length ++ news ++ vs.toList.drop (cs.length + news.length)).toArray) rfl rfl rfl (by simp)
      (fun q hq hne => setRow_other w _ q _ hne) (.inl rfl) (setRow_heap w _ vs _ e0 _ hh) (by rw [hsz, List.length_append]; omega) fun j x hx => by
        obtain ⟨u, q1, q2, q3⟩ := hcells j x hx
        refine ⟨u, ?_, q2, q3⟩
        rw [List.getElem?_toArray, List.getElem?_append_left (List.getElem?_eq_some_iff.1 q1).1]
        exact q1
    rw [hsz] at hi hst
    refine ⟨_, _, μ, _, _, hrun, hi, Mu.le_refl _, hst, ?_⟩
    exact .view (setM_self m id _) rfl (Nat.le_refl _) fun _ => ⟨fun _ => by simp [Loc.setBlk], by simp [Loc.setBlk]; exact hcap, hfits, hcm⟩
  · have hfits' : cap < n + k := by omega
    have hge := grownCap_ge w (n + k) cap e
    have hgm : grownCap w (n + k) cap e ≤ maxLen := grownCap_le_maxLen w (n + k) cap e hmax
    have hsmall : n + k ≤ 9223372036854775807 := by simp only [maxLen] at hmax; omega
    have holds : ∀ j u, (vs.toList.take cs.length)[j]? = some u → w.cell? (A.add j) = some u := by
      intro j u hj
      have hj0 := (List.getElem?_eq_some_iff.1 hj).1
      have hcap0 : 0 < cap := by
        rcases Nat.eq_zero_or_pos cap with q | q
        · subst q
          have : n = 0 := by omega
          subst this
          simp only [Nat.zero_mul] at hn
          rw [← hn] at hj0
          simp at hj0
        · exact q
      rw [hAA hcap0]
      rw [add_at, Nat.zero_add, cell_of_row w _ j vs e0 (0, 0) hh]
      rw [List.getElem?_take] at hj
      split at hj
      · simpa using hj
      · cases hj
    have hrun := run_append_grow (P := P) w t ty e f z hu hf hfz A n cap (vs.toList.take cs.length) (by rw [htl, hfs, hn]) holds a k c' news (by rw [hfs]; exact hnl) hnc hfits' (by omega) (growslice_fits hfits' (by rw [hfb]; exact hb))
    have hsz : ((vs.toList.take cs.length).toArray ++ news.toArray ++ Builtin.zeroCells z.cells (grownCap w (n + k) cap e - (n + k))).size = grownCap w (n + k) cap e * ie.size := by
      have htl2 : (vs.toList.take cs.length).length = n * ie.size := htl.trans hn.symm
      simp only [Array.size_append, List.size_toArray, size_zeroCells, hzs, hfs, htl2, hnl, ← Nat.add_mul]
      congr 1
      omega
    obtain ⟨hi, hst⟩ := h.drew.rebox (g' := g + 1) (cs' := cs ++ ts) hid (Nat.lt_succ_self g) (w1 := w.drew.alloc (.cells ((vs.toList.take cs.length).toArray ++ news.toArray ++ Builtin.zeroCells z.cells (grownCap w (n + k) cap e - (n + k))) e)) rfl rfl rfl (by simp)
      (fun q hq hne => Below.heap_alloc w.drew _ q hq) (.inr rfl) (heap_alloc_new w.drew _) (by
        rw [hsz, List.length_append, ← hn, ← hnt, hnl, ← Nat.add_mul]; exact Nat.mul_le_mul_right _ hge) fun j x hx => by
        obtain ⟨u, q1, q2, q3⟩ := hcells j x hx
        refine ⟨u, ?_, q2, q3⟩
        have hj := (List.getElem?_eq_some_iff.1 q1).1
        have e1 : (vs.toList.take cs.length).toArray ++ news.toArray = (vs.toList.take cs.length ++ news).toArray := by simp
        rw [e1, Array.getElem?_append_left (by simpa using hj), List.getElem?_toArray]
        exact q1
    rw [hsz] at hi hst
    refine ⟨_, _, μ, _, _, hrun, hi, Mu.le_refl _, hst, ?_⟩
    exact .view (setM_self m id _) rfl (Nat.le_refl _) fun _ => ⟨fun _ => by simp [Loc.setBlk], by simp [Loc.setBlk], hge, hgm⟩
end
end Go.Pm
namespace Go.Pm
open Go.RowKit
section
variable {P : Program} {c : Ctx} {m : Mem} {μ : Mu} {L : Loc} {ow : Nat → Option Nat} {w : World}

/-- append of nothing. -/
theorem does_appendV0 (h : Inv c m μ L ow w) {t ty e : TypeId} {i ie : TyI} (ht : TyOK P t i) (hk : i.k = .slice e) (he : TyOK P e ie) {id g sz off n : Nat} {cs : List T} {v vy : Value}
    (hid : m id = some (.box g cs)) (hv : RepT μ L m (.view id g sz off n) v) (hy : RepD μ (.slice []) vy) : Does P c m μ L w (Builtin.append_ #[t, t] ty #[v, vy]) (.view id g sz off n) m := by
  have hu := ht.kind
  rw [hk] at hu
  simp only [] at hu
  obtain ⟨f, z, hf, hfs, hfb, hfz, hzsz, hzr⟩ := he.info
  obtain ⟨B, cap', rfl, _, _, _⟩ := hy.slice_inv
  refine .pure h ?_ hv
  cases hv with
  | @view _ _ _ _ _ cap g' A o hm hg hle hA =>
    rw [hid] at hm
    injection hm with hm
    subst hm
    cases hg
    obtain ⟨_, _, hncap, _⟩ := hA rfl
    cases B <;> simp [Builtin.append_, run_underlying hu, sizeOf, typeInfo, hf, Builtin.lenOf, hncap, Builtin.firstCells, loadCells, loadCellsFrom, storeCells]
/-- append to nil, to be written later. -/
theorem does_appendNV (h : Inv c m μ L ow w) {t ty e : TypeId} {i ie : TyI} (ht : TyOK P t i) (hk : i.k = .slice e) (he : TyOK P e ie) {d k : Nat} {ts : List T} {vy : Value}
    (hd : m d = none) (hy : Src m μ L w vy k ie.size ts) (hk0 : 0 < k) (hb : k * ie.bytes ≤ 140737488355328) (hmax : k ≤ maxLen) :
    Does P c m μ L w (Builtin.append_ #[t, t] ty #[.slice none 0 0, vy]) (.view d 0 ie.size 0 k) (setM m d (.box 0 ts)) := by
  have hu := ht.kind
  rw [hk] at hu
  simp only [] at hu
  obtain ⟨f, z, hf, hfs, hfb, hfz, hzsz, hzr⟩ := he.info
  have hzs : z.cells.size = f.size := by rw [(hzr μ).sz, hzsz, hfs]
  obtain ⟨a, c', news, rfl, hnl, hnt, hnc, hnr⟩ := hy.ex
  have hsmall : k ≤ 9223372036854775807 := by simp only [maxLen] at hmax; omega
  have hrun := run_append_nil (P := P) w t ty e f z hu hf hfz a k c' news (by rw [hfs]; exact hnl) hnc hk0 (by omega) (by rw [hfb]; omega)
  have hge := grownCap_ge w k 0 e
  have hgm : grownCap w k 0 e ≤ maxLen := grownCap_le_maxLen w k 0 e hmax
  have hsz : (news.toArray ++ Builtin.zeroCells z.cells (grownCap w k 0 e - k)).size = grownCap w k 0 e * ie.size := by
    simp only [Array.size_append, List.size_toArray, size_zeroCells, hzs, hfs, hnl, ← Nat.add_mul]
    congr 1
    omega
  obtain ⟨hi, hst⟩ := h.drew.newBox hd (news.toArray ++ Builtin.zeroCells z.cells (grownCap w k 0 e - k)) e 0 ts (by rw [hsz, ← hnt, hnl]; exact Nat.mul_le_mul_right _ hge) fun j x hx => by
    obtain ⟨u, q1, q2, q3⟩ := hnr j x hx
    refine ⟨u, ?_, q2, q3⟩
    have hj := (List.getElem?_eq_some_iff.1 q1).1
    rw [Array.getElem?_append_left (by simpa using hj), List.getElem?_toArray]
    exact q1
  rw [hsz] at hi hst
  refine ⟨_, _, μ, _, _, hrun, hi, Mu.le_refl _, hst, ?_⟩
  exact .view (setM_self m d _) rfl (Nat.le_refl _) fun _ => ⟨fun _ => by simp [Loc.setBlk], by simp [Loc.setBlk], hge, hgm⟩

/-- What data append. -/
theorem RepF.gets {xs : List D} {l : List Value} (h : RepF μ xs l) : l.length = (xs.flatMap D.cells).length ∧ ∀ (j : Nat) (y : D), (xs.flatMap D.cells)[j]? = some y → ∃ u, l[j]? = some u ∧ u.oneCell' = true ∧ RepD μ y u := by
  induction h with
  | nil => simp
  | @cons x xs c l h t ih =>
    obtain ⟨h1, h2⟩ := ih
    have hl := h.length
    refine ⟨by simp [h1, hl], fun j y hy => ?_⟩
    rw [List.flatMap_cons, List.getElem?_append] at hy
    split at hy
    · rename_i hj
      obtain ⟨u, q1, q2, q3⟩ := h.get j y hy
      exact ⟨u, by rw [List.getElem?_append_left (by omega)]; exact q1, q3, q2⟩
    · rename_i hj
      obtain ⟨u, q1, q2, q3⟩ := h2 _ y hy
      exact ⟨u, by rw [List.getElem?_append_right (by omega), hl]; exact q1, q2, q3⟩
theorem Src.ofD (h : Inv c m μ L ow w) {vy : Value} {ys : List D} (hy : RepD μ (.slice ys) vy) {sz : Nat} (hs : ∀ y ∈ ys, y.sz = sz) (hne : ys ≠ []) : Src m μ L w vy ys.length sz ((ys.flatMap D.cells).map .d) := by
  obtain ⟨a, k, news, rfl, hf, hl, hc, h1⟩ := src_cells h hy hs hne
  obtain ⟨g1, g2⟩ := hf.gets
  refine ⟨a, k, news, rfl, hl, by simp [g1], hc, fun j x hx => ?_⟩
  rw [List.getElem?_map] at hx
  cases hq : (ys.flatMap D.cells)[j]? with
  | none => rw [hq] at hx; cases hx
  | some y =>
    rw [hq] at hx
    simp at hx
    subst hx
    obtain ⟨u, q1, q2, q3⟩ := g2 j y hq
    exact ⟨u, q1, q2, .d q3⟩
/-- What such a slice appends. -/
theorem Src.ofV (h : Inv c m μ L ow w) {vy : Value} {id g sz off n : Nat} {cs : List T} (hid : m id = some (.box g cs)) (hv : RepT μ L m (.view id g sz off n) vy) (hle : off + n * sz ≤ cs.length) (h0 : 0 < n) : Src m μ L w vy n sz ((cs.drop off).take (n * sz)) := by
  obtain ⟨ho, vs, e0, hh, hs, hroom, hcell⟩ := h.box id g cs hid
  cases hv with
  | @view _ _ _ _ _ cap g' A o hm hg hle' hA =>
    rw [hid] at hm
    injection hm with hm
    subst hm
    cases hg
    obtain ⟨hAA, _, hncap, _⟩ := hA rfl
    obtain rfl := hAA (by omega)
    have hget : ∀ j, ((vs.toList.drop off).take (n * sz))[j]? = if j < n * sz then vs[off + j]? else none := fun j => by
      rw [List.getElem?_take]
      split
      · rw [List.getElem?_drop]; simp
      · rfl
    have hl : ((vs.toList.drop off).take (n * sz)).length = n * sz := by
      rw [List.length_take, List.length_drop, Array.length_toList (xs := vs)]
      exact Nat.min_eq_left (by omega)
    refine ⟨_, cap, (vs.toList.drop off).take (n * sz), rfl, hl, ?_, fun j u hu => ?_, fun j x hx => ?_⟩
    · rw [hl, List.length_take, List.length_drop]
      exact (Nat.min_eq_left (by omega)).symm
    · rw [hget] at hu
      split at hu
      · rw [add_at, cell_of_row w _ _ vs e0 (0, 0) hh]; exact hu
      · cases hu
    · rw [List.getElem?_take] at hx
      split at hx
      · rename_i hj
        rw [List.getElem?_drop] at hx
        obtain ⟨u, q1, q2, q3⟩ := hcell _ x hx
        exact ⟨u, by rw [hget, if_pos hj]; exact q1, q2, q3⟩
      · cases hx

/-! ### make, literals -/
theorem rep_get {α : Type} (xs : List α) : ∀ (l j : Nat), (List.replicate l xs).flatten[j]? = if j < l * xs.length then xs[j % xs.length]? else none
  | 0, j => by simp
  | l + 1, j => by
    rw [List.replicate_succ, List.flatten_cons, List.getElem?_append, Nat.add_mul, Nat.one_mul]
    split
    · rename_i h
      rw [if_pos (by omega), Nat.mod_eq_of_lt h]
    · rename_i h
      rw [rep_get xs l (j - xs.length)]
      by_cases h2 : j < l * xs.length + xs.length
      · rw [if_pos (by omega), if_pos h2, show j % xs.length = (j - xs.length) % xs.length from Nat.mod_eq_sub_mod (by omega)]
      · rw [if_neg (by omega), if_neg h2]
def zcells (l : Nat) (z : D) : List T := (List.replicate l (z.cells.map T.d)).flatten
theorem does_make (h : Inv c m μ L ow w) {t e : TypeId} {i ie : TyI} (ht : TyOK P t i) (hk : i.k = .slice e) (he : TyOK P e ie) (hz : 0 < ie.size) {kl kc : IntKind} {l k : Int} {vl vc : Value} (hl : RepD μ (.int kl l) vl) (hc : RepD μ (.int kc k) vc)
    (h0 : 0 ≤ l) (hlk : l ≤ k) (hb : k * ie.bytes ≤ 140737488355328) (hmax : k ≤ 140737488355328) {d : Nat} (hd : m d = none) :
    Does P c m μ L w (Instr.makeSlice t vl vc) (.view d 0 ie.size 0 l.toNat) (setM m d (.box 0 (zcells l.toNat ie.zero))) := by
  have hu := ht.kind
  rw [hk] at hu
  simp only [] at hu
  obtain ⟨f, z, hf, hfs, hfb, hfz, hzsz, hzr⟩ := he.info
  have hzs : z.cells.size = ie.size := by rw [(hzr μ).sz, hzsz]
  cases hl
  cases hc
  have hrun := run_make (P := P) w t e f z hu hf hfz kl kc l k h0 hlk (by rw [hfb, Int.mul_comm]; omega) (by omega)
  have hzc : ie.zero.cells.length = ie.size := by rw [D.cells_length, hzsz]
  have hlen : (zcells l.toNat ie.zero).length = l.toNat * ie.size := by
    unfold zcells
    rw [List.length_flatten, List.map_replicate, List.sum_replicate_nat, List.length_map, hzc]
  have hle : l.toNat * ie.size ≤ k.toNat * ie.size := Nat.mul_le_mul_right _ (by omega)
  have hcells := (hzr μ).cells
  obtain ⟨hi, hst⟩ := h.newBox hd (madeCells z.cells (k.toNat * f.size)) e 0 (zcells l.toNat ie.zero) (by rw [size_madeCells, hlen, hfs]; exact hle) fun j x hx => by
    unfold zcells at hx
    rw [rep_get, List.length_map, hzc] at hx
    split at hx
    · rename_i hj
      rw [List.getElem?_map] at hx
      cases hq : ie.zero.cells[j % ie.size]? with
      | none => rw [hq] at hx; cases hx
      | some y =>
        rw [hq] at hx
        simp at hx
        subst hx
        obtain ⟨u, q1, q2, q3⟩ := hcells.get _ y hq
        refine ⟨u, ?_, q3, .d q2⟩
        have hm : j % ie.size < z.cells.size := by rw [hzs]; exact Nat.mod_lt _ hz
        have : z.cells[j % z.cells.size]! = u := by
          rw [hzs, getElem!_pos z.cells _ hm]
          simpa [hm] using q1
        simp only [madeCells, Array.getElem?_map]
        rw [Array.getElem?_eq_getElem (by simp; rw [hfs]; omega)]
        simp [this]
    · cases hx
  refine ⟨_, _, μ, _, _, hrun, hi, Mu.le_refl _, hst, ?_⟩
  refine .view (setM_self m d _) rfl (Nat.le_refl _) fun _ => ⟨fun _ => by simp [Loc.setBlk], ?_, by omega, by simp only [maxLen]; omega⟩
  simp [Loc.setBlk, size_madeCells, hfs]

/-! ### cuts -/
theorem does_cutD (h : Inv c m μ L ow w) {t e : TypeId} {i ie : TyI} (ht : TyOK P t i) (hk : i.k = .slice e) (he : TyOK P e ie) {v : Value} {xs : List D} (hv : RepD μ (.slice xs) v) (hs : ∀ y ∈ xs, y.sz = ie.size)
    {lo hi mx : Option Value} {l hh mm : Nat} (hlo : (lo = none ∧ l = 0) ∨ ∃ k, lo = some (.int k l)) (hhi : (hi = none ∧ hh = xs.length ∧ mx = none) ∨ ∃ k, hi = some (.int k hh)) (hmx : mx = none ∨ (∃ k, mx = some (.int k mm)) ∧ hh ≤ mm ∧ mm ≤ xs.length)
    (h1 : l ≤ hh) (h2 : hh ≤ xs.length) : Does P c m μ L w (Instr.sliceAt t v lo hi mx) (.d (.slice ((xs.take hh).drop l))) m := by
  have hu := ht.kind
  rw [hk] at hu
  simp only [] at hu
  obtain ⟨A, cap, rfl, hle, hc, hr⟩ := hv.slice_inv
  have hmb : ∃ m3, (Instr.sliceBounds true xs.length cap lo hi mx).run P w = .ok (l, hh, m3) w ∧ hh ≤ m3 ∧ m3 ≤ cap := by
    have hhc : hh ≤ cap := by omega
    have hlx : l ≤ xs.length := by omega
    rcases hmx with rfl | ⟨⟨k3, rfl⟩, h3, h4⟩
    · refine ⟨cap, ?_, by omega, Nat.le_refl _⟩
      rcases hhi with ⟨rfl, rfl, _⟩ | ⟨k2, rfl⟩ <;> rcases hlo with ⟨rfl, rfl⟩ | ⟨k1, rfl⟩ <;> simp [Instr.sliceBounds, Instr.sliceBound, asIntOf, h1, h2, hhc, hlx, hle]
    · refine ⟨mm, ?_, by omega, by omega⟩
      rcases hhi with ⟨rfl, rfl, h5⟩ | ⟨k2, rfl⟩
      · cases h5
      · rcases hlo with ⟨rfl, rfl⟩ | ⟨k1, rfl⟩ <;> simp [Instr.sliceBounds, Instr.sliceBound, asIntOf, h3, h1, show mm ≤ cap by omega]
  obtain ⟨m3, hrun, h3, h4⟩ := hmb
  have hlen : ((xs.take hh).drop l).length = hh - l := by rw [List.length_drop, List.length_take]; omega
  have hrun2 : (Instr.sliceAt t (.slice A xs.length cap) lo hi mx).run P w = .ok (.slice (if m3 = l then A else A.map (·.add (l * ie.size))) (hh - l) (m3 - l)) w := by
    simp [Instr.sliceAt, run_underlying hu, Instr.slice, hrun, he.sizeOf]
  refine .pure h hrun2 (.d ?_)
  rcases hr with rfl | ⟨b, o, sz, rfl, hrow, hsz⟩
  · simp only [List.length_nil, Nat.le_zero_eq] at h2
    subst h2
    simp only [List.take_nil, List.drop_nil, Nat.zero_sub]
    exact .slice0 _ _ (by omega)
  · by_cases hq : m3 = l
    · have e0 : hh - l = 0 := by omega
      have : (xs.take hh).drop l = [] := List.eq_nil_of_length_eq_zero (by rw [hlen]; omega)
      rw [this, e0]
      exact .slice0 _ _ (by omega)
    · rw [if_neg hq]
      have hrow2 := (hrow.take hh).drop (fun y hy => hs y (List.mem_of_mem_take hy)) l (by rw [List.length_take]; omega)
      have := RepD.slice_mk (cap := m3 - l) hrow2 (fun y hy => hs y (List.mem_of_mem_take (List.mem_of_mem_drop hy))) (by rw [hlen]; omega) (by omega)
      rw [hlen] at this
      simpa [add_at] using this
theorem does_cutS (h : Inv c m μ L ow w) {t : TypeId} {i : TyI} (ht : TyOK P t i) (hk : i.k = .str) {s : ByteArray} {v : Value} (hv : RepD μ (.str s) v)
    {lo hi : Option Value} {l hh : Nat} (hlo : (lo = none ∧ l = 0) ∨ ∃ k, lo = some (.int k l)) (hhi : (hi = none ∧ hh = s.size) ∨ ∃ k, hi = some (.int k hh))
    (h1 : l ≤ hh) (h2 : hh ≤ s.size) : Does P c m μ L w (Instr.sliceAt t v lo hi none) (.d (.str (s.extract l hh))) m := by
  have hu := ht.kind
  rw [hk] at hu
  simp only [] at hu
  cases hv
  have hmb : (Instr.sliceBounds false s.size s.size lo hi none).run P w = .ok (l, hh, s.size) w := by
    rcases hhi with ⟨rfl, rfl⟩ | ⟨k2, rfl⟩ <;> rcases hlo with ⟨rfl, rfl⟩ | ⟨k1, rfl⟩ <;> simp [Instr.sliceBounds, Instr.sliceBound, asIntOf, h1, h2]
  refine .pure h (v := .string (s.extract l hh)) ?_ (.d (.str _))
  simp [Instr.sliceAt, run_underlying hu, Instr.slice, hmb]
end
end Go.Pm
namespace Go.Pm
open Go.RowKit
section
variable {P : Program} {c : Ctx} {m : Mem} {μ : Mu} {L : Loc} {ow : Nat → Option Nat} {w : World}

/-! ### struct values -/
def fillD (fs : List (Nat × Nat)) : List D → List (Nat × D) → Option (List D)
  | cs, [] => some cs
  | cs, (k, x) :: r => match fs[k]? with
    | some (o, s) => if x.sz = s ∧ o + s ≤ cs.length then fillD fs (cs.take o ++ x.cells ++ cs.drop (o + s)) r else none
    | none => none
/-- Parts with their values. -/
inductive RepP (μ : Mu) : List (Nat × D) → List (Nat × Value) → Prop
  | nil : RepP μ [] []
  | cons {k : Nat} {x : D} {v : Value} {xs : List (Nat × D)} {l : List (Nat × Value)} (h : RepD μ x v) (t : RepP μ xs l) : RepP μ ((k, x) :: xs) ((k, v) :: l)
theorem RepL.append {xs ys : List D} {l r : List Value} (h : RepL μ xs l) (k : RepL μ ys r) : RepL μ (xs ++ ys) (l ++ r) := by
  match h with
  | .nil => exact k
  | .cons h1 h2 t => exact .cons h1 h2 (RepL.append t k)
theorem fill_ok {fs : List (Nat × Nat)} : ∀ {ps : List (Nat × D)} {vs : List (Nat × Value)} {cs ds : List D} {zs : Array Value}, RepP μ ps vs → RepL μ cs zs.toList → fillD fs cs ps = some ds →
    ∃ r, Instr.fill (fs.toArray[·]?) zs vs = some r ∧ RepL μ ds r.toList
  | _, _, cs, ds, zs, .nil, hc, h => by
    simp only [fillD, Option.some.injEq] at h
    subst h
    exact ⟨zs, rfl, hc⟩
  | _, _, cs, ds, zs, .cons (k := k) (x := x) (v := v) hx t, hc, h => by
    unfold fillD at h
    split at h
    · rename_i o s hk
      split at h
      · rename_i hcond
        obtain ⟨h1, h2⟩ := hcond
        have hvs : v.cells.size = s := by rw [hx.sz]; exact h1
        have hzl : zs.size = cs.length := by rw [← hc.length]; simp
        have hp := put_cells v.cells.toList 0 zs o (by simp; omega)
        have hr : RepL μ (cs.take o ++ x.cells ++ cs.drop (o + s)) (v.cells.zipIdx.foldl (fun cs p => cs.setIfInBounds (o + p.2) p.1) zs).toList := by
          rw [← Array.foldl_toList, Array.toList_zipIdx, hp]
          simp only [Array.length_toList, Nat.add_zero, hvs]
          exact ((hc.take o).append hx.cells).append (hc.drop _)
        obtain ⟨r, h3, h4⟩ := fill_ok t hr h
        refine ⟨r, ?_, h4⟩
        have hk' : fs.toArray[k]? = some (o, s) := by simpa using hk
        have c1 : ¬ (v.cells.size ≠ s) := by simp [hvs]
        have c2 : ¬ (o + v.cells.size > zs.size) := by omega
        simp only [Instr.fill, hk', c1, c2, decide_false, Bool.or_self, Bool.false_eq_true, if_false]
        exact h3
      · cases h
    · cases h
theorem does_build (h : Inv c m μ L ow w) {t : TypeId} {i : TyI} (ht : TyOK P t i) {fs : List (Nat × Nat)} (hk : i.k = .struct fs) {ps : List (Nat × D)} {vs : Array (Nat × Value)} (hp : RepP μ ps vs.toList) {zs ds : List D} (hz : i.zero = .agg zs)
    (hd : fillD fs zs ps = some ds) : Does P c m μ L w (Instr.build t vs) (.d (.agg ds)) m := by
  have hu := ht.kind
  rw [hk] at hu
  obtain ⟨a, hu, hm, _⟩ := hu
  obtain ⟨f, z, hf, hfs, hfb, hfz, hzsz, hzr⟩ := ht.info
  have hzc := (hzr μ).cells
  rw [hz] at hzc
  obtain ⟨r, h1, h2⟩ := fill_ok hp hzc hd
  have hb : P.built t vs.toList = some r := by
    unfold Program.built
    rw [hf, hu]
    simp only []
    rw [hfz]
    simp only [hm]
    exact h1
  have hrun := run_build (P := P) w t vs r hb
  have := RepD.agg h2
  rw [Array.toArray_toList] at this
  exact .pure h hrun (.d this)

/-! ### bytes to strings -/
def bytesD : List D → Option (List Int)
  | [] => some []
  | .int .u8 n :: r => (bytesD r).map (n :: ·)
  | _ => none
def ofBytes (ns : List Int) : ByteArray := ns.foldl (fun r n => r.push (UInt8.ofNat n.toNat)) ByteArray.empty
theorem bytesD_ok : ∀ {xs : List D} {ns : List Int}, bytesD xs = some ns → xs = ns.map (D.int .u8)
  | [], ns, h => by simp only [bytesD, Option.some.injEq] at h; subst h; rfl
  | .int k n :: r, ns, h => by
    cases k <;> simp only [bytesD] at h <;> try (cases h; done)
    obtain ⟨ns', h3, h4⟩ := Option.map_eq_some_iff.1 h
    subst h4
    rw [bytesD_ok h3]
    rfl
  | .bool _ :: _, _, h => by simp [bytesD] at h
  | .str _ :: _, _, h => by simp [bytesD] at h
  | .nil :: _, _, h => by simp [bytesD] at h
  | .slice _ :: _, _, h => by simp [bytesD] at h
  | .agg _ :: _, _, h => by simp [bytesD] at h
  | .ptr _ :: _, _, h => by simp [bytesD] at h
  | .fn _ _ :: _, _, h => by simp [bytesD] at h
theorem row_bytes {b : Nat} : ∀ {ns : List Int} {o : Nat}, RepRow μ (ns.map (D.int .u8)) b o → ∀ (j : Nat) (u : Value), (ns.map (Value.int .u8))[j]? = some u → μ ⟨b, o + j, none⟩ = some u
  | [], o, _, j, u, hu => by simp at hu
  | n :: ns, o, h, j, u, hu => by
    cases h with
    | cons h t =>
      cases j with
      | zero =>
        simp at hu
        subst hu
        cases h with
        | one h h1 hm => cases h; exact hm
      | succ j =>
        have := row_bytes t j u (by simpa using hu)
        rwa [show (D.int .u8 n).sz = 1 from rfl, Nat.add_assoc, Nat.add_comm 1 j] at this
theorem bytes_run (h : Inv c m μ L ow w) {s t e : TypeId} {i j ie : TyI} (hs : TyOK P s i) (hk : i.k = .slice e) (he : TyOK P e ie) (hek : ie.k = .int .u8) (ht : TyOK P t j) (htk : j.k = .str) {v : Value} {xs : List D} (hv : RepD μ (.slice xs) v) {ns : List Int} (hb : bytesD xs = some ns) :
    (convert s t v).run P w = .ok (.string (ofBytes ns)) w := by
  have hu := hs.kind
  rw [hk] at hu
  simp only [] at hu
  have hue := he.kind
  rw [hek] at hue
  simp only [] at hue
  have hut := ht.kind
  rw [htk] at hut
  simp only [] at hut
  obtain ⟨A, cap, rfl, hle, hc, hr⟩ := hv.slice_inv
  have hx := bytesD_ok hb
  have hcv : (convert s t (.slice A xs.length cap)).run P w = (Conv.bytesToString (.slice A xs.length cap)).run P w := by
    simp [convert, run_underlying hu, run_underlying hut, run_underlying hue]
  rw [hcv]
  have hlen : xs.length = (ns.map (Value.int .u8)).length := by rw [hx]; simp
  cases A with
  | none =>
    rcases hr with rfl | ⟨b, o, sz, hA, _⟩
    · have : ns = [] := by cases ns with | nil => rfl | cons => simp at hx
      subst this
      simp [Conv.bytesToString, ofBytes]
    · cases hA
  | some a =>
    refine run_bytesToString w a _ cap ns ?_
    rw [hlen]
    refine run_loadCells_list (P := P) (w := w) a _ fun j u hu' => ?_
    rcases hr with rfl | ⟨b, o, sz, hA, hrow, _⟩
    · have : ns = [] := by cases ns with | nil => rfl | cons => simp at hx
      subst this
      simp at hu'
    · injection hA with hA
      subst hA
      rw [hx] at hrow
      rw [add_at]
      exact h.mu _ _ (row_bytes hrow j u hu')

/-! ### what is sealed -/
theorem RepC.append_inv {b : Nat} : ∀ {xs ys : List D} {o : Nat}, RepC μ (xs ++ ys) b o → RepC μ xs b o ∧ RepC μ ys b (o + xs.length)
  | [], ys, o, h => ⟨.nil _ _, h⟩
  | x :: xs, ys, o, .cons h h1 hm t => by
    obtain ⟨p, q⟩ := RepC.append_inv t
    exact ⟨.cons h h1 hm p, by rw [List.length_cons, Nat.add_comm xs.length 1, ← Nat.add_assoc]; exact q⟩
theorem RepC.row {b sz : Nat} : ∀ {xs : List D} {o : Nat}, (∀ x ∈ xs, x.sz = sz) → RepC μ (xs.flatMap D.cells) b o → RepRow μ xs b o
  | [], o, _, _ => .nil _ _
  | x :: xs, o, hs, h => by
    rw [List.flatMap_cons] at h
    obtain ⟨p, q⟩ := h.append_inv
    refine .cons ?_ (by rw [D.cells_length] at q; exact q.row fun y hy => hs y (List.mem_cons_of_mem _ hy))
    cases x with
    | agg cs => exact .agg p
    | _ => cases p with | cons h h1 hm t => exact .one h h1 hm
theorem seal_view (h : Inv c m μ L ow w) {v : Value} {id g sz n : Nat} (hv : RepT μ L m (.view id g sz 0 n) v) {xs : List D} (hm : m id = some (.froz g (xs.flatMap D.cells))) (hs : ∀ x ∈ xs, x.sz = sz) (hn : n = xs.length) : RepD μ (.slice xs) v := by
  subst hn
  cases hv with
  | view h0 hg hle hA =>
    rw [hm] at h0
    injection h0 with h0
    subst h0
    cases hg
    obtain ⟨hAA, _, hncap, hcm⟩ := hA rfl
    rcases Nat.eq_zero_or_pos xs.length with q | q
    · have : xs = [] := List.eq_nil_of_length_eq_zero q
      subst this
      exact .slice0 _ _ hcm
    · obtain rfl := hAA (by omega)
      exact RepD.slice_mk ((h.froz id g _ hm).row hs) hs hncap hcm
end
end Go.Pm
namespace Go.Pm
open Go.RowKit

def T.asSlice : T → Option (List D)
  | .d (.slice xs) => some xs
  | .d .nil => some []
  | .own _ xs => some xs
  | _ => none
def T.emp (y : T) : Bool := match y.asSlice with
  | some [] => true
  | _ => false
abbrev Upd := Option (Nat × Own)
def Mem.upd (m : Mem) : Upd → Mem
  | none => m
  | some (id, o) => setM m id o
def allT (ρ : Operand → Option T) : List Operand → Option (List D)
  | [] => some []
  | x :: xs => match (ρ x).bind T.toD, allT ρ xs with
    | some y, some ys => some (y :: ys)
    | _, _ => none
def isSome' {α : Type} : Option α → Bool
  | some _ => true
  | none => false
def seqFrom : Nat → List (Nat × Operand) → Bool
  | _, [] => true
  | k, p :: r => p.1 == k && seqFrom (k + 1) r
/-- A cut's bound. -/
def bnd (ρ : Operand → Option T) (dflt : Nat) : Option Operand → Option Int
  | none => some dflt
  | some x => match ρ x with
    | some (.d (.int _ n)) => some n
    | _ => none
def cut (ρ : Operand → Option T) (len : Nat) (lo hi mx : Option Operand) : Option (Nat × Nat × Nat) :=
  match bnd ρ 0 lo, bnd ρ len hi, bnd ρ len mx with
  | some l, some h, some k => if 0 ≤ l ∧ l ≤ h ∧ h ≤ k ∧ k ≤ len ∧ (isSome' mx → isSome' hi) then some (l.toNat, h.toNat, k.toNat) else none
  | _, _, _ => none
def cv2 (tab : Tab) (s i : TyI) (x : D) : Option D :=
  match s.k, i.k with
  | .slice e, .str => match tab e with
    | some ⟨.int .u8, _, _, _, _⟩ => match x with
      | .slice xs => (bytesD xs).map fun ns => .str (ofBytes ns)
      | .nil => some (.str (ofBytes []))
      | _ => none
    | _ => none
  | _, _ => cvD i x
def allP (ρ : Operand → Option T) : List (Nat × Operand) → Option (List (Nat × D))
  | [] => some []
  | (k, x) :: r => match (ρ x).bind T.toD, allP ρ r with
    | some y, some ys => some ((k, y) :: ys)
    | _, _ => none

/-- Whether a slice of no element is nil nobody knows. -/
def binT (op : BinOp) (x y : D) : Option T := match op, x, y with
  | .eql, .slice [], .nil => some .anyb
  | .neq, .slice [], .nil => some .anyb
  | op, x, y => (binD op x y).map .d
def isPtr : D → Bool
  | .ptr _ => true
  | _ => false
def evBuiltin (tab : Tab) (ρ : Operand → Option T) (m : Mem) (d : Nat) (b : Builtin) (args : List Operand) (tys : List Nat) : Option (Option T × Upd) :=
  match b, args, tys with
  | .len, [x], [t] => match tab t, ρ x with
    | some ⟨.str, _, _, _, _⟩, some (.d (.str s)) => some (some (.d (.int .i64 s.size)), none)
    | some ⟨.slice _, _, _, _, _⟩, some (.view _ _ _ _ n) => some (some (.d (.int .i64 n)), none)
    | some ⟨.slice _, _, _, _, _⟩, some y => (y.asSlice).map fun xs => (some (.d (.int .i64 xs.length)), none)
    | _, _ => none
  | .append, [s, x], [t, t'] => if t = t' then match tab t, ρ s, (ρ x).bind T.asSlice with
    | some ⟨.slice e, _, _, _, false⟩, some (.own id xs), some ys => match tab e, m id with
      | some ie, some (.tok e' sz n) =>
        if ys.isEmpty then some (some (.own id xs), none)
        else if e' = e ∧ sz = ie.size ∧ 0 < ie.size ∧ xs.length = n ∧ ys.all (fun y => y.sz == ie.size) ∧ (xs.length + ys.length) * ie.bytes ≤ 140737488355328 ∧ xs.length + ys.length ≤ 140737488355328 then
          some (some (.own id (xs ++ ys)), some (id, .tok e ie.size (n + ys.length))) else none
      | _, _ => none
    | some ⟨.slice e, _, _, _, false⟩, some (.d .nil), some ys => match tab e, m d with
      | some ie, none =>
        if ys.isEmpty then some (some (.d .nil), none)
        else if 0 < ie.size ∧ ys.all (fun y => y.sz == ie.size) ∧ ys.length * ie.bytes ≤ 140737488355328 ∧ ys.length ≤ 140737488355328 then
          some (some (.own d ys), some (d, .tok e ie.size ys.length)) else none
      | _, _ => none
    | _, _, _ => none else none
  | .max, [x, y], _ => match ρ x, ρ y with
    | some (.d (.int k a)), some (.d (.int k' b)) => some (some (.d (.int k (if b > a then b else a))), none)
    | _, _ => none
  | .min, [x, y], _ => match ρ x, ρ y with
    | some (.d (.int k a)), some (.d (.int k' b)) => some (some (.d (.int k (if b < a then b else a))), none)
    | _, _ => none
  | _, _, _ => none

/-- What an operation gives: a value (or none), and at most one change of what is owned. -/
def evOp (tab : Tab) (ρ : Operand → Option T) (m : Mem) (d : Nat) (op : Op) : Option (Option T × Upd) :=
  match op with
  | .move x | .assign x => (ρ x).map fun t => (some t, none)
  | .pick c a b => match ρ c with
    | some (.d (.bool t)) => (if t then ρ a else ρ b).map fun t => (some t, none)
    | _ => none
  | .alloc e => match tab e, m d with
    | some i, none => some (some (.obj d 0 0), some (d, .box 0 (i.zero.cells.map .d)))
    | _, _ => none
  | .box _ x => match (ρ x).bind T.cells, m d with
    | some cs, none => some (some (.obj d 0 0), some (d, .box 0 cs))
    | _, _ => none
  | .load t a => match tab t, ρ a with
    | some i, some (.d (.ptr cs)) => (ldD cs i).map fun x => (some (.d x), none)
    | some i, some (.obj id g off) => match m id with
      | some (.box g' cs) => if g' = g then (ldT (cs.drop off) i).map fun x => (some x, none) else none
      | _ => none
    | _, _ => none
  | .store t a x => match tab t, ρ a, (ρ x).bind T.cells with
    | some i, some (.obj id g off), some ys => match m id with
      | some (.box g' cs) => if g' = g ∧ ys.length = i.size ∧ off + i.size ≤ cs.length then some (none, some (id, .box g (splice cs off ys))) else none
      | _ => none
    | _, _, _ => none
  | .nilCheck x => match ρ x with
    | some (.obj id g off) => some (some (.obj id g off), none)
    | some (.d (.ptr cs)) => some (some (.d (.ptr cs)), none)
    | _ => none
  | .binOp op t x y _ => match tab t, (ρ x).bind T.toD, (ρ y).bind T.toD with
    | some i, some dx, some dy => if eqTy i dx then (binT op dx dy).map fun r => (some r, none) else none
    | _, _, _ => none
  | .unOp op _ x => match (ρ x).bind T.toD with
    | some dx => (unD op dx).map fun r => (some (.d r), none)
    | none => none
  | .convert s t x => match tab s, tab t, (ρ x).bind T.toD with
    | some si, some i, some dx => (cv2 tab si i dx).map fun r => (some (.d r), none)
    | _, _, _ => none
  | .fieldAddr s x f => match tab s, ρ x with
    | some ⟨.struct fs, _, _, _, _⟩, some (.obj id g off) => (fs[f]?).map fun p => (some (.obj id g (off + p.1)), none)
    | some ⟨.struct fs, _, _, _, _⟩, some (.d (.ptr cs)) => match fs[f]? with
      | some p => if p.1 ≤ cs.length then some (some (.d (.ptr ((cs.drop p.1).take p.2))), none) else none
      | none => none
    | _, _ => none
  | .indexAddr t x ix => match tab t, ρ x, ρ ix with
    | some ⟨.slice e, _, _, _, _⟩, some (.view id g sz off n), some (.d (.int _ j)) => match tab e with
      | some ie => if sz = ie.size ∧ 0 ≤ j ∧ j < n then some (some (.obj id g (off + j.toNat * ie.size)), none) else none
      | none => none
    | some ⟨.slice e, _, _, _, _⟩, some tx, some (.d (.int _ n)) => match tab e, tx.asSlice.bind fun xs => xs[n.toNat]? with
      | some ie, some y => if 0 ≤ n ∧ y.sz = ie.size then some (some (.d (.ptr y.cells)), none) else none
      | _, _ => none
    | _, _, _ => none
  | .extract x k => match ρ x with
    | some (.tup xs) => (xs[k]?).map fun y => (some y, none)
    | _ => none
  | .makeFunc fn first caps => match fn with
    | .func f => if first.size = 0 then (allT ρ caps.toList).bind fun cs => if cs.all isPtr then some (some (.d (.fn f cs)), none) else none else none
    | _ => none
  | .buildSlice t n parts => match tab t with
    | some ⟨.slice e, _, _, _, false⟩ => match tab e, allT ρ (parts.toList.map (·.2)), m d with
      | some ie, some xs, none => if n = xs.length ∧ seqFrom 0 parts.toList ∧ 0 < ie.size ∧ xs.all (fun y => y.sz == ie.size) ∧ xs.length * ie.size ≤ 16777216 then some (some (.own d xs), some (d, .tok e ie.size xs.length)) else none
      | _, _, _ => none
    | _ => none
  | .index t x ix => match tab t, ρ x, ρ ix with
    | some ⟨.str, _, _, _, _⟩, some (.d (.str s)), some (.d (.int _ n)) => if h : n.toNat < s.size then if 0 ≤ n then some (some (.d (.int .u8 (s[n.toNat].toNat : Int))), none) else none else none
    | _, _, _ => none
  | .slice t x lo hi mx => match tab t, ρ x with
    | some ⟨.str, _, _, _, _⟩, some (.d (.str s)) => match mx, cut ρ s.size lo hi none with
      | none, some (l, h, _) => some (some (.d (.str (s.extract l h))), none)
      | _, _ => none
    | some ⟨.slice e, _, _, _, _⟩, some y => match tab e, y.asSlice with
      | some ie, some xs => match cut ρ xs.length lo hi mx with
        | some (l, h, _) => if xs.all (fun y => y.sz == ie.size) then some (some (.d (.slice ((xs.take h).drop l))), none) else none
        | none => none
      | _, _ => none
    | _, _ => none
  | .build t parts => match tab t, allP ρ parts.toList with
    | some ⟨.struct fs, _, _, .agg zs, _⟩, some ps => (fillD fs zs ps).map fun ds => (some (.d (.agg ds)), none)
    | _, _ => none
  | .call cl => match cl.callee with
    | .builtin b => evBuiltin tab ρ m d b cl.args.toList cl.argTypes.toList
    | _ => none
  | _ => none

/-- What is appended, where slices are written later. -/
def srcT (m : Mem) (sz : Nat) (y : T) : Option (Nat × List T) :=
  match y with
  | .view id g s off n => match m id with
    | some (.box g' cs) => if g' = g ∧ s = sz ∧ off + n * sz ≤ cs.length then some (n, (cs.drop off).take (n * sz)) else none
    | _ => none
  | y => match y.asSlice with
    | some ys => if ys.all (fun y => y.sz == sz) then some (ys.length, (ys.flatMap D.cells).map .d) else none
    | none => none
/-- What only a region with a fixed order may hold. -/
def evX (tab : Tab) (ρ : Operand → Option T) (m : Mem) (d : Nat) (op : Op) : Option (T × Upd) :=
  match op with
  | .makeSlice t l c => match tab t, ρ l, ρ c, m d with
    | some ⟨.slice e, _, _, _, _⟩, some (.d (.int _ l)), some (.d (.int _ c)), none => match tab e with
      | some ie => if 0 < ie.size ∧ 0 ≤ l ∧ l ≤ c ∧ c * ie.bytes ≤ 140737488355328 ∧ c ≤ 140737488355328 then some (.view d 0 ie.size 0 l.toNat, some (d, .box 0 (zcells l.toNat ie.zero))) else none
      | none => none
    | _, _, _, _ => none
  | .buildSlice t n parts => match tab t with
    | some ⟨.slice e, _, _, _, true⟩ => match tab e, allT ρ (parts.toList.map (·.2)), m d with
      | some ie, some xs, none => if n = xs.length ∧ seqFrom 0 parts.toList ∧ 0 < ie.size ∧ xs.all (fun y => y.sz == ie.size) ∧ xs.length * ie.size ≤ 16777216 then some (.view d 0 ie.size 0 xs.length, some (d, .box 0 ((xs.flatMap D.cells).map .d))) else none
      | _, _, _ => none
    | _ => none
  | .call cl => match cl.callee, cl.args.toList, cl.argTypes.toList with
    | .builtin .append, [s, x], [t, t'] => if t = t' then match tab t, ρ s, ρ x with
      | some ⟨.slice e, _, _, _, true⟩, some ts, some tx => match tab e with
        | some ie => match srcT m ie.size tx with
          | some (k, us) => match ts with
            | .d .nil => match m d with
              | none => if k = 0 ∧ tx.emp = true then some (.d .nil, none)
                else if 0 < k ∧ k * ie.bytes ≤ 140737488355328 ∧ k ≤ 140737488355328 then some (.view d 0 ie.size 0 k, some (d, .box 0 us)) else none
              | _ => none
            | .view id g sz off n => match m id with
              | some (.box g' cs) =>
                if g' = g ∧ tx.emp = true then some (.view id g sz off n, none)
                else if g' = g ∧ sz = ie.size ∧ off = 0 ∧ n * ie.size = cs.length ∧ 0 < ie.size ∧ 0 < k ∧ (n + k) * ie.bytes ≤ 140737488355328 ∧ n + k ≤ 140737488355328 then some (.view id (g + 1) ie.size 0 (n + k), some (id, .box (g + 1) (cs ++ us))) else none
              | _ => none
            | _ => none
          | none => none
        | none => none
      | _, _, _ => none else none
    | _, _, _ => none
  | _ => none

section
variable {P : Program} {c : Ctx} {m : Mem} {μ : Mu} {L : Loc} {ow : Nat → Option Nat} {w : World}
/-- The operation runs; what it gives is represented. -/
def Runs (P : Program) (c : Ctx) (m : Mem) (μ : Mu) (L : Loc) (w : World) (s : Sem Next) (r : Option T) (m' : Mem) : Prop :=
  ∃ nx w' μ' L' ow', s.run P w = .ok nx w' ∧ Inv c m' μ' L' ow' w' ∧ Mu.le μ μ' ∧ Stays L m L' m' ∧
    match r with
    | some x => ∃ v, nx = .value v ∧ RepT μ' L' m' x v
    | none => nx = .skip
theorem Runs.of {s : Sem Value} {x : T} {m' : Mem} (h : Does P c m μ L w s x m') : Runs P c m μ L w (do pure (.value (← s)) : Sem Next) (some x) m' := by
  obtain ⟨v, w', μ', L', ow', hr, hi, hle, hst, hx⟩ := h
  exact ⟨.value v, w', μ', L', ow', by simp [hr], hi, hle, hst, v, rfl, hx⟩
theorem Runs.pure (h : Inv c m μ L ow w) {s : Sem Next} {v : Value} {x : T} (hr : s.run P w = .ok (.value v) w) (hx : RepT μ L m x v) : Runs P c m μ L w s (some x) m :=
  ⟨.value v, w, μ, L, ow, hr, h, Mu.le_refl _, Stays.refl _ _, v, rfl, hx⟩
theorem asSlice_rep {x : T} {v : Value} (h : RepT μ L m x v) {xs : List D} (hx : x.asSlice = some xs) : RepD μ (.slice xs) v := by
  unfold T.asSlice at hx
  split at hx <;> simp at hx <;> subst hx
  · cases h; assumption
  · cases h with
    | d h => exact h.of_nil
  · exact own_slice h
theorem allT_rep {ρT : Operand → Option T} {ρ : Operand → Value} (hρ : ∀ x t, ρT x = some t → RepT μ L m t (ρ x)) : ∀ {l : List Operand} {xs : List D}, allT ρT l = some xs → RepV μ xs (l.map ρ)
  | [], xs, h => by simp [allT] at h; subst h; exact .nil
  | x :: l, xs, h => by
    unfold allT at h
    split at h
    · rename_i y ys hy hys
      injection h with h
      subst h
      rw [Option.bind_eq_some_iff] at hy
      obtain ⟨t, h1, h2⟩ := hy
      exact .cons (toD_rep (hρ x t h1) h2) (allT_rep hρ hys)
    · cases h
theorem seqFrom_zip {ρ : Operand → Value} : ∀ {l : List (Nat × Operand)} {k : Nat}, seqFrom k l = true → l.map (fun p => (p.1, ρ p.2)) = ((l.map (fun p => ρ p.2)).zipIdx k).map fun p => (p.2, p.1)
  | [], k, _ => rfl
  | p :: l, k, h => by
    simp only [seqFrom, Bool.and_eq_true, beq_iff_eq] at h
    simp only [List.map_cons, List.zipIdx_cons]
    rw [seqFrom_zip h.2, h.1]
end
end Go.Pm
namespace Go.Pm
open Go.RowKit
section
variable {P : Program} {c : Ctx} {m : Mem} {μ : Mu} {L : Loc} {ow : Nat → Option Nat} {w : World} {tab : Tab} {ρT : Operand → Option T} {ρ : Operand → Value}
theorem map_eq {α β : Type} {o : Option α} {f : α → β} {b : β} (h : o.map f = some b) : ∃ a, o = some a ∧ f a = b := Option.map_eq_some_iff.1 h
theorem bind_eq {α β : Type} {o : Option α} {f : α → Option β} {b : β} (h : o.bind f = some b) : ∃ a, o = some a ∧ f a = some b := Option.bind_eq_some_iff.1 h
theorem Stays.trans {L L1 L2 : Loc} {m m1 m2 : Mem} (h : Stays L m L1 m1) (k : Stays L1 m1 L2 m2) : Stays L m L2 m2 := by
  refine ⟨fun id o g hi hg => ?_, fun id e sz n hi => ?_⟩
  · obtain ⟨o1, g1, h1, h2, h3, h4⟩ := h.gen id o g hi hg
    obtain ⟨o2, g2, k1, k2, k3, k4⟩ := k.gen id o1 g1 h1 h2
    refine ⟨o2, g2, k1, k2, by omega, fun q => ?_⟩
    have q1 : g1 = g := by omega
    have q2 : g2 = g1 := by omega
    exact ⟨(k4 q2).1.trans (h4 q1).1, (k4 q2).2.trans (h4 q1).2⟩
  · obtain ⟨n1, h1, l1, e1⟩ := h.tok id e sz n hi
    obtain ⟨n2, h2, l2, e2⟩ := k.tok id e sz n1 h1
    exact ⟨n2, h2, by omega, fun q => (e2 (by omega)).trans (e1 (by omega))⟩
theorem nil_of_own {d e sz : Nat} (h : Inv c m μ L ow w) (hd : m d = none) (hz : 0 < sz) {v : Value} (hv : RepD μ .nil v) :
    ∃ L', Inv c (setM m d (.tok e sz 0)) μ L' ow w ∧ Stays L m L' (setM m d (.tok e sz 0)) ∧ RepT μ L' (setM m d (.tok e sz 0)) (.own d []) v := by
  obtain ⟨hi, hs⟩ := h.tokNil (e := e) hd hz
  cases hv
  exact ⟨_, hi, hs, .own (.slice0 _ _ (Nat.zero_le _)) (show setM m d (.tok e sz 0) d = some (.tok e sz 0) by simp [setM]) (Nat.le_refl _) (fun _ => by simp [Loc.setHdr]) (by simp)⟩

theorem run_binT {t : TypeId} {i : TyI} (ht : TyOK P t i) {op : BinOp} {x y : Operand} {vx vy : Value} {dx dy : D} {r : T} (hx : RepD μ dx vx) (hy : RepD μ dy vy) (hb : binT op dx dy = some r) (he : eqTy i dx = true) : ∃ v, (do eqGuard op t x y vx vy; binOp op t vx vy : Sem Value).run P w = .ok v w ∧ RepT μ L m r v := by
  have key : ∀ (o2 : BinOp), (o2 = .eql ∨ o2 = .neq) → dx = .slice [] → dy = .nil → ∃ v, (do eqGuard o2 t x y vx vy; binOp o2 t vx vy : Sem Value).run P w = .ok v w ∧ RepT μ L m .anyb v := by
    rintro o2 ho rfl rfl
    have hk := ht.kind
    have hkk : ∃ e, i.k = .slice e := by
      simp only [eqTy] at he
      split at he
      · exact ⟨_, by assumption⟩
      · cases he
    obtain ⟨e, hkk⟩ := hkk
    rw [hkk] at hk
    simp only [] at hk
    cases hy
    obtain ⟨A, cap, rfl, _, _, _⟩ := hx.slice_inv
    cases A with
    | none =>
      have hr := run_equal_none hk cap w
      rcases ho with rfl | rfl
      · exact ⟨_, run_eql_of hr rfl x y rfl, .anyb _⟩
      · exact ⟨_, run_neq_of hr rfl x y rfl, .anyb _⟩
    | some a =>
      have hr := run_equal_some hk a 0 cap w
      rcases ho with rfl | rfl
      · exact ⟨_, run_eql_of hr rfl x y rfl, .anyb _⟩
      · exact ⟨_, run_neq_of hr rfl x y rfl, .anyb _⟩
  unfold binT at hb
  split at hb
  · injection hb with hb; subst hb; exact key .eql (.inl rfl) rfl rfl
  · injection hb with hb; subst hb; exact key .neq (.inr rfl) rfl rfl
  · obtain ⟨d, h1, h2⟩ := map_eq hb
    subst h2
    obtain ⟨v, h3, h4⟩ := run_binOp (P := P) (w := w) ht (x := x) (y := y) hx hy h1 he
    exact ⟨v, h3, .d h4⟩
theorem run_cv2 (hT : TabOK P tab) (h : Inv c m μ L ow w) {s t : TypeId} {is it : TyI} (hs : TyOK P s is) (ht : TyOK P t it) {vx : Value} {dx r : D} (hx : RepD μ dx vx) (hb : cv2 tab is it dx = some r) : ∃ v, (convert s t vx).run P w = .ok v w ∧ RepD μ r v := by
  unfold cv2 at hb
  split at hb
  · rename_i e hk hk2
    split at hb
    · rename_i sz by_ z vw he
      have key : ∀ xs ns, RepD μ (.slice xs) vx → bytesD xs = some ns → ∃ v, (convert s t vx).run P w = .ok v w ∧ RepD μ (.str (ofBytes ns)) v := by
        intro xs ns h1 h2
        exact ⟨_, bytes_run h hs hk (hT _ _ he) rfl ht hk2 h1 h2, .str _⟩
      split at hb
      · rename_i xs
        obtain ⟨ns, h1, h2⟩ := map_eq hb
        subst h2
        exact key xs ns hx h1
      · injection hb with hb
        subst hb
        exact key [] [] hx.of_nil rfl
      · cases hb
    · cases hb
  · exact run_cv hs ht hx hb w
theorem evBuiltin_ok (hT : TabOK P tab) (h : Inv c m μ L ow w) (hρ : ∀ x t, ρT x = some t → RepT μ L m t (ρ x)) {b : Builtin} {args : Array Operand} {tys : Array Nat} {ty : Nat} {d : Nat} {r : Option T} {u : Upd}
    (he : evBuiltin tab ρT m d b args.toList tys.toList = some (r, u)) (cs : Array Bool) : Runs P c m μ L w (builtin b tys ty cs (args.map ρ)) r (m.upd u) := by
  obtain ⟨args⟩ := args
  obtain ⟨tys⟩ := tys
  simp only [] at he
  have em : Array.map ρ ⟨args⟩ = ⟨args.map ρ⟩ := by simp
  rw [em]
  clear em
  unfold evBuiltin at he
  split at he
  · -- len
    rename_i x t
    split at he
    · rename_i sz by_ z vw s ht hx
      cases he
      have hx' := hρ x _ hx
      generalize hv : ρ x = v at hx'
      have hk := (hT _ _ ht).kind
      simp only [] at hk
      cases hx' with
      | d hx' =>
        cases hx'
        exact .of (.pure h (v := .int .i64 s.size) (by simp [Builtin.len_, hv, run_underlying hk, goInt]) (.d (.int _ _)))
    · rename_i e sz by_ z vw id g sz' off n ht hx
      cases he
      have hx' := hρ x _ hx
      generalize hv : ρ x = v at hx'
      have hk := (hT _ _ ht).kind
      simp only [] at hk
      cases hx' with
      | view h1 h2 h3 h4 => exact .of (.pure h (v := .int .i64 n) (by simp [Builtin.len_, hv, run_underlying hk, goInt]) (.d (.int _ _)))
    · rename_i e sz by_ z vw y hno ht hx
      obtain ⟨xs, h1, h2⟩ := map_eq he
      cases h2
      have hx' := asSlice_rep (hρ x _ hx) h1
      generalize hv : ρ x = v at hx'
      have hk := (hT _ _ ht).kind
      simp only [] at hk
      obtain ⟨A, cap, rfl, _⟩ := hx'.slice_inv
      exact .of (.pure h (v := .int .i64 xs.length) (by simp [Builtin.len_, hv, run_underlying hk, goInt]) (.d (.int _ _)))
    · cases he
  · -- append
    rename_i s x t t'
    split at he
    · rename_i htt
      subst htt
      split at he
      · rename_i e sz by_ z id xs ys ht hs hy
        split at he
        · rename_i ie e' sz' n hie hm
          obtain ⟨ty', h3, h4⟩ := bind_eq hy
          have hyr := asSlice_rep (hρ x _ h3) h4
          split at he
          · rename_i hemp
            cases he
            have : ys = [] := by simpa using hemp
            subst this
            exact .of (does_append_none (P := P) h (hT _ _ ht) rfl (hT _ _ hie) (ty := ty) (hρ s _ hs) hyr)
          · rename_i hemp
            split at he
            · rename_i hc
              cases he
              obtain ⟨rfl, rfl, hz, hn, hall, hb, hmax⟩ := hc
              exact .of (does_append (P := P) h (hT _ _ ht) rfl (hT _ _ hie) hz (ty := ty) hm (hρ s _ hs) hn hyr (fun y hy => by simpa using (List.all_eq_true.1 hall) y hy) (by simpa using hemp) hb (by simp only [maxLen]; omega))
            · cases he
        · cases he
      · rename_i e sz by_ z ys ht hs hy
        split at he
        · rename_i ie hie hd
          obtain ⟨ty', h3, h4⟩ := bind_eq hy
          have hyr := asSlice_rep (hρ x _ h3) h4
          have hs' := hρ s _ hs
          split at he
          · rename_i hemp
            cases he
            have : ys = [] := by simpa using hemp
            subst this
            have hk := (hT _ _ ht).kind
            simp only [] at hk
            obtain ⟨f, zz, hf, hfs, hfb, hfz, hzsz, hzr⟩ := (hT _ _ hie).info
            cases hs' with
            | d hs' =>
              generalize hvs : ρ s = vs at hs'
              generalize hvx : ρ x = vx at hyr
              cases hs'
              obtain ⟨B, cap', rfl, _, _, _⟩ := hyr.slice_inv
              refine .of (.pure h (v := .slice none 0 0) ?_ (.d .nil))
              cases B <;> simp [hvs, hvx, Builtin.append_, run_underlying hk, sizeOf, typeInfo, hf, Builtin.lenOf, Builtin.firstCells, loadCells, loadCellsFrom, storeCells]
          · rename_i hemp
            split at he
            · rename_i hc
              cases he
              obtain ⟨hz, hall, hb, hmax⟩ := hc
              cases hs' with
              | d hs' =>
                obtain ⟨L', hi, hst, hown⟩ := nil_of_own (e := e) h hd hz hs'
                have := does_append (P := P) hi (hT _ _ ht) rfl (hT _ _ hie) hz (ty := ty) (id := d) (n := 0) (xs := []) (show setM m d (.tok e ie.size 0) d = _ by simp [setM]) hown rfl hyr (fun y hy => by simpa using (List.all_eq_true.1 hall) y hy) (by simpa using hemp) (by simpa using hb) (by simp only [maxLen, List.length_nil]; omega)
                obtain ⟨v, w', μ', L2, ow', h5, h6, h7, h8, h9⟩ := this
                have e2 : setM (setM m d (.tok e ie.size 0)) d (.tok e ie.size (0 + ys.length)) = setM m d (.tok e ie.size ys.length) := by funext j; unfold setM; split <;> simp
                rw [e2] at h6 h8 h9
                exact .of ⟨v, w', μ', L2, ow', h5, h6, h7, hst.trans h8, h9⟩
            · cases he
        · cases he
      · cases he
    · cases he
  · -- max
    rename_i x y
    split at he
    · rename_i k a k' b hx hy
      cases he
      have hx' := hρ x _ hx
      have hy' := hρ y _ hy
      generalize hv : ρ x = v at hx'
      generalize hv2 : ρ y = v2 at hy'
      cases hx' with
      | d hx' =>
        cases hy' with
        | d hy' =>
          cases hx'
          cases hy'
          exact .of (.pure h (v := .int k (if b > a then b else a)) (by simp [Builtin.max_, Builtin.max2, hv, hv2]) (.d (.int _ _)))
    · cases he
  · -- min
    rename_i x y
    split at he
    · rename_i k a k' b hx hy
      cases he
      have hx' := hρ x _ hx
      have hy' := hρ y _ hy
      generalize hv : ρ x = v at hx'
      generalize hv2 : ρ y = v2 at hy'
      cases hx' with
      | d hx' =>
        cases hy' with
        | d hy' =>
          cases hx'
          cases hy'
          exact .of (.pure h (v := .int k (if b < a then b else a)) (by simp [Builtin.min_, Builtin.min2, hv, hv2]) (.d (.int _ _)))
    · cases he
  · cases he

theorem allP_rep (hρ : ∀ x t, ρT x = some t → RepT μ L m t (ρ x)) : ∀ {l : List (Nat × Operand)} {ps : List (Nat × D)}, allP ρT l = some ps → RepP μ ps (l.map fun p => (p.1, ρ p.2))
  | [], ps, h => by simp only [allP, Option.some.injEq] at h; subst h; exact .nil
  | (k, x) :: l, ps, h => by
    unfold allP at h
    split at h
    · rename_i y ys hy hys
      injection h with h
      subst h
      obtain ⟨t, h1, h2⟩ := bind_eq hy
      exact .cons (toD_rep (hρ x t h1) h2) (allP_rep hρ hys)
    · cases h
theorem bnd_ok (hρ : ∀ x t, ρT x = some t → RepT μ L m t (ρ x)) {dflt : Nat} {o : Option Operand} {n : Int} (h : bnd ρT dflt o = some n) (h0 : 0 ≤ n) : (o.map ρ = none ∧ n.toNat = dflt) ∨ ∃ k, o.map ρ = some (.int k (n.toNat : Nat)) := by
  cases o with
  | none => simp only [bnd, Option.some.injEq] at h; subst h; exact .inl ⟨rfl, by simp⟩
  | some x =>
    simp only [bnd] at h
    split at h
    · rename_i k n' hx
      injection h with h
      subst h
      have hx' := hρ x _ hx
      cases hx' with
      | d hx' =>
        refine .inr ⟨k, ?_⟩
        generalize hv : ρ x = v at hx'
        cases hx'
        simp only [Option.map_some, hv]
        rw [Int.toNat_of_nonneg h0]
    · cases h
theorem cut_ok (hρ : ∀ x t, ρT x = some t → RepT μ L m t (ρ x)) {len l hh kk : Nat} {lo hi mx : Option Operand} (h : cut ρT len lo hi mx = some (l, hh, kk)) :
    ((lo.map ρ = none ∧ l = 0) ∨ ∃ k, lo.map ρ = some (.int k l)) ∧ ((hi.map ρ = none ∧ hh = len ∧ mx.map ρ = none) ∨ ∃ k, hi.map ρ = some (.int k hh)) ∧ (mx.map ρ = none ∨ (∃ k, mx.map ρ = some (.int k kk)) ∧ hh ≤ kk ∧ kk ≤ len) ∧ l ≤ hh ∧ hh ≤ len := by
  unfold cut at h
  split at h
  · rename_i a b d ha hb hd
    split at h
    · rename_i hc
      obtain ⟨h1, h2, h3, h4, h5⟩ := hc
      simp only [Option.some.injEq, Prod.mk.injEq] at h
      obtain ⟨rfl, rfl, rfl⟩ := h
      refine ⟨bnd_ok hρ ha h1, ?_, ?_, by omega, by omega⟩
      · rcases bnd_ok hρ hb (by omega) with ⟨q1, q2⟩ | q
        · refine .inl ⟨q1, q2, ?_⟩
          cases mx with
          | none => rfl
          | some x =>
            cases hi with
            | none => simp [isSome'] at h5
            | some y => cases q1
        · exact .inr q
      · rcases bnd_ok hρ hd (by omega) with ⟨q1, q2⟩ | q
        · exact .inl q1
        · exact .inr ⟨q, by omega, by omega⟩
    · cases h
  · cases h
theorem evOp_ok (hT : TabOK P tab) (h : Inv c m μ L ow w) (hρ : ∀ x t, ρT x = some t → RepT μ L m t (ρ x)) {o : Oper} {d : Nat} {r : Option T} {u : Upd} (he : evOp tab ρT m d o.op = some (r, u)) :
    Runs P c m μ L w (execOp ρ o) r (m.upd u) := by
  obtain ⟨dst, op, ty, pos, after, guard⟩ := o
  cases op <;> simp only [evOp] at he <;> try (cases he; done)
  case move x =>
    obtain ⟨t, h1, h2⟩ := map_eq he
    cases h2
    exact .pure h (by simp [execOp]) (hρ x t h1)
  case assign x =>
    obtain ⟨t, h1, h2⟩ := map_eq he
    cases h2
    exact .pure h (by simp [execOp]) (hρ x t h1)
  case pick cc a b =>
    split at he
    · rename_i t hc
      obtain ⟨x, h1, h2⟩ := map_eq he
      cases h2
      have hb := hρ cc _ hc
      cases hb with
      | d hb =>
        generalize hcv : ρ cc = cv at hb
        cases hb
        cases t
        · exact .pure h (v := ρ b) (by simp [execOp, hcv, asBool]) (hρ b x (by simpa using h1))
        · exact .pure h (v := ρ a) (by simp [execOp, hcv, asBool]) (hρ a x (by simpa using h1))
    · cases he
  case alloc e =>
    split at he
    · rename_i i hi hd
      cases he
      exact .of (does_alloc h (hT _ _ hi) hd)
    · cases he
  case box e x =>
    split at he
    · rename_i cs hx hd
      cases he
      obtain ⟨t, h1, h2⟩ := bind_eq hx
      exact .of (does_box h (hρ x t h1) h2 hd)
    · cases he
  case load t a =>
    split at he
    · rename_i i cs ht ha
      obtain ⟨x, h1, h2⟩ := map_eq he
      cases h2
      have ha' := hρ a _ ha
      cases ha' with
      | d ha' => exact .of (does_loadP h (hT _ _ ht) ha' h1)
    · rename_i i id g off ht ha
      split at he
      · rename_i g' cs hm
        split at he
        · rename_i hg
          subst hg
          obtain ⟨x, h1, h2⟩ := map_eq he
          cases h2
          exact .of (does_loadO h (hT _ _ ht) (hρ a _ ha) hm h1)
        · cases he
      · cases he
    · cases he
  case store t a x =>
    split at he
    · rename_i i id g off ys ht ha hx
      split at he
      · rename_i g' cs hm
        split at he
        · rename_i hc
          cases he
          obtain ⟨rfl, hc1, hc2⟩ := hc
          obtain ⟨tx, h1, h2⟩ := bind_eq hx
          obtain ⟨w', hr, hi, hst⟩ := does_store (P := P) h (hT _ _ ht) (hρ a _ ha) hm (hρ x tx h1) h2 hc1 hc2
          exact ⟨.skip, w', μ, L, ow, by simp [execOp, hr], hi, Mu.le_refl _, hst, rfl⟩
        · cases he
      · cases he
    · cases he
  case nilCheck x =>
    split at he
    · rename_i id off hx
      cases he
      have hx' := hρ x _ hx
      generalize hv : ρ x = v at hx'
      have hp : ∃ A, v = .pointer (some A) := by cases hx'; exact ⟨_, rfl⟩
      obtain ⟨A, rfl⟩ := hp
      exact .pure h (v := .pointer (some A)) (by simp [execOp, hv]) hx'
    · rename_i cs hx
      cases he
      have hx' := hρ x _ hx
      generalize hv : ρ x = v at hx'
      have hp : ∃ A, v = .pointer (some A) := by
        cases hx' with
        | d hx' => cases hx'; exact ⟨_, rfl⟩
      obtain ⟨A, rfl⟩ := hp
      exact .pure h (v := .pointer (some A)) (by simp [execOp, hv]) hx'
    · cases he
  case binOp op t x y t' =>
    split at he
    · rename_i i dx dy ht hx hy
      split at he
      · rename_i heq
        obtain ⟨q, h1, h2⟩ := map_eq he
        cases h2
        obtain ⟨tx, h3, h4⟩ := bind_eq hx
        obtain ⟨ty', h5, h6⟩ := bind_eq hy
        obtain ⟨v, hr, hv⟩ := run_binT (P := P) (w := w) (L := L) (m := m) (hT _ _ ht) (x := x) (y := y) (toD_rep (hρ x _ h3) h4) (toD_rep (hρ y _ h5) h6) h1 heq
        exact .of (.pure h hr hv)
      · cases he
    · cases he
  case unOp op t x =>
    split at he
    · rename_i dx hx
      obtain ⟨q, h1, h2⟩ := map_eq he
      cases h2
      obtain ⟨tx, h3, h4⟩ := bind_eq hx
      obtain ⟨v, hr, hv⟩ := run_unOp (P := P) (toD_rep (hρ x _ h3) h4) h1 w
      exact .of (.pure h hr (.d hv))
    · cases he
  case convert s t x =>
    split at he
    · rename_i si i dx hs ht hx
      obtain ⟨q, h1, h2⟩ := map_eq he
      cases h2
      obtain ⟨tx, h3, h4⟩ := bind_eq hx
      obtain ⟨v, hr, hv⟩ := run_cv2 (P := P) hT h (hT _ _ hs) (hT _ _ ht) (toD_rep (hρ x _ h3) h4) h1
      exact .of (.pure h hr (.d hv))
    · cases he
  case fieldAddr s x f =>
    split at he
    · rename_i fs sz by_ z id off hs hx
      obtain ⟨p, h1, h2⟩ := map_eq he
      cases h2
      exact .of (does_fieldO h (hT _ _ hs) rfl (o := p.1) (s := p.2) h1 (hρ x _ hx))
    · rename_i fs sz by_ z cs hs hx
      split at he
      · rename_i p hp
        split at he
        · rename_i hle
          cases he
          have hx' := hρ x _ hx
          cases hx' with
          | d hx' => exact .of (does_fieldP h (hT _ _ hs) rfl (o := p.1) (s := p.2) hp hx' hle)
        · cases he
      · cases he
    · cases he
  case indexAddr t x ix =>
    split at he
    · rename_i e sz by_ z vw id g sz' off n k j ht hx hix
      split at he
      · rename_i ie hie
        split at he
        · rename_i hc
          cases he
          obtain ⟨rfl, h0, hlt⟩ := hc
          have hi' := hρ ix _ hix
          cases hi' with
          | d hi' => exact .of (does_indexV h (hT _ _ ht) rfl (hT _ _ hie) (hρ x _ hx) hi' h0 hlt)
        · cases he
      · cases he
    · rename_i e sz by_ z vw tx k n hnv ht hx hix
      split at he
      · rename_i ie y hie hy
        split at he
        · rename_i hc
          cases he
          obtain ⟨xs, h3, h4⟩ := bind_eq hy
          have hi' := hρ ix _ hix
          cases hi' with
          | d hi' => exact .of (does_indexAddr h (hT _ _ ht) rfl (hT _ _ hie) (asSlice_rep (hρ x _ hx) h3) hi' hc.1 h4 hc.2)
        · cases he
      · cases he
    · cases he
  case extract x k =>
    split at he
    · rename_i xs hx
      obtain ⟨y, h1, h2⟩ := map_eq he
      cases h2
      have hx' := hρ x _ hx
      generalize hv : ρ x = v at hx'
      cases hx' with
      | @tup _ vs hl hg =>
        have hlt : k < vs.length := by rw [hl]; exact (List.getElem?_eq_some_iff.1 h1).1
        have h4 := hg k y h1
        have h3 : vs[k]? = some (vs.getD k undef) := by simp [List.getD, hlt]
        exact .of (.pure h (v := vs.getD k undef) (by generalize vs.getD k undef = q at h3; simp only [Instr.extract, hv]; simp [h3]) h4)
    · cases he
  case slice t x lo hi mx =>
    split at he
    · rename_i sz by_ z vw s ht hx
      split at he
      · rename_i l hh kk hcut
        cases he
        obtain ⟨h1, h2, h3, h4, h5⟩ := cut_ok hρ hcut
        have hx' := hρ x _ hx
        cases hx' with
        | d hx' =>
          have := does_cutS (P := P) h (hT _ _ ht) rfl hx' (lo := lo.map ρ) (hi := hi.map ρ) h1 (by rcases h2 with ⟨q1, q2, _⟩ | q; exact .inl ⟨q1, q2⟩; exact .inr q) h4 (by omega)
          exact .of this
      · cases he
    · rename_i e sz by_ z vw y ht hx
      split at he
      · rename_i ie xs hie hxs
        split at he
        · rename_i l hh kk hcut
          split at he
          · rename_i hall
            cases he
            obtain ⟨h1, h2, h3, h4, h5⟩ := cut_ok hρ hcut
            exact .of (does_cutD (P := P) h (hT _ _ ht) rfl (hT _ _ hie) (asSlice_rep (hρ x _ hx) hxs) (fun y hy => by simpa using (List.all_eq_true.1 hall) y hy) (lo := lo.map ρ) (hi := hi.map ρ) (mx := mx.map ρ) h1 h2 h3 h4 h5)
          · cases he
        · cases he
      · cases he
    · cases he
  case build t parts =>
    split at he
    · rename_i fs sz by_ zs vw ps ht hps
      obtain ⟨ds, h1, h2⟩ := map_eq he
      cases h2
      have hp := allP_rep hρ hps
      have := does_build (P := P) h (hT _ _ ht) rfl (vs := parts.map fun p => (p.1, ρ p.2)) (by rw [Array.toList_map]; exact hp) rfl h1
      exact .of this
    · cases he
  case makeFunc fn first caps =>
    split at he
    · rename_i f
      split at he
      · rename_i hf0
        obtain ⟨cs, h1, h2⟩ := bind_eq he
        split at h2
        · rename_i hall
          cases h2
          have hrv := allT_rep hρ h1
          have hl : RepL μ cs (caps.toList.map ρ) := by
            rw [List.all_eq_true] at hall
            clear h1 he
            generalize caps.toList.map ρ = l at hrv
            induction hrv with
            | nil => exact .nil
            | cons h0 t ih =>
              refine .cons h0 ?_ (ih fun y hy => hall y (List.mem_cons_of_mem _ hy))
              have := hall _ List.mem_cons_self
              cases h0 <;> first | rfl | exact absurd this (by simp [isPtr])
          have hf1 : first = #[] := Array.eq_empty_of_size_eq_zero hf0
          refine .of (.pure h (v := .func (.func f) #[] (caps.toList.map ρ).toArray) ?_ (.d (.fn hl)))
          subst hf1
          simp [Instr.makeFunc]
          rw [← Array.toList_map]
        · cases h2
      · cases he
    · cases he
  case buildSlice t n parts =>
    split at he
    · rename_i e sz by_ z ht
      split at he
      · rename_i ie xs hie hxs hd
        split at he
        · rename_i hc
          cases he
          obtain ⟨hn, hseq, hz, hall, hle⟩ := hc
          subst hn
          have hrv := allT_rep hρ hxs
          have := does_buildSlice (P := P) h (hT _ _ ht) rfl (hT _ _ hie) hz hrv (fun y hy => by simpa using (List.all_eq_true.1 hall) y hy) hle hd
          have hp : (((parts.toList.map (·.2)).map ρ).zipIdx 0).map (fun p => (p.2, p.1)) = (parts.map fun p => (p.1, ρ p.2)).toList := by
            rw [Array.toList_map, seqFrom_zip hseq, List.map_map]
            rfl
          rw [hp] at this
          rw [Array.toArray_toList] at this
          exact .of this
        · cases he
      · cases he
    · cases he
  case index t x ix =>
    split at he
    · rename_i sz by_ z s k n ht hx hix
      split at he
      · rename_i hlt
        split at he
        · rename_i h0
          cases he
          have hx' := hρ x _ hx
          have hi' := hρ ix _ hix
          cases hx' with
          | d hx' =>
            cases hi' with
            | d hi' =>
              generalize hv : ρ x = v at hx'
              generalize hvi : ρ ix = vi at hi'
              cases hx'
              cases hi'
              have hk := (hT _ _ ht).kind
              simp only [] at hk
              have h2 : n < (s.size : Int) := by omega
              refine .of (.pure h (v := .int .u8 (s[n.toNat].toNat : Int)) ?_ (.d (.int _ _)))
              simp [Instr.index, hv, hvi, run_underlying hk, asIntOf, h0, hlt]
        · cases he
      · cases he
    · cases he
  case call cl =>
    obtain ⟨callee, args, tys⟩ := cl
    cases callee <;> simp only [] at he <;> try (cases he; done)
    case builtin b =>
      have hbi := evBuiltin_ok (ty := ty) hT h hρ he
      simpa [execOp, resolve, invoke] using hbi _
end
end Go.Pm
