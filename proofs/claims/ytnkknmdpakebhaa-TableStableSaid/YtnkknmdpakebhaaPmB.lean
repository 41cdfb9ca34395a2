/- The abstract machine 'Pm', part B: abstract states, the relation to frames and worlds, what moves it. -/
import Derived.Test.YtnkknmdpakebhaaPmA
set_option linter.unusedSimpArgs false
set_option linter.unusedVariables false
namespace Go.Pm
open Go.RowKit

/-- What a temporary, or a cell of a variable in memory, holds. -/
inductive T where
  | d (x : D)
  | obj (id g off : Nat)
  | own (id : Nat) (xs : List D)
  | view (id g sz off n : Nat)
  | tup (xs : List T)
  | anyb
  | un
  | any

/-- What the call owns: cells that may be written; a row that may be appended to; cells that nobody writes any more. -/
inductive Own where
  | box (g : Nat) (cs : List T)
  | tok (e sz n : Nat)
  | froz (g : Nat) (cs : List D)
/-- Its generation: an elder pointer into it means nothing. -/
def Own.gen : Own → Option Nat
  | .box g _ => some g
  | .tok .. => none
  | .froz g _ => some g

abbrev Mem := Nat → Option Own
structure Loc where
  blk : Nat → Nat
  room : Nat → Nat
  hdr : Nat → Value

def look {α : Type} : List (Nat × α) → Nat → Option α
  | [], _ => none
  | (k, v) :: r, t => if k = t then some v else look r t
theorem look_cons {α : Type} (k : Nat) (v : α) (r : List (Nat × α)) (t : Nat) : look ((k, v) :: r) t = if k = t then some v else look r t := rfl

inductive RepT (μ : Mu) (L : Loc) (m : Mem) : T → Value → Prop
  | d {x : D} {v : Value} (h : RepD μ x v) : RepT μ L m (.d x) v
  | obj {id g off g' : Nat} {A : Addr} {o : Own} (hm : m id = some o) (hg : o.gen = some g') (hle : g ≤ g') (h : g' = g → A = ⟨L.blk id, off, none⟩) : RepT μ L m (.obj id g off) (.pointer (some A))
  | own {id : Nat} {xs : List D} {v : Value} {e sz n : Nat} (h : RepD μ (.slice xs) v) (hm : m id = some (.tok e sz n)) (hl : xs.length ≤ n) (he : xs.length = n → v = L.hdr id) (hs : ∀ y ∈ xs, y.sz = sz) : RepT μ L m (.own id xs) v
  | view {id g sz off n cap g' : Nat} {A : Addr} {o : Own} (hm : m id = some o) (hg : o.gen = some g') (hle : g ≤ g') (h : g' = g → (0 < cap → A = ⟨L.blk id, off, none⟩) ∧ off + cap * sz ≤ L.room id ∧ n ≤ cap ∧ cap ≤ maxLen) : RepT μ L m (.view id g sz off n) (.slice (some A) n cap)
  | tup {xs : List T} {vs : List Value} (hl : vs.length = xs.length) (h : ∀ (i : Nat) (x : T), xs[i]? = some x → RepT μ L m x (vs.getD i undef)) : RepT μ L m (.tup xs) (.tuple vs.toArray)
  | anyb (b : Bool) : RepT μ L m .anyb (.bool b)
  | un : RepT μ L m .un undef
  | any (v : Value) : RepT μ L m .any v

/-- What was owned stays owned, in its kind. -/
structure Stays (L : Loc) (m : Mem) (L' : Loc) (m' : Mem) : Prop where
  gen : ∀ id o g, m id = some o → o.gen = some g → ∃ o' g', m' id = some o' ∧ o'.gen = some g' ∧ g ≤ g' ∧ (g' = g → L'.blk id = L.blk id ∧ L'.room id = L.room id)
  tok : ∀ id e sz n, m id = some (.tok e sz n) → ∃ n', m' id = some (.tok e sz n') ∧ n ≤ n' ∧ (n' = n → L'.hdr id = L.hdr id)
theorem Stays.refl (L : Loc) (m : Mem) : Stays L m L m := ⟨fun _ o g h hg => ⟨o, g, h, hg, Nat.le_refl _, fun _ => ⟨rfl, rfl⟩⟩, fun _ _ _ n h => ⟨n, h, Nat.le_refl _, fun _ => rfl⟩⟩
theorem RepT.mono {μ μ' : Mu} {L L' : Loc} {m m' : Mem} (hm : Mu.le μ μ') (hs : Stays L m L' m') {x : T} {v : Value} (h : RepT μ L m x v) : RepT μ' L' m' x v := by
  induction h with
  | d h => exact .d (h.mono hm)
  | obj h hg hle hA =>
    obtain ⟨o', g2, h', hg', hle', e⟩ := hs.gen _ _ _ h hg
    exact .obj h' hg' (Nat.le_trans hle hle') fun q => by
      have q1 := Nat.le_antisymm hle (by omega)
      rw [hA q1.symm, (e (by omega)).1]
  | own h hmm hl he hz =>
    obtain ⟨n', h', hle, e⟩ := hs.tok _ _ _ _ hmm
    exact .own (h.mono hm) h' (by omega) (fun hx => by rw [he (by omega), e (by omega)]) hz
  | view h hg hle hA =>
    obtain ⟨o', g2, h', hg', hle', e⟩ := hs.gen _ _ _ h hg
    exact .view h' hg' (Nat.le_trans hle hle') fun q => by
      have q1 := Nat.le_antisymm hle (by omega)
      rw [(e (by omega)).1, (e (by omega)).2]
      exact hA q1.symm
  | tup hl h ih => exact .tup hl ih
  | anyb b => exact .anyb b
  | un => exact .un
  | any v => exact .any v

/-- Elements laid out cell by cell. -/
inductive RepF (μ : Mu) : List D → List Value → Prop
  | nil : RepF μ [] []
  | cons {x : D} {xs : List D} {c l : List Value} (h : RepL μ x.cells c) (t : RepF μ xs l) : RepF μ (x :: xs) (c ++ l)

/-- What was there at the call's begin is as it was, but for the blocks in S. -/
structure Fr (w0 : World) (S : Nat → Prop) (w : World) : Prop where
  os : w.os = w0.os
  tape : w.tape = w0.tape
  output : w.output = w0.output
  size : w0.heap.size ≤ w.heap.size
  block : ∀ k, k < w0.heap.size → ¬ S k → w.heap[k]? = w0.heap[k]?

structure Ctx where
  w0 : World
  μ0 : Mu
  S : Nat → Prop
  n : Nat
  ob : Nat → Option (Nat × Nat)
/-- What was handed in to be written keeps its name and its place. -/
def oid (k : Nat) : Nat := 900000 + k
def ObOK (c : Ctx) (m : Mem) (L : Loc) : Prop := ∀ id b r, c.ob id = some (b, r) → 900000 ≤ id ∧ ∃ o, m id = some o ∧ (o.gen = some 0 → L.blk id = b ∧ L.room id = r)
theorem ObOK.stays {c : Ctx} {L L' : Loc} {m m' : Mem} (h : ObOK c m L) (hs : Stays L m L' m') : ObOK c m' L' := by
  intro id b r hb
  obtain ⟨h1, o, h2, h3⟩ := h id b r hb
  refine ⟨h1, ?_⟩
  cases ho : o.gen with
  | some g =>
    obtain ⟨o', g', k1, k2, k3, k4⟩ := hs.gen id o g h2 ho
    refine ⟨o', k1, fun q => ?_⟩
    rw [k2] at q
    injection q with q
    have q2 : g = 0 := by omega
    subst q2
    obtain ⟨e1, e2⟩ := k4 q
    obtain ⟨e3, e4⟩ := h3 ho
    exact ⟨e1.trans e3, e2.trans e4⟩
  | none =>
    cases o with
    | tok e sz n =>
      obtain ⟨n', k1, _⟩ := hs.tok id e sz n h2
      exact ⟨_, k1, fun q => by cases q⟩
    | box => cases ho
    | froz => cases ho

/-- The row of a token or of an array: like 'ownsRow', wherever it lies. -/
def rowAt (w : World) (e size : Nat) (v : Value) (n : Nat) (xs : List Value) : Prop := w.ownsRow 0 e size v n xs

structure Inv (c : Ctx) (m : Mem) (μ : Mu) (L : Loc) (ow : Nat → Option Nat) (w : World) : Prop where
  fr : Fr c.w0 c.S w
  mu : ∀ a v, μ a = some v → w.cell? a = some v
  mu0 : Mu.le c.μ0 μ
  muNew : ∀ a v, μ a = some v → c.μ0 a = some v ∨ c.w0.heap.size ≤ a.block
  muOwn : ∀ a v, μ a = some v → ∀ id, ow a.block = some id → ∃ e sz n, m id = some (.tok e sz n) ∧ a.off < n * sz
  own : ∀ b id, ow b = some id → b < w.heap.size ∧ (c.w0.heap.size ≤ b ∨ c.S b)
  box : ∀ id g cs, m id = some (.box g cs) → ow (L.blk id) = some id ∧ ∃ vs e, w.heap[L.blk id]? = some (.cells vs e (0, 0)) ∧ cs.length ≤ vs.size ∧ vs.size = L.room id ∧
    ∀ (i : Nat) (x : T), cs[i]? = some x → ∃ v, vs[i]? = some v ∧ v.oneCell' = true ∧ RepT μ L m x v
  tok : ∀ id e sz n, m id = some (.tok e sz n) → 0 < sz ∧ (∃ cells, rowAt w e sz (L.hdr id) n cells) ∧ ∀ b, (L.hdr id).ownBlock = some b → ow b = some id ∧ c.w0.heap.size ≤ b
  froz : ∀ id g cs, m id = some (.froz g cs) → RepC μ cs (L.blk id) 0

structure St where
  env : List (Nat × T)
  mem : List (Nat × Own)
def St.m (σ : St) : Mem := look σ.mem
def St.put (σ : St) (d : Nat) (x : T) : St := ⟨(d, x) :: σ.env, σ.mem⟩
def St.set (σ : St) (id : Nat) (o : Own) : St := ⟨σ.env, (id, o) :: σ.mem⟩

def EnvOK (c : Ctx) (μ : Mu) (L : Loc) (m : Mem) (env : List (Nat × T)) (a : Act) : Prop :=
  (a.defers = [] ∧ ObOK c m L) ∧ a.tmps.size = c.n ∧ ∀ t x, look env t = some x → RepT μ L m x (a.tmps.getD t undef)
def Sim (c : Ctx) (σ : St) (a : Act) (w : World) : Prop := ∃ μ L ow, Inv c σ.m μ L ow w ∧ EnvOK c μ L σ.m σ.env a

theorem EnvOK.mono {c : Ctx} {μ μ' : Mu} {L L' : Loc} {m m' : Mem} {env : List (Nat × T)} {a : Act} (h : EnvOK c μ L m env a) (hm : Mu.le μ μ') (hs : Stays L m L' m') : EnvOK c μ' L' m' env a :=
  ⟨⟨h.1.1, h.1.2.stays hs⟩, h.2.1, fun t x hx => (h.2.2 t x hx).mono hm hs⟩
theorem EnvOK.put {c : Ctx} {μ : Mu} {L : Loc} {m : Mem} {env : List (Nat × T)} {a : Act} (h : EnvOK c μ L m env a) {d : Nat} (hd : d < c.n) {x : T} {v : Value} (hv : RepT μ L m x v) : EnvOK c μ L m ((d, x) :: env) (a.put (some d) v) := by
  refine ⟨h.1, by simp [Act.put, h.2.1], fun t y hy => ?_⟩
  rw [look_cons] at hy
  split at hy
  · rename_i e
    subst e
    injection hy with hy
    subst hy
    have : d < a.tmps.size := by rw [h.2.1]; exact hd
    simpa [Act.put, Array.getD_eq_getD_getElem?, Array.getElem?_setIfInBounds, this] using hv
  · rename_i e
    have := h.2.2 t y hy
    simpa [Act.put, Array.getD_eq_getD_getElem?, Array.getElem?_setIfInBounds, e] using this

/-! ### Worlds that move -/
theorem Mu.le_refl (μ : Mu) : Mu.le μ μ := fun _ _ h => h
theorem Fr.refl (w : World) (S : Nat → Prop) : Fr w S w := ⟨rfl, rfl, rfl, Nat.le_refl _, fun _ _ _ => rfl⟩

theorem Inv.drew {c : Ctx} {m : Mem} {μ : Mu} {L : Loc} {ow : Nat → Option Nat} {w : World} (h : Inv c m μ L ow w) : Inv c m μ L ow w.drew where
  fr := ⟨h.fr.os, h.fr.tape, h.fr.output, h.fr.size, h.fr.block⟩
  mu := h.mu
  mu0 := h.mu0
  muNew := h.muNew
  muOwn := h.muOwn
  own := h.own
  box := h.box
  tok := h.tok
  froz := h.froz

theorem rowAt_keep {w w1 : World} {e size n : Nat} {v : Value} {xs : List Value} (h : rowAt w e size v n xs) (hk : ∀ b, v.ownBlock = some b → w1.heap[b]? = w.heap[b]?) : rowAt w1 e size v n xs := by
  obtain ⟨h1, h2⟩ := h
  refine ⟨h1, ?_⟩
  rcases h2 with h2 | ⟨g, cap, cur, rfl, hg, hh, r⟩
  · exact .inl h2
  · exact .inr ⟨g, cap, cur, rfl, hg, (hk g (by simp [Value.ownBlock])).trans hh, r⟩

/-- Blocks that nobody owns here may be added and the world may grow: all that is old stays. -/
structure Grows (w w1 : World) : Prop where
  os : w1.os = w.os
  tape : w1.tape = w.tape
  output : w1.output = w.output
  size : w.heap.size ≤ w1.heap.size
  block : ∀ k, k < w.heap.size → w1.heap[k]? = w.heap[k]?
theorem Fr.grows {w0 w w1 : World} {S : Nat → Prop} (h : Fr w0 S w) (g : Grows w w1) : Fr w0 S w1 :=
  ⟨g.os.trans h.os, g.tape.trans h.tape, g.output.trans h.output, Nat.le_trans h.size g.size, fun k hk hS => (g.block k (Nat.lt_of_lt_of_le hk h.size)).trans (h.block k hk hS)⟩
theorem Grows.alloc (w : World) (o : Obj) : Grows w (w.alloc o) := ⟨rfl, rfl, rfl, by simp, fun k hk => Below.heap_alloc w o k hk⟩
theorem Grows.of_below {w w1 : World} (h : Below w.heap.size w w1) : Grows w w1 := ⟨h.os, h.tape, h.output, h.size, h.block⟩
theorem cell_grows {w w1 : World} (g : Grows w w1) {a : Addr} {v : Value} (h : w.cell? a = some v) : w1.cell? a = some v :=
  (World.cell?_of_block (g.block a.block (World.block_lt_of_cell? w a h))).trans h

/-- The world grows; the snapshot takes in cells of new blocks. -/
theorem Inv.grows {c : Ctx} {m : Mem} {μ μ1 : Mu} {L : Loc} {ow : Nat → Option Nat} {w w1 : World} (h : Inv c m μ L ow w) (g : Grows w w1)
    (hm : Mu.le μ μ1) (hn : ∀ a v, μ1 a = some v → μ a = some v ∨ (w.heap.size ≤ a.block ∧ w1.cell? a = some v)) : Inv c m μ1 L ow w1 where
  fr := h.fr.grows g
  mu := fun a v ha => by
    rcases hn a v ha with h1 | h1
    · exact cell_grows g (h.mu a v h1)
    · exact h1.2
  mu0 := fun a v ha => hm a v (h.mu0 a v ha)
  muNew := fun a v ha => by
    rcases hn a v ha with h1 | h1
    · exact h.muNew a v h1
    · exact .inr (Nat.le_trans h.fr.size h1.1)
  muOwn := fun a v ha id ho => by
    rcases hn a v ha with h1 | h1
    · exact h.muOwn a v h1 id ho
    · have := (h.own _ _ ho).1
      omega
  own := fun b id ho => ⟨Nat.lt_of_lt_of_le (h.own b id ho).1 g.size, (h.own b id ho).2⟩
  box := fun id g' cs hi => by
    obtain ⟨ho, vs, e, hh, hs, hr, hv⟩ := h.box id g' cs hi
    refine ⟨ho, vs, e, (g.block _ (h.own _ _ ho).1).trans hh, hs, hr, fun i x hx => ?_⟩
    obtain ⟨v, h1, h2, h3⟩ := hv i x hx
    exact ⟨v, h1, h2, h3.mono hm (Stays.refl _ _)⟩
  tok := fun id e sz n hi => by
    obtain ⟨h0, ⟨cells, hr⟩, ho⟩ := h.tok id e sz n hi
    exact ⟨h0, ⟨cells, rowAt_keep hr fun b hb => g.block b (h.own _ _ (ho b hb).1).1⟩, ho⟩
  froz := fun id g' cs hi => (h.froz id g' cs hi).mono hm
end Go.Pm
