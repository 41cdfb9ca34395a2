/- The abstract machine 'Pm', part J: an operation on abstract values, and that the model does just that. -/
import Derived.Test.YtnkknmdpakebhaaPmU
set_option linter.unusedSimpArgs false
set_option linter.unusedVariables false
namespace Go.Pm
open Go.RowKit

def T.asSlice : T → Option (List D)
  | .d (.slice xs) => some xs
  | .d .nil => some []
  | .own _ xs => some xs
  | _ => none
def T.emp (y : T) : Bool := match y.asSlice with
  | some [] => true
  | _ => false
abbrev Upd := Option (Nat × Own)
def Mem.upd (m : Mem) : Upd → Mem
  | none => m
  | some (id, o) => setM m id o
def allT (ρ : Operand → Option T) : List Operand → Option (List D)
  | [] => some []
  | x :: xs => match (ρ x).bind T.toD, allT ρ xs with
    | some y, some ys => some (y :: ys)
    | _, _ => none
def isSome' {α : Type} : Option α → Bool
  | some _ => true
  | none => false
def seqFrom : Nat → List (Nat × Operand) → Bool
  | _, [] => true
  | k, p :: r => p.1 == k && seqFrom (k + 1) r
/-- A cut's bound. -/
def bnd (ρ : Operand → Option T) (dflt : Nat) : Option Operand → Option Int
  | none => some dflt
  | some x => match ρ x with
    | some (.d (.int _ n)) => some n
    | _ => none
def cut (ρ : Operand → Option T) (len : Nat) (lo hi mx : Option Operand) : Option (Nat × Nat × Nat) :=
  match bnd ρ 0 lo, bnd ρ len hi, bnd ρ len mx with
  | some l, some h, some k => if 0 ≤ l ∧ l ≤ h ∧ h ≤ k ∧ k ≤ len ∧ (isSome' mx → isSome' hi) then some (l.toNat, h.toNat, k.toNat) else none
  | _, _, _ => none
def cv2 (tab : Tab) (s i : TyI) (x : D) : Option D :=
  match s.k, i.k with
  | .slice e, .str => match tab e with
    | some ⟨.int .u8, _, _, _, _⟩ => match x with
      | .slice xs => (bytesD xs).map fun ns => .str (ofBytes ns)
      | .nil => some (.str (ofBytes []))
      | _ => none
    | _ => none
  | _, _ => cvD i x
def allP (ρ : Operand → Option T) : List (Nat × Operand) → Option (List (Nat × D))
  | [] => some []
  | (k, x) :: r => match (ρ x).bind T.toD, allP ρ r with
    | some y, some ys => some ((k, y) :: ys)
    | _, _ => none

/-- Whether a slice of no element is nil nobody knows. -/
def binT (op : BinOp) (x y : D) : Option T := match op, x, y with
  | .eql, .slice [], .nil => some .anyb
  | .neq, .slice [], .nil => some .anyb
  | op, x, y => (binD op x y).map .d
def isPtr : D → Bool
  | .ptr _ => true
  | _ => false
def evBuiltin (tab : Tab) (ρ : Operand → Option T) (m : Mem) (d : Nat) (b : Builtin) (args : List Operand) (tys : List Nat) : Option (Option T × Upd) :=
  match b, args, tys with
  | .len, [x], [t] => match tab t, ρ x with
    | some ⟨.str, _, _, _, _⟩, some (.d (.str s)) => some (some (.d (.int .i64 s.size)), none)
    | some ⟨.slice _, _, _, _, _⟩, some (.view _ _ _ _ n) => some (some (.d (.int .i64 n)), none)
    | some ⟨.slice _, _, _, _, _⟩, some y => (y.asSlice).map fun xs => (some (.d (.int .i64 xs.length)), none)
    | _, _ => none
  | .append, [s, x], [t, t'] => if t = t' then match tab t, ρ s, (ρ x).bind T.asSlice with
    | some ⟨.slice e, _, _, _, false⟩, some (.own id xs), some ys => match tab e, m id with
      | some ie, some (.tok e' sz n) =>
        if ys.isEmpty then some (some (.own id xs), none)
        else if e' = e ∧ sz = ie.size ∧ 0 < ie.size ∧ xs.length = n ∧ ys.all (fun y => y.sz == ie.size) ∧ (xs.length + ys.length) * ie.bytes ≤ 140737488355328 ∧ xs.length + ys.length ≤ 140737488355328 then
          some (some (.own id (xs ++ ys)), some (id, .tok e ie.size (n + ys.length))) else none
      | _, _ => none
    | some ⟨.slice e, _, _, _, false⟩, some (.d .nil), some ys => match tab e, m d with
      | some ie, none =>
        if ys.isEmpty then some (some (.d .nil), none)
        else if 0 < ie.size ∧ ys.all (fun y => y.sz == ie.size) ∧ ys.length * ie.bytes ≤ 140737488355328 ∧ ys.length ≤ 140737488355328 then
          some (some (.own d ys), some (d, .tok e ie.size ys.length)) else none
      | _, _ => none
    | _, _, _ => none else none
  | .max, [x, y], _ => match ρ x, ρ y with
    | some (.d (.int k a)), some (.d (.int k' b)) => some (some (.d (.int k (if b > a then b else a))), none)
    | _, _ => none
  | .min, [x, y], _ => match ρ x, ρ y with
    | some (.d (.int k a)), some (.d (.int k' b)) => some (some (.d (.int k (if b < a then b else a))), none)
    | _, _ => none
  | _, _, _ => none

/-- What an operation gives: a value (or none), and at most one change of what is owned. -/
def evOp (tab : Tab) (ρ : Operand → Option T) (m : Mem) (d : Nat) (op : Op) : Option (Option T × Upd) :=
  match op with
  | .move x | .assign x => (ρ x).map fun t => (some t, none)
  | .pick c a b => match ρ c with
    | some (.d (.bool t)) => (if t then ρ a else ρ b).map fun t => (some t, none)
    | _ => none
  | .alloc e => match tab e, m d with
    | some i, none => some (some (.obj d 0 0), some (d, .box 0 (i.zero.cells.map .d)))
    | _, _ => none
  | .box _ x => match (ρ x).bind T.cells, m d with
    | some cs, none => some (some (.obj d 0 0), some (d, .box 0 cs))
    | _, _ => none
  | .load t a => match tab t, ρ a with
    | some i, some (.d (.ptr cs)) => (ldD cs i).map fun x => (some (.d x), none)
    | some i, some (.obj id g off) => match m id with
      | some (.box g' cs) => if g' = g then (ldT (cs.drop off) i).map fun x => (some x, none) else none
      | _ => none
    | _, _ => none
  | .store t a x => match tab t, ρ a, (ρ x).bind T.cells with
    | some i, some (.obj id g off), some ys => match m id with
      | some (.box g' cs) => if g' = g ∧ ys.length = i.size ∧ off + i.size ≤ cs.length then some (none, some (id, .box g (splice cs off ys))) else none
      | _ => none
    | _, _, _ => none
  | .nilCheck x => match ρ x with
    | some (.obj id g off) => some (some (.obj id g off), none)
    | some (.d (.ptr cs)) => some (some (.d (.ptr cs)), none)
    | _ => none
  | .binOp op t x y _ => match tab t, (ρ x).bind T.toD, (ρ y).bind T.toD with
    | some i, some dx, some dy => if eqTy i dx then (binT op dx dy).map fun r => (some r, none) else none
    | _, _, _ => none
  | .unOp op _ x => match (ρ x).bind T.toD with
    | some dx => (unD op dx).map fun r => (some (.d r), none)
    | none => none
  | .convert s t x => match tab s, tab t, (ρ x).bind T.toD with
    | some si, some i, some dx => (cv2 tab si i dx).map fun r => (some (.d r), none)
    | _, _, _ => none
  | .fieldAddr s x f => match tab s, ρ x with
    | some ⟨.struct fs, _, _, _, _⟩, some (.obj id g off) => (fs[f]?).map fun p => (some (.obj id g (off + p.1)), none)
    | some ⟨.struct fs, _, _, _, _⟩, some (.d (.ptr cs)) => match fs[f]? with
      | some p => if p.1 ≤ cs.length then some (some (.d (.ptr ((cs.drop p.1).take p.2))), none) else none
      | none => none
    | _, _ => none
  | .indexAddr t x ix => match tab t, ρ x, ρ ix with
    | some ⟨.slice e, _, _, _, _⟩, some (.view id g sz off n), some (.d (.int _ j)) => match tab e with
      | some ie => if sz = ie.size ∧ 0 ≤ j ∧ j < n then some (some (.obj id g (off + j.toNat * ie.size)), none) else none
      | none => none
    | some ⟨.slice e, _, _, _, _⟩, some tx, some (.d (.int _ n)) => match tab e, tx.asSlice.bind fun xs => xs[n.toNat]? with
      | some ie, some y => if 0 ≤ n ∧ y.sz = ie.size then some (some (.d (.ptr y.cells)), none) else none
      | _, _ => none
    | _, _, _ => none
  | .extract x k => match ρ x with
    | some (.tup xs) => (xs[k]?).map fun y => (some y, none)
    | _ => none
  | .makeFunc fn first caps => match fn with
    | .func f => if first.size = 0 then (allT ρ caps.toList).bind fun cs => if cs.all isPtr then some (some (.d (.fn f cs)), none) else none else none
    | _ => none
  | .buildSlice t n parts => match tab t with
    | some ⟨.slice e, _, _, _, false⟩ => match tab e, allT ρ (parts.toList.map (·.2)), m d with
      | some ie, some xs, none => if n = xs.length ∧ seqFrom 0 parts.toList ∧ 0 < ie.size ∧ xs.all (fun y => y.sz == ie.size) ∧ xs.length * ie.size ≤ 16777216 then some (some (.own d xs), some (d, .tok e ie.size xs.length)) else none
      | _, _, _ => none
    | _ => none
  | .index t x ix => match tab t, ρ x, ρ ix with
    | some ⟨.str, _, _, _, _⟩, some (.d (.str s)), some (.d (.int _ n)) => if h : n.toNat < s.size then if 0 ≤ n then some (some (.d (.int .u8 (s[n.toNat].toNat : Int))), none) else none else none
    | _, _, _ => none
  | .slice t x lo hi mx => match tab t, ρ x with
    | some ⟨.str, _, _, _, _⟩, some (.d (.str s)) => match mx, cut ρ s.size lo hi none with
      | none, some (l, h, _) => some (some (.d (.str (s.extract l h))), none)
      | _, _ => none
    | some ⟨.slice e, _, _, _, _⟩, some y => match tab e, y.asSlice with
      | some ie, some xs => match cut ρ xs.length lo hi mx with
        | some (l, h, _) => if xs.all (fun y => y.sz == ie.size) then some (some (.d (.slice ((xs.take h).drop l))), none) else none
        | none => none
      | _, _ => none
    | _, _ => none
  | .build t parts => match tab t, allP ρ parts.toList with
    | some ⟨.struct fs, _, _, .agg zs, _⟩, some ps => (fillD fs zs ps).map fun ds => (some (.d (.agg ds)), none)
    | _, _ => none
  | .call cl => match cl.callee with
    | .builtin b => evBuiltin tab ρ m d b cl.args.toList cl.argTypes.toList
    | _ => none
  | _ => none

/-- What is appended, where slices are written later. -/
def srcT (m : Mem) (sz : Nat) (y : T) : Option (Nat × List T) :=
  match y with
  | .view id g s off n => match m id with
    | some (.box g' cs) => if g' = g ∧ s = sz ∧ off + n * sz ≤ cs.length then some (n, (cs.drop off).take (n * sz)) else none
    | _ => none
  | y => match y.asSlice with
    | some ys => if ys.all (fun y => y.sz == sz) then some (ys.length, (ys.flatMap D.cells).map .d) else none
    | none => none
/-- What only a region with a fixed order may hold. -/
def evX (tab : Tab) (ρ : Operand → Option T) (m : Mem) (d : Nat) (op : Op) : Option (T × Upd) :=
  match op with
  | .makeSlice t l c => match tab t, ρ l, ρ c, m d with
    | some ⟨.slice e, _, _, _, _⟩, some (.d (.int _ l)), some (.d (.int _ c)), none => match tab e with
      | some ie => if 0 < ie.size ∧ 0 ≤ l ∧ l ≤ c ∧ c * ie.bytes ≤ 140737488355328 ∧ c ≤ 140737488355328 then some (.view d 0 ie.size 0 l.toNat, some (d, .box 0 (zcells l.toNat ie.zero))) else none
      | none => none
    | _, _, _, _ => none
  | .buildSlice t n parts => match tab t with
    | some ⟨.slice e, _, _, _, true⟩ => match tab e, allT ρ (parts.toList.map (·.2)), m d with
      | some ie, some xs, none => if n = xs.length ∧ seqFrom 0 parts.toList ∧ 0 < ie.size ∧ xs.all (fun y => y.sz == ie.size) ∧ xs.length * ie.size ≤ 16777216 then some (.view d 0 ie.size 0 xs.length, some (d, .box 0 ((xs.flatMap D.cells).map .d))) else none
      | _, _, _ => none
    | _ => none
  | .call cl => match cl.callee, cl.args.toList, cl.argTypes.toList with
    | .builtin .append, [s, x], [t, t'] => if t = t' then match tab t, ρ s, ρ x with
      | some ⟨.slice e, _, _, _, true⟩, some ts, some tx => match tab e with
        | some ie => match srcT m ie.size tx with
          | some (k, us) => match ts with
            | .d .nil => match m d with
              | none => if k = 0 ∧ tx.emp = true then some (.d .nil, none)
                else if 0 < k ∧ k * ie.bytes ≤ 140737488355328 ∧ k ≤ 140737488355328 then some (.view d 0 ie.size 0 k, some (d, .box 0 us)) else none
              | _ => none
            | .view id g sz off n => match m id with
              | some (.box g' cs) =>
                if g' = g ∧ tx.emp = true then some (.view id g sz off n, none)
                else if g' = g ∧ sz = ie.size ∧ off = 0 ∧ n * ie.size = cs.length ∧ 0 < ie.size ∧ 0 < k ∧ (n + k) * ie.bytes ≤ 140737488355328 ∧ n + k ≤ 140737488355328 then some (.view id (g + 1) ie.size 0 (n + k), some (id, .box (g + 1) (cs ++ us))) else none
              | _ => none
            | _ => none
          | none => none
        | none => none
      | _, _, _ => none else none
    | _, _, _ => none
  | _ => none

section
variable {P : Program} {c : Ctx} {m : Mem} {μ : Mu} {L : Loc} {ow : Nat → Option Nat} {w : World}
/-- The operation runs; what it gives is represented. -/
def Runs (P : Program) (c : Ctx) (m : Mem) (μ : Mu) (L : Loc) (w : World) (s : Sem Next) (r : Option T) (m' : Mem) : Prop :=
  ∃ nx w' μ' L' ow', s.run P w = .ok nx w' ∧ Inv c m' μ' L' ow' w' ∧ Mu.le μ μ' ∧ Stays L m L' m' ∧
    match r with
    | some x => ∃ v, nx = .value v ∧ RepT μ' L' m' x v
    | none => nx = .skip
theorem Runs.of {s : Sem Value} {x : T} {m' : Mem} (h : Does P c m μ L w s x m') : Runs P c m μ L w (do pure (.value (← s)) : Sem Next) (some x) m' := by
  obtain ⟨v, w', μ', L', ow', hr, hi, hle, hst, hx⟩ := h
  exact ⟨.value v, w', μ', L', ow', by simp [hr], hi, hle, hst, v, rfl, hx⟩
theorem Runs.pure (h : Inv c m μ L ow w) {s : Sem Next} {v : Value} {x : T} (hr : s.run P w = .ok (.value v) w) (hx : RepT μ L m x v) : Runs P c m μ L w s (some x) m :=
  ⟨.value v, w, μ, L, ow, hr, h, Mu.le_refl _, Stays.refl _ _, v, rfl, hx⟩
theorem asSlice_rep {x : T} {v : Value} (h : RepT μ L m x v) {xs : List D} (hx : x.asSlice = some xs) : RepD μ (.slice xs) v := by
  unfold T.asSlice at hx
  split at hx <;> simp at hx <;> subst hx
  · cases h; assumption
  · cases h with
    | d h => exact h.of_nil
  · exact own_slice h
theorem allT_rep {ρT : Operand → Option T} {ρ : Operand → Value} (hρ : ∀ x t, ρT x = some t → RepT μ L m t (ρ x)) : ∀ {l : List Operand} {xs : List D}, allT ρT l = some xs → RepV μ xs (l.map ρ)
  | [], xs, h => by simp [allT] at h; subst h; exact .nil
  | x :: l, xs, h => by
    unfold allT at h
    split at h
    · rename_i y ys hy hys
      injection h with h
      subst h
      rw [Option.bind_eq_some_iff] at hy
      obtain ⟨t, h1, h2⟩ := hy
      exact .cons (toD_rep (hρ x t h1) h2) (allT_rep hρ hys)
    · cases h
theorem seqFrom_zip {ρ : Operand → Value} : ∀ {l : List (Nat × Operand)} {k : Nat}, seqFrom k l = true → l.map (fun p => (p.1, ρ p.2)) = ((l.map (fun p => ρ p.2)).zipIdx k).map fun p => (p.2, p.1)
  | [], k, _ => rfl
  | p :: l, k, h => by
    simp only [seqFrom, Bool.and_eq_true, beq_iff_eq] at h
    simp only [List.map_cons, List.zipIdx_cons]
    rw [seqFrom_zip h.2, h.1]
end
end Go.Pm
