/- The abstract machine 'Pm', part G: addresses of fields and elements; arithmetic; lengths; literals. -/
import Derived.Test.YtnkknmdpakebhaaPmF
set_option linter.unusedSimpArgs false
set_option linter.unusedVariables false
namespace Go.Pm
open Go.RowKit
section
variable {P : Program} {c : Ctx} {m : Mem} {μ : Mu} {L : Loc} {ow : Nat → Option Nat} {w : World}

theorem RepL.drop {μ : Mu} : ∀ {xs : List D} {l : List Value}, RepL μ xs l → ∀ k, RepL μ (xs.drop k) (l.drop k)
  | _, _, .nil, k => by simpa using RepL.nil
  | _, _, .cons h1 h2 t, 0 => .cons h1 h2 t
  | _, _, .cons h1 h2 t, k + 1 => by simpa using t.drop k
theorem RepL.take {μ : Mu} : ∀ {xs : List D} {l : List Value}, RepL μ xs l → ∀ k, RepL μ (xs.take k) (l.take k)
  | _, _, .nil, k => by simpa using RepL.nil
  | _, _, .cons h1 h2 t, 0 => .nil
  | _, _, .cons h1 h2 t, k + 1 => .cons h1 h2 (t.take k)
/-! ### fields -/
theorem run_fieldAt {t : TypeId} {i : TyI} (ht : TyOK P t i) {fs : List (Nat × Nat)} (hk : i.k = .struct fs) {f o s : Nat} (hf : fs[f]? = some (o, s)) (b off : Nat) (w : World) :
    (Instr.fieldAt t (.pointer (some ⟨b, off, none⟩)) f).run P w = .ok (.pointer (some ⟨b, off + o, none⟩)) w := by
  have h := ht.kind
  rw [hk] at h
  obtain ⟨a, hu, _, hg⟩ := h
  obtain ⟨fl, fi, h1, h2, h3, h4, h5⟩ := hg f o s hf
  have h6 : fi.size ≠ 0 := by omega
  simp [Instr.fieldAt, run_underlying hu, h1, Instr.sureAddr, fieldPlace, sizeOf, typeInfo, h3, h6, h2, add_at]
theorem does_fieldP (h : Inv c m μ L ow w) {t : TypeId} {i : TyI} (ht : TyOK P t i) {fs : List (Nat × Nat)} (hk : i.k = .struct fs) {f o s : Nat} (hf : fs[f]? = some (o, s))
    {v : Value} {cs : List D} (hv : RepD μ (.ptr cs) v) (hl : o ≤ cs.length) : Does P c m μ L w (Instr.fieldAt t v f) (.d (.ptr ((cs.drop o).take s))) m := by
  cases hv with
  | @ptr _ b off hc => exact .pure h (run_fieldAt ht hk hf b off w) (.d (.ptr ((hc.drop o hl).take s)))
theorem run_fieldAt' {t : TypeId} {i : TyI} (ht : TyOK P t i) {fs : List (Nat × Nat)} (hk : i.k = .struct fs) {f o s : Nat} (hf : fs[f]? = some (o, s)) (A : Addr) (w : World) :
    (Instr.fieldAt t (.pointer (some A)) f).run P w = .ok (.pointer (some (A.add o))) w := by
  have h := ht.kind
  rw [hk] at h
  obtain ⟨a, hu, _, hg⟩ := h
  obtain ⟨fl, fi, h1, h2, h3, h4, h5⟩ := hg f o s hf
  have h6 : fi.size ≠ 0 := by omega
  simp [Instr.fieldAt, run_underlying hu, h1, Instr.sureAddr, fieldPlace, sizeOf, typeInfo, h3, h6, h2]
theorem does_fieldO (h : Inv c m μ L ow w) {t : TypeId} {i : TyI} (ht : TyOK P t i) {fs : List (Nat × Nat)} (hk : i.k = .struct fs) {f o s : Nat} (hf : fs[f]? = some (o, s))
    {v : Value} {id g off : Nat} (hv : RepT μ L m (.obj id g off) v) : Does P c m μ L w (Instr.fieldAt t v f) (.obj id g (off + o)) m := by
  cases hv with
  | obj hm hg hle hA => exact .pure h (run_fieldAt' ht hk hf _ w) (.obj hm hg hle fun q => by rw [hA q, add_at])
theorem does_indexV (h : Inv c m μ L ow w) {t e : TypeId} {i ie : TyI} (ht : TyOK P t i) (hk : i.k = .slice e) (he : TyOK P e ie) {v vi : Value} {id g off n : Nat} (hv : RepT μ L m (.view id g ie.size off n) v) {k : IntKind} {j : Int} (hn : RepD μ (.int k j) vi)
    (h0 : 0 ≤ j) (hlt : j < n) : Does P c m μ L w (Instr.indexAt t v vi) (.obj id g (off + j.toNat * ie.size)) m := by
  have hu := ht.kind
  rw [hk] at hu
  simp only [] at hu
  cases hv with
  | @view _ _ _ _ _ cap g' A o hm hg hle hA =>
    cases hn
    refine .pure h (v := .pointer (some (A.add (j.toNat * ie.size)))) ?_ (.obj hm hg hle fun q => by rw [(hA q).1 (by have := (hA q).2.2.1; omega), add_at])
    simp [Instr.indexAt, asIntOf, run_underlying hu, h0, hlt, he.sizeOf]
/-- A field of a struct value. -/
theorem does_field (h : Inv c m μ L ow w) {t : TypeId} {i : TyI} (ht : TyOK P t i) {a : Array Field} (hu : P.underlying t = some (.struct a)) {f : Nat} {fl : Field} (hf : a[f]? = some fl) {fi : TyI} (hfi : TyOK P fl.type fi)
    {v : Value} {cs : List D} (hv : RepD μ (.agg cs) v) {x : D} (hx : ldD (cs.drop fl.offset) fi = some x) : Does P c m μ L w (Instr.field t v f) (.d x) m := by
  cases hv with
  | @agg _ l hl =>
    have hlen := hl.length
    have hget : ∀ (j : Nat) (y : D), cs[j]? = some y → ∃ u, l[j]? = some u ∧ RepD μ y u ∧ u.oneCell' = true := fun j y hy => hl.get j y hy
    unfold ldD at hx
    split at hx
    · rename_i hagg
      split at hx
      · rename_i hle
        injection hx with hx
        subst hx
        refine .pure h (v := .agg ((l.drop fl.offset).take fi.size).toArray) ?_ (.d (.agg ((hl.drop _).take _)))
        have e : fl.offset + fi.size - fl.offset = fi.size := by omega
        simp [Instr.field, run_underlying hu, hf, asAgg, part, hfi.isAgg, hagg, hfi.sizeOf, e]
      · cases hx
    · rename_i hagg
      rw [List.head?_eq_getElem?, List.getElem?_drop] at hx
      obtain ⟨u, h1, h2, _⟩ := hget _ x hx
      rw [Nat.add_zero] at h1
      refine .pure h (v := u) ?_ (.d h2)
      simp [Instr.field, run_underlying hu, hf, asAgg, part, hfi.isAgg, hagg, h1]

/-! ### elements -/
theorem does_indexAddr (h : Inv c m μ L ow w) {t e : TypeId} {i ie : TyI} (ht : TyOK P t i) (hk : i.k = .slice e) (he : TyOK P e ie) {v vi : Value} {xs : List D} (hv : RepD μ (.slice xs) v) {k : IntKind} {n : Int} (hn : RepD μ (.int k n) vi)
    (h0 : 0 ≤ n) {y : D} (hy : xs[n.toNat]? = some y) (hs : y.sz = ie.size) : Does P c m μ L w (Instr.indexAt t v vi) (.d (.ptr y.cells)) m := by
  have hu := ht.kind
  rw [hk] at hu
  simp only [] at hu
  obtain ⟨A, cap, rfl, hle, hc, hr⟩ := hv.slice_inv
  have hlt : n.toNat < xs.length := (List.getElem?_eq_some_iff.1 hy).1
  rcases hr with rfl | ⟨b, o, sz, rfl, hrow, hsz⟩
  · simp at hlt
  · have hz : sz = ie.size := by rw [← hs, hsz y (List.mem_of_getElem? hy)]
    subst hz
    cases hn
    have hlt' : n < (xs.length : Int) := by omega
    refine .pure h (v := .pointer (some ⟨b, o + n.toNat * ie.size, none⟩)) ?_ (.d (.ptr (hrow.at_ hsz _ _ hy).cells))
    simp [Instr.indexAt, asIntOf, run_underlying hu, h0, hlt', he.sizeOf, add_at]

/-! ### arithmetic -/
def bitsV (op : BinOp) (k : IntKind) (x y : Int) : Option Int :=
  match op with
  | .and | .or | .xor | .andNot => some (bits op k x y)
  | _ => none
def binD (op : BinOp) : D → D → Option D
  | .int k a, .int k' b =>
    match op with
    | .shl => if b < 0 then none else some (.int k (k.wrap (a * 2 ^ (min b.toNat k.bits))))
    | .shr => if b < 0 then none else some (.int k (a.fdiv (2 ^ (min b.toNat k.bits))))
    | _ =>
    if k = k' then
      match op with
      | .add => some (.int k (k.wrap (a + b)))
      | .sub => some (.int k (k.wrap (a - b)))
      | .mul => some (.int k (k.wrap (a * b)))
      | .quo => if b = 0 then none else some (.int k (k.wrap (a.tdiv b)))
      | .rem => if b = 0 then none else some (.int k (a.tmod b))
      | .eql => some (.bool (a == b))
      | .neq => some (.bool (a != b))
      | .lss => some (.bool (decide (a < b)))
      | .leq => some (.bool (decide (a ≤ b)))
      | .gtr => some (.bool (decide (a > b)))
      | .geq => some (.bool (decide (a ≥ b)))
      | op => (bitsV op k a b).map (.int k)
    else none
  | .bool a, .bool b => match op with
    | .eql => some (.bool (a == b))
    | .neq => some (.bool (a != b))
    | _ => none
  | .str a, .str b => match op with
    | .add => if a.size + b.size ≤ 9223372036854775807 then some (.str (a ++ b)) else none
    | .eql => some (.bool (a.toList == b.toList))
    | .neq => some (.bool (!(a.toList == b.toList)))
    | .lss => some (.bool (Op.bytesLess a.toList b.toList))
    | .leq => some (.bool (Op.bytesLess a.toList b.toList || a.toList == b.toList))
    | .gtr => some (.bool (!(Op.bytesLess a.toList b.toList || a.toList == b.toList)))
    | .geq => some (.bool (!(Op.bytesLess a.toList b.toList)))
    | _ => none
  | .nil, .nil => match op with
    | .eql => some (.bool true)
    | .neq => some (.bool false)
    | _ => none
  | .slice (_ :: _), .nil => match op with
    | .eql => some (.bool false)
    | .neq => some (.bool true)
    | _ => none
  | _, _ => none
/-- The types at which '==' is asked of more than numbers and strings. -/
def eqTy (i : TyI) : D → Bool
  | .bool _ => match i.k with | .bool => true | _ => false
  | .nil | .slice _ => match i.k with | .slice _ => true | _ => false
  | _ => true
theorem run_equal_bool {t : TypeId} (hu : P.underlying t = some .bool) (a b : Bool) (w : World) : (Op.equal t (.bool a) (.bool b)).run P w = .ok (a == b) w := by
  show (Op.equalIn (9999 + 1) t _ _).run P w = _
  rw [Op.equalIn]
  simp [run_underlying hu]
theorem run_equal_nil {t e : TypeId} (hu : P.underlying t = some (.slice e)) (w : World) : (Op.equal t (.slice none 0 0) (.slice none 0 0)).run P w = .ok true w := by
  show (Op.equalIn (9999 + 1) t _ _).run P w = _
  rw [Op.equalIn]
  simp [run_underlying hu]
theorem run_equal_none {t e : TypeId} (hu : P.underlying t = some (.slice e)) (k : Nat) (w : World) : (Op.equal t (.slice none 0 k) (.slice none 0 0)).run P w = .ok true w := by
  show (Op.equalIn (9999 + 1) t _ _).run P w = _
  rw [Op.equalIn]
  simp [run_underlying hu]
theorem run_equal_some {t e : TypeId} (hu : P.underlying t = some (.slice e)) (a : Addr) (n k : Nat) (w : World) : (Op.equal t (.slice (some a) n k) (.slice none 0 0)).run P w = .ok false w := by
  show (Op.equalIn (9999 + 1) t _ _).run P w = _
  rw [Op.equalIn]
  simp [run_underlying hu]
theorem run_eql_of {t : TypeId} {vx vy : Value} {b : Bool} (h : (Op.equal t vx vy).run P w = .ok b w) (hb : binOp .eql t vx vy = (do pure (.bool (← Op.equal t vx vy)) : Sem Value)) (x y : Operand) (hg : eqGuard .eql t x y vx vy = pure ()) :
    (do eqGuard .eql t x y vx vy; binOp .eql t vx vy : Sem Value).run P w = .ok (.bool b) w := by
  rw [hg, hb]
  simp [h]
theorem run_neq_of {t : TypeId} {vx vy : Value} {b : Bool} (h : (Op.equal t vx vy).run P w = .ok b w) (hb : binOp .neq t vx vy = (do pure (.bool (!(← Op.equal t vx vy))) : Sem Value)) (x y : Operand) (hg : eqGuard .neq t x y vx vy = pure ()) :
    (do eqGuard .neq t x y vx vy; binOp .neq t vx vy : Sem Value).run P w = .ok (.bool (!b)) w := by
  rw [hg, hb]
  simp [h]
theorem run_binOp {t : TypeId} {i : TyI} (ht : TyOK P t i) {op : BinOp} {x y : Operand} {vx vy : Value} {dx dy r : D} (hx : RepD μ dx vx) (hy : RepD μ dy vy) (hb : binD op dx dy = some r) (he : eqTy i dx = true) :
    ∃ v, (do eqGuard op t x y vx vy; binOp op t vx vy : Sem Value).run P w = .ok v w ∧ RepD μ r v := by
  have hk := ht.kind
  unfold binD at hb
  split at hb
  · -- numbers
    cases hx; cases hy
    rename_i k a k' b
    split at hb
    · split at hb
      · cases hb
      · injection hb with hb; subst hb
        rename_i hlt
        exact ⟨_, by simp [eqGuard, binOp, Op.shift, hlt], .int _ _⟩
    · split at hb
      · cases hb
      · injection hb with hb; subst hb
        rename_i hlt
        exact ⟨_, by simp [eqGuard, binOp, Op.shift, hlt], .int _ _⟩
    · split at hb
      · rename_i hkk
        subst hkk
        split at hb
        all_goals try (injection hb with hb; subst hb)
        · exact ⟨_, by simp [eqGuard, binOp, Op.intArith], .int _ _⟩
        · exact ⟨_, by simp [eqGuard, binOp, Op.intArith], .int _ _⟩
        · exact ⟨_, by simp [eqGuard, binOp, Op.intArith], .int _ _⟩
        · split at hb
          · cases hb
          · injection hb with hb; subst hb; rename_i h0; exact ⟨_, by simp [eqGuard, binOp, Op.intDiv, h0], .int _ _⟩
        · split at hb
          · cases hb
          · injection hb with hb; subst hb; rename_i h0; exact ⟨_, by simp [eqGuard, binOp, Op.intDiv, h0], .int _ _⟩
        · exact ⟨_, by simp [eqGuard, binOp, Op.intCmp], .bool _⟩
        · exact ⟨_, by simp [eqGuard, binOp, Op.intCmp], .bool _⟩
        · exact ⟨_, by simp [eqGuard, binOp, Op.intCmp], .bool _⟩
        · exact ⟨_, by simp [eqGuard, binOp, Op.intCmp], .bool _⟩
        · exact ⟨_, by simp [eqGuard, binOp, Op.intCmp], .bool _⟩
        · exact ⟨_, by simp [eqGuard, binOp, Op.intCmp], .bool _⟩
        · unfold bitsV at hb
          split at hb <;> simp at hb <;> subst hb
          all_goals exact ⟨_, by simp [eqGuard, binOp, Op.intBits, bits], .int _ _⟩
      · cases hb
  · -- truth values
    cases hx; cases hy
    rename_i a b
    have hkk : i.k = .bool := by
      simp only [eqTy] at he
      split at he
      · assumption
      · cases he
    rw [hkk] at hk
    simp only [] at hk
    split at hb
    · injection hb with hb; subst hb
      exact ⟨_, run_eql_of (run_equal_bool hk a b w) rfl x y rfl, .bool _⟩
    · injection hb with hb; subst hb
      exact ⟨_, run_neq_of (run_equal_bool hk a b w) rfl x y rfl, .bool _⟩
    · cases hb
  · -- strings
    cases hx; cases hy
    rename_i a b
    split at hb
    · split at hb
      · rename_i hle
        injection hb with hb; subst hb
        have : ¬ ((a.size + b.size : Nat) : Int) > IntKind.i64.max := by simp [IntKind.max, IntKind.bits, IntKind.signed]; omega
        exact ⟨_, by simp only [eqGuard, binOp, Op.stringOp]; simp; omega, .str _⟩
      · cases hb
    all_goals first | cases hb; done | skip
    all_goals injection hb with hb; subst hb
    all_goals exact ⟨_, by simp [eqGuard, binOp, Op.stringOp], .bool _⟩
  · -- nil against nil
    cases hx; cases hy
    have hkk : ∃ e, i.k = .slice e := by
      simp only [eqTy] at he
      split at he
      · exact ⟨_, by assumption⟩
      · cases he
    obtain ⟨e, hkk⟩ := hkk
    rw [hkk] at hk
    simp only [] at hk
    split at hb
    · injection hb with hb; subst hb
      exact ⟨_, run_eql_of (run_equal_nil hk w) rfl x y rfl, .bool _⟩
    · injection hb with hb; subst hb
      exact ⟨_, run_neq_of (run_equal_nil hk w) rfl x y rfl, .bool _⟩
    · cases hb
  · -- a slice of some elements against nil
    cases hy
    obtain ⟨A, cap, rfl, _, _, hr⟩ := hx.slice_inv
    rcases hr with hr | ⟨b, o, sz, rfl, _⟩
    · cases hr
    have hkk : ∃ e, i.k = .slice e := by
      simp only [eqTy] at he
      split at he
      · exact ⟨_, by assumption⟩
      · cases he
    obtain ⟨e, hkk⟩ := hkk
    rw [hkk] at hk
    simp only [] at hk
    split at hb
    · injection hb with hb; subst hb
      exact ⟨_, run_eql_of (run_equal_some hk _ _ _ w) rfl x y rfl, .bool _⟩
    · injection hb with hb; subst hb
      exact ⟨_, run_neq_of (run_equal_some hk _ _ _ w) rfl x y rfl, .bool _⟩
    · cases hb
  · cases hb
def unD (op : UnOp) : D → Option D
  | .int k n => match op with
    | .neg => some (.int k (k.wrap (0 - n)))
    | _ => none
  | .bool b => match op with
    | .not => some (.bool !b)
    | _ => none
  | _ => none
theorem run_unOp {op : UnOp} {vx : Value} {dx r : D} (hx : RepD μ dx vx) (hb : unD op dx = some r) (w : World) : ∃ v, (Op.unary op vx).run P w = .ok v w ∧ RepD μ r v := by
  unfold unD at hb
  split at hb
  · cases hx
    split at hb
    · injection hb with hb; subst hb; exact ⟨_, by simp [Op.unary, Op.intArith], .int _ _⟩
    · cases hb
  · cases hx
    split at hb
    · injection hb with hb; subst hb; exact ⟨_, by simp [Op.unary], .bool _⟩
    · cases hb
  · cases hb
/-- Conversions of numbers; strings to strings. -/
def cvD (i : TyI) : D → Option D
  | .int _ n => match i.k with
    | .int k => some (.int k (k.wrap n))
    | _ => none
  | _ => none
theorem run_cv {s t : TypeId} {is it : TyI} (hs : TyOK P s is) (ht : TyOK P t it) {vx : Value} {dx r : D} (hx : RepD μ dx vx) (hb : cvD it dx = some r) (w : World) : ∃ v, (convert s t vx).run P w = .ok v w ∧ RepD μ r v := by
  unfold cvD at hb
  split at hb
  · cases hx
    split at hb
    · rename_i k hk
      injection hb with hb
      subst hb
      have h := ht.kind
      rw [hk] at h
      simp only [] at h
      have hu : ∃ d, P.underlying s = some d := by
        have := hs.kind
        split at this
        case h_5 => obtain ⟨a, h1, _⟩ := this; exact ⟨_, h1⟩
        case h_7 => obtain ⟨_, _, _, h1⟩ := this; exact ⟨_, h1⟩
        all_goals exact ⟨_, this⟩
      obtain ⟨d, hu⟩ := hu
      refine ⟨.int k _, ?_, .int _ _⟩
      simp [convert, run_underlying hu, run_underlying h, Conv.intToInt]
    · cases hb
  · cases hb
end
end Go.Pm
