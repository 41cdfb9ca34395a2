/- The abstract machine 'Pm', part M: code, loops, functions. -/
import Derived.Test.YtnkknmdpakebhaaPmL
set_option linter.unusedSimpArgs false
set_option linter.unusedVariables false
namespace Go.Pm
open Go.RowKit

theorem yielded_of {c : Ctx} {σ : St} {a : Act} {w : World} (hs : Sim c σ a w) (hn : True) {ops : Array Oper} {j : Nat} {y : Option Bool} (h : gval ops σ.env j = some y) : yielded ops a.tmps j = y := by
  obtain ⟨μ, L, ow, hi, he⟩ := hs
  unfold gval gvalT at h
  split at h
  · rename_i b hb
    injection h with h
    subst h
    obtain ⟨t, h1, h2⟩ := bind_eq hb
    have hr := he.2.2 t _ h2
    unfold gtmp at h1
    unfold yielded
    rw [h1]
    cases hr with
    | d hr =>
      generalize hv : a.tmps.getD t undef = v at hr
      cases hr
      simp only [Option.bind_some]
      by_cases hlt : t < a.tmps.size
      · simp [Array.getD, hlt] at hv
        simp [Array.getElem?_eq_getElem hlt, hv]
      · simp [Array.getD, hlt, undef] at hv
  · rename_i hb
    injection h with h
    subst h
    obtain ⟨t, h1, h2⟩ := bind_eq hb
    have hr := he.2.2 t _ h2
    unfold gtmp at h1
    unfold yielded
    rw [h1]
    generalize hv : a.tmps.getD t undef = v at hr
    cases hr
    simp only [Option.bind_some]
    by_cases hlt : t < a.tmps.size
    · simp [Array.getD, hlt] at hv
      simp [Array.getElem?_eq_getElem hlt, hv, undef]
    · have hnone : a.tmps[t]? = none := Array.getElem?_eq_none (Nat.le_of_not_lt hlt)
      rw [hnone]
  · cases h
theorem WOps_ok {x : X} {c : Ctx} {ref : Bool} {ops : Array Oper} {Q : Exit → Act → World → Prop} : ∀ (l : List Oper) (σ : St) (K : St → Prop) (a : Act) (w : World), WOps x c.n ref ops l σ K → Sim c σ a w → (∀ σ' a' w', K σ' → Sim c σ' a' w' → Q .normal a' w') → wpList x.P ops Q l a w
  | [], σ, K, a, w, h, hs, hK => hK _ _ _ h hs
  | o :: r, σ, K, a, w, h, hs, hK => by
    unfold WOps at h
    refine wpList_step fun K' hK' => ?_
    split at h
    · rename_i hg
      rw [if_pos (by simp [Region.wanted, hg])]
      exact WOp_ok h hs fun σ' a' w' h' hs' => hK' _ _ (WOps_ok r σ' K a' w' h' hs' hK)
    · rename_i j want hg
      split at h
      · rename_i b hb
        have hy := yielded_of hs trivial hb
        split at h
        · rename_i e
          subst e
          rw [if_pos (by simp [Region.wanted, hg, hy])]
          exact WOp_ok h hs fun σ' a' w' h' hs' => hK' _ _ (WOps_ok r σ' K a' w' h' hs' hK)
        · rename_i e
          rw [if_neg (by simp [Region.wanted, hg, hy, e])]
          refine hK' _ _ (WOps_ok r _ K _ _ h.2 ?_ hK)
          obtain ⟨μ, L, ow, hi, he⟩ := hs
          have hm : (σ.putO o.dst .un).m = σ.m := by cases o.dst <;> rfl
          refine ⟨μ, L, ow, by rw [hm]; exact hi, ?_⟩
          rw [hm]
          exact he.putO (mm := σ.mem) h.1 .un
      · exact h.elim

/-- What is forgotten: temporaries, and what is owned where no temporary that is kept leads to it. -/
def T.ids : T → List Nat
  | .obj id _ _ => [id]
  | .own id _ => [id]
  | .view id _ _ _ _ => [id]
  | _ => []
def T.flat : T → Bool
  | .tup _ => false
  | _ => true
inductive T.le : T → T → Prop
  | refl (x : T) : T.le x x
  | any (x : T) : T.le x .any
  | d {a b : D} (h : D.le a b) : T.le (.d a) (.d b)
  | own {id : Nat} {xs : List D} {b : D} (h : D.le (.slice xs) b) : T.le (.own id xs) (.d b)
theorem RepT.le {μ : Mu} {L : Loc} {m : Mem} {x y : T} {v : Value} (h : RepT μ L m x v) (hl : T.le x y) : RepT μ L m y v := by
  cases hl with
  | refl => exact h
  | any => exact .any v
  | d hd => cases h with | d h => exact .d (hd _ _ h)
  | own hd => cases h with | own h _ _ _ _ => exact .d (hd _ _ h)
inductive Own.le : Own → Own → Prop
  | refl (o : Own) : Own.le o o
  | box {g : Nat} {cs cs' : List T} (hl : cs'.length = cs.length) (h : ∀ (i : Nat) (x : T), cs'[i]? = some x → ∃ y, cs[i]? = some y ∧ T.le y x) : Own.le (.box g cs) (.box g cs')
theorem Own.le.gen {o o' : Own} (h : Own.le o o') : o'.gen = o.gen := by cases h <;> rfl
def Own.ids : Own → List Nat
  | .box _ cs => cs.flatMap T.ids
  | _ => []
def Own.flat : Own → Bool
  | .box _ cs => cs.all T.flat
  | _ => true
structure St.le (σ σ' : St) : Prop where
  env : ∀ t x, look σ'.env t = some x → ∃ y, look σ.env t = some y ∧ T.le y x ∧ x.flat = true ∧ ∀ i ∈ x.ids, isSome' (look σ'.mem i) = true
  mem : ∀ i o, look σ'.mem i = some o → ∃ o0, look σ.mem i = some o0 ∧ Own.le o0 o ∧ o.flat = true ∧ ∀ j ∈ o.ids, isSome' (look σ'.mem j) = true
  top : ∀ i, 900000 ≤ i → isSome' (look σ.mem i) = true → isSome' (look σ'.mem i) = true
theorem Sim.le {c : Ctx} {σ σ' : St} {a : Act} {w : World} (h : Sim c σ a w) (hl : St.le σ σ') : Sim c σ' a w := by
  obtain ⟨μ, L, ow, hi, he⟩ := h
  have key : ∀ i, isSome' (look σ'.mem i) = true → ∀ o, σ.m i = some o → ∃ o', σ'.m i = some o' ∧ Own.le o o' := by
    intro i hi o ho
    cases hq : look σ'.mem i with
    | none => rw [hq] at hi; cases hi
    | some o' =>
      obtain ⟨o0, h1, h2, _⟩ := hl.mem i o' hq
      rw [show look σ.mem i = σ.m i from rfl, ho] at h1
      injection h1 with h1
      subst h1
      exact ⟨o', hq, h2⟩
  have tokkey : ∀ {e sz n : Nat} {o' : Own}, Own.le (.tok e sz n) o' → o' = .tok e sz n := by
    intro e sz n o' q; cases q; rfl
  have hrep : ∀ x v, RepT μ L σ.m x v → x.flat = true → (∀ i ∈ x.ids, isSome' (look σ'.mem i) = true) → RepT μ L σ'.m x v := by
    intro x v hx hfl hids
    cases hx with
    | d h => exact .d h
    | obj h hg hle hA =>
      obtain ⟨o', h1, h2⟩ := key _ (hids _ (by simp [T.ids])) _ h
      exact .obj h1 (by rw [h2.gen]; exact hg) hle hA
    | own h1 h2 h3 h4 h5 =>
      obtain ⟨o', q1, q2⟩ := key _ (hids _ (by simp [T.ids])) _ h2
      rw [tokkey q2] at q1
      exact .own h1 q1 h3 h4 h5
    | view h hg hle hA =>
      obtain ⟨o', h1, h2⟩ := key _ (hids _ (by simp [T.ids])) _ h
      exact .view h1 (by rw [h2.gen]; exact hg) hle hA
    | tup h1 h2 => cases hfl
    | anyb b => exact .anyb b
    | un => exact .un
    | any v => exact .any v
  refine ⟨μ, L, fun b => (ow b).bind fun id => if isSome' (look σ'.mem id) then some id else none, ⟨hi.fr, hi.mu, hi.mu0, hi.muNew, ?_, ?_, ?_, ?_, ?_⟩, ⟨he.1.1, ?_⟩, he.2.1, fun t x hx => ?_⟩
  · intro q v hq id ho
    obtain ⟨id', h1, h2⟩ := bind_eq ho
    split at h2
    · rename_i hk
      injection h2 with h2
      subst h2
      obtain ⟨e, sz, n, h3, h4⟩ := hi.muOwn q v hq _ h1
      obtain ⟨o', q1, q2⟩ := key _ hk _ h3
      rw [tokkey q2] at q1
      exact ⟨e, sz, n, q1, h4⟩
    · cases h2
  · intro b id ho
    obtain ⟨id', h1, h2⟩ := bind_eq ho
    split at h2
    · injection h2 with h2; subst h2; exact hi.own b _ h1
    · cases h2
  · intro id g cs' hm
    obtain ⟨o0, k1, k2, k3, k4⟩ := hl.mem id _ hm
    have : ∃ cs, o0 = .box g cs ∧ cs'.length = cs.length ∧ ∀ (i : Nat) (x : T), cs'[i]? = some x → ∃ y, cs[i]? = some y ∧ T.le y x := by
      cases k2 with
      | refl => exact ⟨cs', rfl, rfl, fun i x hx => ⟨x, hx, .refl x⟩⟩
      | box hl h => exact ⟨_, rfl, hl, h⟩
    obtain ⟨cs, rfl, hlen, hpt⟩ := this
    obtain ⟨ho, vs, e, h1, h2, hroom, h3⟩ := hi.box id g cs k1
    refine ⟨by simp [ho, show look σ'.mem id = some (.box g cs') from hm, isSome'], vs, e, h1, by omega, hroom, fun i y hy => ?_⟩
    obtain ⟨z, q1, q2⟩ := hpt i y hy
    obtain ⟨v, h4, h5, h6⟩ := h3 i z q1
    refine ⟨v, h4, h5, hrep _ _ (h6.le q2) ?_ fun j hj => k4 j ?_⟩
    · exact (List.all_eq_true.1 k3) y (List.mem_of_getElem? hy)
    · exact List.mem_flatMap.2 ⟨y, List.mem_of_getElem? hy, hj⟩
  · intro id e sz n hm
    obtain ⟨o0, k1, k2, _⟩ := hl.mem id _ hm
    have : o0 = .tok e sz n := by cases k2; rfl
    subst this
    obtain ⟨h0, h1, h2⟩ := hi.tok id e sz n k1
    exact ⟨h0, h1, fun b hb => ⟨by simp [(h2 b hb).1, show look σ'.mem id = some (.tok e sz n) from hm, isSome'], (h2 b hb).2⟩⟩
  · intro id g cs hm
    obtain ⟨o0, k1, k2, _⟩ := hl.mem id _ hm
    have : o0 = .froz g cs := by cases k2; rfl
    subst this
    exact hi.froz id g cs k1
  · intro id b r hb
    obtain ⟨h1, o, h2, h3⟩ := he.1.2 id b r hb
    obtain ⟨o', q1, q2⟩ := key id (hl.top id h1 (by rw [show look σ.mem id = σ.m id from rfl, h2]; rfl)) o h2
    exact ⟨h1, o', q1, by rw [q2.gen]; exact h3⟩
  · obtain ⟨y, h1, h2, h3, h4⟩ := hl.env t x hx
    exact hrep _ _ ((he.2.2 t y h1).le h2) h3 h4

/-! ### Only some things are kept -/
def lowT (kp : Nat → Bool) : T → T
  | .d x => .d x
  | .own id xs => if kp id then .own id xs else .d (.slice xs)
  | .obj id g off => if kp id then .obj id g off else .any
  | .view id g sz off n => if kp id then .view id g sz off n else .any
  | .tup _ => .any
  | .anyb => .anyb
  | .un => .un
  | .any => .any
theorem lowT_le (kp : Nat → Bool) (x : T) : T.le x (lowT kp x) := by
  cases x <;> simp only [lowT]
  case d => exact .refl _
  case own => split; exact .refl _; exact .own (D.le_refl _)
  case obj => split; exact .refl _; exact .any _
  case view => split; exact .refl _; exact .any _
  case tup => exact .any _
  case anyb => exact .refl _
  case un => exact .refl _
  case any => exact .refl _
theorem lowT_flat (kp : Nat → Bool) (x : T) : (lowT kp x).flat = true := by
  cases x <;> simp only [lowT] <;> (try split) <;> rfl
theorem lowT_ids (kp : Nat → Bool) (x : T) : ∀ i ∈ (lowT kp x).ids, kp i = true := by
  cases x <;> simp only [lowT] <;> (try split) <;> simp [T.ids] <;> assumption
def lowO (kp : Nat → Bool) : Own → Own
  | .box g cs => .box g (cs.map (lowT kp))
  | o => o
def St.kp (σ : St) (ids : List Nat) (i : Nat) : Bool := ids.contains i && isSome' (look σ.mem i)
def St.keep (σ : St) (ts ids : List Nat) : St := ⟨ts.filterMap fun t => (look σ.env t).map fun x => (t, lowT (σ.kp ids) x), ids.filterMap fun i => (look σ.mem i).map fun o => (i, lowO (σ.kp ids) o)⟩
theorem look_keep {α β : Type} (l : List (Nat × α)) (f : α → β) : ∀ (ts : List Nat) (t : Nat), look (ts.filterMap fun t => (look l t).map fun x => (t, f x)) t = if t ∈ ts then (look l t).map f else none
  | [], t => by simp [look]
  | s :: ts, t => by
    rw [List.filterMap_cons]
    cases hs : look l s with
    | none =>
      simp only [Option.map_none]
      rw [look_keep l f ts t]
      by_cases h : t = s
      · subst h; simp [hs]
      · simp [h]
    | some x =>
      simp only [Option.map_some]
      rw [look_cons]
      by_cases h : s = t
      · subst h; simp [hs]
      · have : ¬ t = s := fun q => h q.symm
        rw [if_neg h, look_keep l f ts t]
        simp [this]
theorem St.keep_le (σ : St) (ts ids : List Nat) (h : σ.mem.all (fun p => decide (p.1 < 900000) || ids.contains p.1) = true) : St.le σ (σ.keep ts ids) := by
  have hmem : ∀ i, look (σ.keep ts ids).mem i = if i ∈ ids then (look σ.mem i).map (lowO (σ.kp ids)) else none := look_keep _ _ _
  have henv : ∀ t, look (σ.keep ts ids).env t = if t ∈ ts then (look σ.env t).map (lowT (σ.kp ids)) else none := look_keep _ _ _
  have hk : ∀ i, σ.kp ids i = true → isSome' (look (σ.keep ts ids).mem i) = true := by
    intro i hi
    unfold St.kp at hi
    rw [Bool.and_eq_true] at hi
    rw [hmem, if_pos (by simpa using hi.1)]
    cases hq : look σ.mem i with
    | none => rw [hq] at hi; cases hi.2
    | some o => rfl
  refine ⟨fun t x hx => ?_, fun i o ho => ?_, fun i hi hs => ?_⟩
  · rw [henv] at hx
    split at hx
    · obtain ⟨y, h1, h2⟩ := map_eq hx
      subst h2
      exact ⟨y, h1, lowT_le _ _, lowT_flat _ _, fun j hj => hk j (lowT_ids _ _ j hj)⟩
    · cases hx
  · rw [hmem] at ho
    split at ho
    · obtain ⟨y, h1, h2⟩ := map_eq ho
      subst h2
      refine ⟨y, h1, ?_, ?_, ?_⟩
      · cases y <;> simp only [lowO]
        case box g cs =>
          refine .box (by simp) fun j x hx => ?_
          rw [List.getElem?_map] at hx
          cases hq : cs[j]? with
          | none => rw [hq] at hx; cases hx
          | some z => rw [hq] at hx; simp at hx; subst hx; exact ⟨z, rfl, lowT_le _ _⟩
        all_goals exact .refl _
      · cases y <;> simp [lowO, Own.flat, lowT_flat]
      · intro j hj
        cases y <;> simp only [lowO, Own.ids] at hj <;> try (simp at hj; done)
        obtain ⟨z, hz, hj⟩ := List.mem_flatMap.1 hj
        obtain ⟨q, _, rfl⟩ := List.mem_map.1 hz
        exact hk j (lowT_ids _ _ j hj)
    · cases ho
  · cases hq : look σ.mem i with
    | none => rw [hq] at hs; cases hs
    | some o =>
      have := List.all_eq_true.1 h _ (look_mem hq)
      simp only [Bool.or_eq_true, decide_eq_true_eq] at this
      rw [hmem, if_pos (by rcases this with h1 | h1; omega; simpa using h1), hq]
      rfl

/-! ### What is frozen -/
theorem EnvOK.more {c : Ctx} {μ : Mu} {L : Loc} {m : Mem} {env : List (Nat × T)} {a : Act} (h : EnvOK c μ L m env a) {t : Nat} {x : T} (hx : RepT μ L m x (a.tmps.getD t undef)) : EnvOK c μ L m ((t, x) :: env) a := by
  refine ⟨h.1, h.2.1, fun s y hy => ?_⟩
  rw [look_cons] at hy
  split at hy
  · rename_i e
    subst e
    injection hy with hy
    subst hy
    exact hx
  · exact h.2.2 s y hy
theorem allD_get : ∀ {cs : List T} {ds : List D}, allD cs = some ds → ∀ (i : Nat) (x : T), cs[i]? = some x → ∃ y, unD1 x = some y ∧ ds[i]? = some y
  | [], ds, h, i, x, hx => by simp at hx
  | z :: zs, ds, h, i, x, hx => by
    unfold allD at h
    split at h
    · rename_i y ys h1 h2
      injection h with h
      subst h
      cases i with
      | zero => simp at hx; subst hx; exact ⟨y, h1, rfl⟩
      | succ i => simpa using allD_get h2 i x (by simpa using hx)
    · cases h
theorem Sim.freeze {c : Ctx} {σ : St} {a : Act} {w : World} (h : Sim c σ a w) (hS : ∀ b, ¬ c.S b) {t id g : Nat} {cs : List T} {ds : List D} (ht : look σ.env t = some (.obj id g 0)) (hm : look σ.mem id = some (.box g cs)) (hd : allD cs = some ds) :
    Sim c ((σ.set id (.froz g ds)).put t (.d (.ptr ds))) a w := by
  obtain ⟨μ, L, ow, hi, he⟩ := h
  obtain ⟨μ', ow', hi', hle, hst⟩ := hi.freeze hS (show σ.m id = _ from hm) (allD_length hd) (allD_get hd)
  have hm2 : (σ.set id (.froz g ds)).m = setM σ.m id (.froz g ds) := look_set _ _ _
  have he' := he.mono hle hst
  rw [← hm2] at hi' he'
  refine ⟨μ', L, ow', hi', he'.more (.d ?_)⟩
  have := he'.2.2 t _ ht
  have hp := froz_ptr hi' this (cs := ds) (by rw [hm2]; exact setM_self _ _ _) (Nat.zero_le _)
  simpa using hp
theorem Sim.close {c : Ctx} {σ : St} {a : Act} {w : World} (h : Sim c σ a w) (hS : ∀ b, ¬ c.S b) {t id g sz : Nat} {cs : List T} {xs : List D} (ht : look σ.env t = some (.view id g sz 0 xs.length)) (hm : look σ.mem id = some (.box g cs)) (hd : allD cs = some (xs.flatMap D.cells)) (hs : ∀ x ∈ xs, x.sz = sz) :
    Sim c ((σ.set id (.froz g (xs.flatMap D.cells))).put t (.d (.slice xs))) a w := by
  obtain ⟨μ, L, ow, hi, he⟩ := h
  obtain ⟨μ', ow', hi', hle, hst⟩ := hi.freeze hS (show σ.m id = _ from hm) (allD_length hd) (allD_get hd)
  have hm2 : (σ.set id (.froz g (xs.flatMap D.cells))).m = setM σ.m id (.froz g (xs.flatMap D.cells)) := look_set _ _ _
  have he' := he.mono hle hst
  rw [← hm2] at hi' he'
  refine ⟨μ', L, ow', hi', he'.more (.d ?_)⟩
  exact seal_view hi' (he'.2.2 t _ ht) (by rw [hm2]; exact setM_self _ _ _) hs rfl
/-- Steps that the machine does not see. -/
inductive Gh (refs : Bool) : St → St → Prop
  | refl (σ : St) : Gh refs σ σ
  | le {σ σ' : St} (h : St.le σ σ') : Gh refs σ σ'
  | freeze {σ : St} {t id g : Nat} {cs : List T} {ds : List D} (hr : refs = false) (ht : look σ.env t = some (.obj id g 0)) (hm : look σ.mem id = some (.box g cs)) (hd : allD cs = some ds) : Gh refs σ ((σ.set id (.froz g ds)).put t (.d (.ptr ds)))
  | close {σ : St} {t id g sz : Nat} {cs : List T} {xs : List D} (hr : refs = false) (ht : look σ.env t = some (.view id g sz 0 xs.length)) (hm : look σ.mem id = some (.box g cs)) (hd : allD cs = some (xs.flatMap D.cells)) (hs : ∀ x ∈ xs, x.sz = sz) : Gh refs σ ((σ.set id (.froz g (xs.flatMap D.cells))).put t (.d (.slice xs)))
  | trans {σ σ' σ'' : St} (h : Gh refs σ σ') (k : Gh refs σ' σ'') : Gh refs σ σ''
theorem Sim.gh {c : Ctx} {refs : Bool} {σ σ' : St} {a : Act} {w : World} (hS : refs = false → ∀ b, ¬ c.S b) (hg : Gh refs σ σ') (h : Sim c σ a w) : Sim c σ' a w := by
  induction hg with
  | refl => exact h
  | le hl => exact h.le hl
  | freeze hr ht hm hd => exact h.freeze (hS hr) ht hm hd
  | close hr ht hm hd hs => exact h.close (hS hr) ht hm hd hs
  | trans _ _ ih1 ih2 => exact ih2 (ih1 h)
end Go.Pm
