/- The abstract machine 'Pm', part V2: contracts of functions that write what they are handed. -/
import Derived.Test.YtnkknmdpakebhaaPmV
set_option linter.unusedSimpArgs false
set_option linter.unusedVariables false
namespace Go.Pm
open Go.RowKit

def A.t : A → T
  | .d x => .d x
  | .obj k off => .obj (oid k) 0 off
  | .view k sz off n => .view (oid k) 0 sz off n
def envA : Nat → List A → List (Nat × T)
  | _, [] => []
  | k, y :: ys => (k, y.t) :: envA (k + 1) ys
def memOf : Nat → List (List D) → List (Nat × Own)
  | _, [] => []
  | k, cs :: css => (oid k, .box 0 (cs.map .d)) :: memOf (k + 1) css
theorem look_memOf : ∀ (css : List (List D)) (k id : Nat) (o : Own), look (memOf k css) id = some o → ∃ j cs, id = oid (k + j) ∧ css[j]? = some cs ∧ o = .box 0 (cs.map .d)
  | [], k, id, o, h => by simp [memOf, look] at h
  | cs :: css, k, id, o, h => by
    rw [memOf, look_cons] at h
    split at h
    · rename_i e
      injection h with h
      exact ⟨0, cs, e.symm, rfl, h.symm⟩
    · obtain ⟨j, cs', h1, h2, h3⟩ := look_memOf css (k + 1) id o h
      exact ⟨j + 1, cs', by rw [h1]; congr 1; omega, by simpa using h2, h3⟩
theorem memOf_at : ∀ (css : List (List D)) (k j : Nat) (cs : List D), css[j]? = some cs → look (memOf k css) (oid (k + j)) = some (.box 0 (cs.map .d))
  | [], k, j, cs, h => by simp at h
  | c :: css, k, 0, cs, h => by
    simp at h; subst h
    rw [memOf, look_cons, Nat.add_zero, if_pos rfl]
  | c :: css, k, j + 1, cs, h => by
    rw [memOf, look_cons, if_neg (by simp [oid]), show k + (j + 1) = (k + 1) + j by omega]
    exact memOf_at css (k + 1) j cs (by simpa using h)
theorem look_envA : ∀ (l : List A) (k t : Nat) (y : T), look (envA k l) t = some y → ∃ j d, t = k + j ∧ l[j]? = some d ∧ y = d.t
  | [], k, t, y, h => by simp [envA, look] at h
  | a :: l, k, t, y, h => by
    rw [envA, look_cons] at h
    split at h
    · rename_i e
      injection h with h
      exact ⟨0, a, by omega, rfl, h.symm⟩
    · obtain ⟨j, d, h1, h2, h3⟩ := look_envA l (k + 1) t y h
      exact ⟨j + 1, d, by omega, by simpa using h2, h3⟩
/-- What is answered. -/
def resR (m : Mem) : T → Option R
  | .d x => some (.d x)
  | .own _ xs => some (.d (.slice xs))
  | .view id g sz 0 n => match m id with
    | some (.box g' cs) => if g' = g ∧ id < 900000 then (allD cs).map (R.fresh sz n) else none
    | _ => none
  | _ => none
def resOfR (x : X) (σ : St) : List ResultVar → Option (List R)
  | [] => some []
  | .tmp t :: r => match (look σ.env t).bind (resR σ.m), resOfR x σ r with
    | some y, some ys => some (y :: ys)
    | _, _ => none
  | .cell t ty :: r => match x.tab ty, look σ.env t, resOfR x σ r with
    | some i, some (.obj id g off), some ys => match σ.m id with
      | some (.box g' cs) => if g' = g then match (ldT (cs.drop off) i).bind (resR σ.m) with
        | some y => some (y :: ys)
        | none => none else none
      | _ => none
    | _, _, _ => none
def objsAt (m : Mem) : Nat → Nat → Option (List (List D))
  | _, 0 => some []
  | k, n + 1 => match m (oid k) with
    | some (.box 0 ts) => match allD ts, objsAt m (k + 1) n with
      | some cs, some css => some (cs :: css)
      | _, _ => none
    | _ => none
theorem objsAt_get (m : Mem) : ∀ (n k : Nat) (css : List (List D)), objsAt m k n = some css → css.length = n ∧ ∀ (j : Nat) (cs : List D), css[j]? = some cs → ∃ ts, m (oid (k + j)) = some (.box 0 ts) ∧ allD ts = some cs
  | 0, k, css, h => by simp only [objsAt, Option.some.injEq] at h; subst h; simp
  | n + 1, k, css, h => by
    unfold objsAt at h
    split at h
    · rename_i ts hm
      split at h
      · rename_i cs css' h1 h2
        injection h with h
        subst h
        obtain ⟨g1, g2⟩ := objsAt_get m n (k + 1) css' h2
        refine ⟨by simp [g1], fun j c hj => ?_⟩
        cases j with
        | zero => simp at hj; subst hj; exact ⟨ts, hm, h1⟩
        | succ j =>
          have := g2 j c (by simpa using hj)
          rwa [show k + 1 + j = k + (j + 1) by omega] at this
      · cases h
    · cases h
inductive LeR : List R → List R → Prop
  | nil : LeR [] []
  | d {x y : D} {xs ys : List R} (h : D.le x y) (t : LeR xs ys) : LeR (.d x :: xs) (.d y :: ys)
  | same (x : R) {xs ys : List R} (t : LeR xs ys) : LeR (x :: xs) (x :: ys)
theorem LeR.refl : ∀ xs : List R, LeR xs xs
  | [] => .nil
  | x :: xs => .same x (LeR.refl xs)
theorem RepRs.le {w0 w : World} {μ : Mu} {xs ys : List R} {vs : List Value} (h : RepRs w0 w μ xs vs) (hl : LeR xs ys) : RepRs w0 w μ ys vs := by
  induction hl generalizing vs with
  | nil => exact h
  | d h1 t ih =>
    cases h with
    | cons h2 t2 =>
      cases h2 with
      | d h2 => exact .cons (.d (h1 _ _ h2)) (ih t2)
  | same x t ih =>
    cases h with
    | cons h2 t2 => exact .cons h2 (ih t2)
def DoneR (x : X) (fn : Func) (n : Nat) (rs : List R) (css' : List (List D)) (e : Exit) (σ : St) : Prop :=
  (e = .normal ∨ e = .ret) ∧ (∃ ys, resOfR x σ fn.results.toList = some ys ∧ LeR ys rs) ∧ objsAt σ.m 0 n = some css'

section
variable {x : X} {c : Ctx} {σ : St} {a : Act} {w : World} {μ : Mu} {L : Loc} {ow : Nat → Option Nat}
/-- Blocks that were made. -/
def Made (c : Ctx) (σ : St) (L : Loc) : Prop := ∀ id g cs, id < 900000 → σ.m id = some (.box g cs) → c.w0.heap.size ≤ L.blk id
theorem resR_ok (hi : Inv c σ.m μ L ow w) (hmade : Made c σ L) {t : T} {v : Value} (ht : RepT μ L σ.m t v) {y : R} (hy : resR σ.m t = some y) : RepR1 c.w0 w μ y v := by
  unfold resR at hy
  split at hy
  · injection hy with hy; subst hy; cases ht; exact .d ‹_›
  · injection hy with hy; subst hy; exact .d (own_slice ht)
  · rename_i id g sz n
    split at hy
    · rename_i g' cs hm
      split at hy
      · rename_i hc
        obtain ⟨rfl, hid⟩ := hc
        obtain ⟨ds, h1, h2⟩ := map_eq hy
        subst h2
        cases ht with
        | view h0 hg hle hA =>
          rw [hm] at h0
          injection h0 with h0
          subst h0
          cases hg
          obtain ⟨hAA, q2, q3, q4⟩ := hA rfl
          obtain ⟨ho, vs, e, hh, hs, hroom, hv⟩ := hi.box id g' cs hm
          rename_i cap A
          have hcells : ∀ (i : Nat) (x : D), ds[i]? = some x → ∃ v, vs[i]? = some v ∧ v.oneCell' = true ∧ RepD μ x v := fun i x hx => by
            obtain ⟨r, hr, hg⟩ := allD_rep (vs := vs) (o := 0) h1 fun i z hz => by rw [Nat.zero_add]; exact hv i z hz
            obtain ⟨u, k1, k2, k3⟩ := hr.get i x hx
            exact ⟨u, by have := hg i u k1; rwa [Nat.zero_add] at this, k3, k2⟩
          have hoff : ∀ a v, μ a = some v → a.block ≠ L.blk id := fun a v ha e => by
            obtain ⟨e', sz, n, hm', _⟩ := hi.muOwn a v ha id (by rw [e]; exact ho)
            rw [hm] at hm'; cases hm'
          exact .fresh hAA (hmade id g' cs hid hm) hoff hh (by rw [allD_length h1]; exact hs) (by rw [hroom]; simpa using q2) q3 q4 hcells
      · cases hy
    · cases hy
  · cases hy
theorem resOfR_ok (hi : Inv c σ.m μ L ow w) (he : EnvOK c μ L σ.m σ.env a) (hmade : Made c σ L) : ∀ (l : List ResultVar) (rs : List R), resOfR x σ l = some rs →
    ∃ vs, (l.mapM (resM a)).run x.P w = .ok vs w ∧ RepRs c.w0 w μ rs vs
  | [], rs, h => by simp [resOfR] at h; subst h; exact ⟨[], by simp, .nil⟩
  | .tmp t :: r, rs, h => by
    unfold resOfR at h
    split at h
    · rename_i y ys hy hys
      injection h with h
      subst h
      obtain ⟨vs, h1, h2⟩ := resOfR_ok hi he hmade r ys hys
      obtain ⟨q, h3, h4⟩ := bind_eq hy
      exact ⟨a.tmps.getD t undef :: vs, by simp [List.mapM_cons, resM, h1], .cons (resR_ok hi hmade (he.2.2 t q h3) h4) h2⟩
    · cases h
  | .cell t ty :: r, rs, h => by
    unfold resOfR at h
    split at h
    · rename_i i id g off ys ht hl hys
      split at h
      · rename_i g' cs hm
        split at h
        case isFalse => cases h
        rename_i hgg
        subst hgg
        split at h
        · rename_i y hy
          injection h with h
          subst h
          obtain ⟨vs, h1, h2⟩ := resOfR_ok hi he hmade r ys hys
          obtain ⟨q, h3, h4⟩ := bind_eq hy
          have hr := he.2.2 t _ hl
          obtain ⟨v, hrun, hq⟩ := run_loadO (P := x.P) hi (x.ok _ _ ht) hr hm h3
          refine ⟨v :: vs, ?_, .cons (resR_ok hi hmade hq h4) h2⟩
          generalize hv : a.tmps.getD t undef = tv at hr hrun
          have hp : ∃ A, tv = .pointer (some A) := by cases hr; exact ⟨_, rfl⟩
          obtain ⟨A, rfl⟩ := hp
          simp only [Instr.loadAt, Instr.sureAddr] at hrun
          have hrun' : (loadVar ty A).run x.P w = .ok v w := by simpa using hrun
          have hm1 : (resM a (.cell t ty)).run x.P w = .ok v w := by
            show ((do loadVar ty (← asAddr (a.tmps.getD t undef)) : Sem Value)).run x.P w = _
            rw [hv]
            simp [asAddr, hrun']
          simp [List.mapM_cons, hm1, h1]
        · cases h
      · cases h
    · cases h
theorem resultsR_ok (hi : Inv c σ.m μ L ow w) (he : EnvOK c μ L σ.m σ.env a) (hmade : Made c σ L) (fn : Func) {rs rs' : List R} (h : resOfR x σ fn.results.toList = some rs) (hle : LeR rs rs') :
    ∃ v, (results fn a.tmps).run x.P w = .ok v w ∧ RepRR c.w0 w μ rs' v := by
  obtain ⟨vs, h1, h2⟩ := resOfR_ok hi he hmade _ _ h
  have h2 := h2.le hle
  have hr : (results fn a.tmps).run x.P w = .ok (if h : vs.length = 1 then vs[0] else .tuple vs.toArray) w := by
    have hres : results fn a.tmps = (do let vs ← fn.results.mapM (resM a); pure (if h : vs.size = 1 then vs[0] else .tuple vs) : Sem Value) := by
      unfold results
      congr 1
      all_goals (try (congr 1; funext r; cases r <;> rfl))
    rw [hres]
    have hm : fn.results.mapM (resM a) = (do let l ← fn.results.toList.mapM (resM a); pure l.toArray : Sem (Array Value)) := by
      rw [Array.mapM_eq_mapM_toList]
      rfl
    have hrun : (fn.results.mapM (resM a)).run x.P w = .ok vs.toArray w := by rw [hm]; simp [h1]
    simp [hrun]
  refine ⟨_, hr, ?_⟩
  split
  · rename_i hl
    cases h2 with
    | nil => simp at hl
    | cons h3 t =>
      cases t with
      | nil => exact .one h3
      | cons => simp at hl
  · rename_i hl
    exact .many (by rw [← h2.length]; exact hl) h2
end
/-- A function's contract, by its body. -/
theorem SpecR.of {x : X} {g : FuncId} {fn : Func} {cd : Code} (hf : x.P.funcs[g]? = some fn) (hname : (fn.name == "runtime.NumGoroutine") = false) (hb : fn.body = some cd) {as : List A} {rs : List R} {css css' : List (List D)} (hn : as.length ≤ fn.ntmps) (hrf : x.refs = true ∨ css = [])
    (h : WC x fn.ntmps cd ⟨envA 0 as, memOf 0 css⟩ (DoneR x fn css.length rs css')) : SpecR x.P g as css rs css' := by
  intro w0 μ0 bs rm vs hmu hlt hob hv
  have hlen := hv.length
  refine ⟨?_, ?_⟩
  · have h1 : fn.name ≠ "runtime.NumGoroutine" := by simpa using hname
    simp [callFunc, hf, h1, hb, mark]
  refine calls_of_wp hf hb ?_
  have hbl : ∀ (j : Nat) (cs : List D), css[j]? = some cs → ∃ b r, bs[j]? = some b ∧ rm[j]? = some r := fun j cs hj => by
    have hj' := (List.getElem?_eq_some_iff.1 hj).1
    exact ⟨bs[j]'(by rw [hob.len]; exact hj'), rm[j]'(by rw [hob.rlen]; exact hj'), List.getElem?_eq_getElem _, List.getElem?_eq_getElem _⟩
  have hidx : ∀ (l : List Nat) (j b : Nat), l.Nodup → l[j]? = some b → idx l b = some j := by
    intro l
    induction l with
    | nil => intro j b _ h; simp at h
    | cons i r ih =>
      intro j b hnd h
      rw [List.nodup_cons] at hnd
      cases j with
      | zero => simp at h; subst h; simp [idx]
      | succ j =>
        simp at h
        have : i ≠ b := fun e => by subst e; exact hnd.1 (List.mem_of_getElem? h)
        simp [idx, this, ih j b hnd.2 h]
  let L0 : Loc := ⟨fun id => bs.getD (id - 900000) 0, fun id => rm.getD (id - 900000) 0, fun _ => undef⟩
  let c : Ctx := ⟨w0, μ0, (· ∈ bs), fn.ntmps, fun id => if 900000 ≤ id then (bs[id - 900000]?).bind fun b => (rm[id - 900000]?).map fun r => (b, r) else none⟩
  have hL : ∀ (j b : Nat), bs[j]? = some b → L0.blk (oid j) = b := fun j b hj => by
    show bs.getD (900000 + j - 900000) 0 = b
    rw [Nat.add_sub_cancel_left, List.getD_eq_getElem?_getD, hj]; rfl
  have hR : ∀ (j r : Nat), rm[j]? = some r → L0.room (oid j) = r := fun j b hj => by
    show rm.getD (900000 + j - 900000) 0 = b
    rw [Nat.add_sub_cancel_left, List.getD_eq_getElem?_getD, hj]; rfl
  have hmem : ∀ (j : Nat) (cs : List D), css[j]? = some cs → look (memOf 0 css) (oid j) = some (.box 0 (cs.map .d)) := fun j cs hj => by
    have := memOf_at css 0 j cs hj
    rwa [Nat.zero_add] at this
  have hinv : Inv c (look (memOf 0 css)) μ0 L0 (fun b => (idx bs b).map oid) w0 := by
    refine ⟨Fr.refl _ _, hmu, Mu.le_refl _, fun _ _ h => .inl h, fun a v ha id ho => ?_, fun b id ho => ?_, fun id g' cs hm => ?_, fun id e sz n hm => ?_, fun id g' cs hm => ?_⟩
    · obtain ⟨k, h1, _⟩ := Option.map_eq_some_iff.1 ho
      exact absurd (List.mem_of_getElem? (idx_get h1)) (hob.off a v ha)
    · obtain ⟨k, h1, _⟩ := Option.map_eq_some_iff.1 ho
      have := List.mem_of_getElem? (idx_get h1)
      exact ⟨hlt b this, .inr this⟩
    · obtain ⟨j, cs0, rfl, h2, h3⟩ := look_memOf css 0 id _ hm
      injection h3 with h3 h4
      subst h3 h4
      rw [Nat.zero_add]
      obtain ⟨b, r, hb1, hr1⟩ := hbl j cs0 h2
      obtain ⟨vs', e, k1, k2, k3, k4⟩ := hob.cells j b r cs0 hb1 hr1 h2
      rw [hL j b hb1, hR j r hr1]
      refine ⟨by rw [hidx bs j b hob.nodup hb1]; rfl, vs', e, k1, by simpa using k2, k3, fun i y hy => ?_⟩
      rw [List.getElem?_map] at hy
      cases hq : cs0[i]? with
      | none => rw [hq] at hy; cases hy
      | some z =>
        rw [hq] at hy
        simp at hy
        subst hy
        obtain ⟨v, q1, q2, q3⟩ := k4 i z hq
        exact ⟨v, q1, q2, .d q3⟩
    · obtain ⟨j, cs0, _, _, h3⟩ := look_memOf css 0 id _ hm
      cases h3
    · obtain ⟨j, cs0, _, _, h3⟩ := look_memOf css 0 id _ hm
      cases h3
  have hobk : ObOK c (look (memOf 0 css)) L0 := by
    intro id b r hb'
    simp only [c] at hb'
    split at hb'
    · rename_i hid
      obtain ⟨b', h1, h2⟩ := bind_eq hb'
      obtain ⟨r', h3, h4⟩ := map_eq h2
      cases h4
      refine ⟨hid, ?_⟩
      have hj : id - 900000 < css.length := by rw [← hob.len]; exact (List.getElem?_eq_some_iff.1 h1).1
      have he : id = oid (id - 900000) := by unfold oid; omega
      refine ⟨_, by rw [he]; exact hmem _ _ (List.getElem?_eq_getElem hj), fun _ => ?_⟩
      rw [he]
      exact ⟨hL _ _ h1, hR _ _ h3⟩
    · cases hb'
  have hsim : Sim c ⟨envA 0 as, memOf 0 css⟩ { tmps := vs.toArray ++ Array.replicate (fn.ntmps - vs.toArray.size) undef, defers := [] } w0 := by
    refine ⟨μ0, L0, _, hinv, ⟨rfl, hobk⟩, ?_, ?_⟩
    · simp [c]; omega
    · intro t y hy
      obtain ⟨j, d, h1, h2, rfl⟩ := look_envA as 0 t y hy
      obtain ⟨v, h3, h4⟩ := hv.get j d h2
      have hj := (List.getElem?_eq_some_iff.1 h3).1
      have : t = j := by omega
      subst this
      have e : (vs.toArray ++ Array.replicate (fn.ntmps - vs.toArray.size) undef).getD t undef = v := by
        rw [Array.getD_eq_getD_getElem?, Array.getElem?_append, if_pos (by simpa using hj)]
        simp [h3]
      rw [e]
      cases h4 with
      | d h => exact .d h
      | @obj k off b hb1 =>
        have hk : k < css.length := by rw [← hob.len]; exact (List.getElem?_eq_some_iff.1 hb1).1
        exact .obj (hmem k _ (List.getElem?_eq_getElem hk)) rfl (Nat.le_refl _) fun _ => by rw [hL k b hb1]
      | @view k sz off n b r cap A hb1 hr1 hA p1 p2 p3 =>
        have hk : k < css.length := by rw [← hob.len]; exact (List.getElem?_eq_some_iff.1 hb1).1
        exact .view (hmem k _ (List.getElem?_eq_getElem hk)) rfl (Nat.le_refl _) fun _ => ⟨fun q => by rw [hL k b hb1]; exact hA q, by rw [hR k r hr1]; exact p1, p2, p3⟩
  refine WC_ok (fun hr b hb' => ?_) cd _ _ _ _ _ h hsim fun e σ' a' w' hd hs => ?_
  · rcases hrf with h1 | h1
    · rw [hr] at h1; cases h1
    · have : bs = [] := List.eq_nil_of_length_eq_zero (by rw [hob.len, h1]; rfl)
      simp only [c, this] at hb'
      cases hb'
  obtain ⟨he, ⟨ys, hr, hle⟩, hobj⟩ := hd
  obtain ⟨μ, L, ow, hi, henv⟩ := hs
  obtain ⟨hol, hoat⟩ := objsAt_get _ _ _ _ hobj
  have hfin : ∀ (j b r : Nat), bs[j]? = some b → rm[j]? = some r → ∃ ts cs, css'[j]? = some cs ∧ σ'.m (oid j) = some (.box 0 ts) ∧ allD ts = some cs ∧ L.blk (oid j) = b ∧ L.room (oid j) = r ∧ ow b = some (oid j) := by
    intro j b r hj hjr
    have hlt' : j < css'.length := by rw [hol, ← hob.len]; exact (List.getElem?_eq_some_iff.1 hj).1
    obtain ⟨ts, h1, h2⟩ := hoat j _ (List.getElem?_eq_getElem hlt')
    rw [Nat.zero_add] at h1
    obtain ⟨_, o, h3, h4⟩ := henv.1.2 (oid j) b r (by simp [c, oid, hj, hjr])
    rw [h1] at h3
    injection h3 with h3
    subst h3
    obtain ⟨h5, h6⟩ := h4 rfl
    have := (hi.box _ _ _ h1).1
    rw [h5] at this
    exact ⟨ts, _, List.getElem?_eq_getElem hlt', h1, h2, h5, h6, this⟩
  have hrm : ∀ (j b : Nat), bs[j]? = some b → ∃ r, rm[j]? = some r := fun j b hj => by
    have : j < rm.length := by rw [hob.rlen, ← hob.len]; exact (List.getElem?_eq_some_iff.1 hj).1
    exact ⟨_, List.getElem?_eq_getElem this⟩
  have hown : ∀ b ∈ bs, ∃ j, ow b = some (oid j) ∧ ∃ ts, σ'.m (oid j) = some (.box 0 ts) := fun b hb' => by
    obtain ⟨j, hj⟩ := List.mem_iff_getElem?.1 hb'
    obtain ⟨r, hjr⟩ := hrm j b hj
    obtain ⟨ts, cs, _, h2, _, _, _, h3⟩ := hfin j b r hj hjr
    exact ⟨j, h3, ts, h2⟩
  have hmade : Made c σ' L := by
    intro id g' cs hid hm
    have ho := (hi.box id g' cs hm).1
    rcases (hi.own _ _ ho).2 with h1 | h1
    · exact h1
    · obtain ⟨j, h2, _⟩ := hown _ h1
      rw [ho] at h2
      injection h2 with h2
      simp only [oid] at h2
      omega
  obtain ⟨v, h1, h2⟩ := resultsR_ok (x := x) hi henv hmade fn hr hle
  have hobs : Objs w' μ bs rm css' := by
    refine ⟨by rw [hol, hob.len], by rw [hol, hob.rlen], hob.nodup, fun a v ha hq => ?_, fun k b r cs hk hkr hkc => ?_⟩
    · obtain ⟨j, h3, ts, h4⟩ := hown _ hq
      obtain ⟨e', sz, n, hm', _⟩ := hi.muOwn a v ha _ h3
      rw [h4] at hm'; cases hm'
    · obtain ⟨ts, cs2, k1, k2, k3, k4, k5, k6⟩ := hfin k b r hk hkr
      rw [hkc] at k1
      injection k1 with k1
      subst k1
      obtain ⟨_, vs', e', q1, q2, q3, q4⟩ := hi.box _ _ _ k2
      rw [k4] at q1
      rw [k5] at q3
      refine ⟨vs', e', q1, by rw [allD_length k3]; exact q2, q3, fun i y hy => ?_⟩
      obtain ⟨r', hr', hg⟩ := allD_rep (vs := vs') (o := 0) k3 fun i z hz => by rw [Nat.zero_add]; exact q4 i z hz
      obtain ⟨u, p1, p2, p3⟩ := hr'.get i y hy
      exact ⟨u, by have := hg i u p1; rwa [Nat.zero_add] at this, p3, p2⟩
  have hpost : a'.defers = [] ∧ ∃ v, (results fn a'.tmps).run x.P w' = .ok v w' ∧ LeftR w0 μ0 bs rm rs css' (.returned v) w' :=
    ⟨henv.1.1, v, h1, v, μ, rfl, h2, hi.mu0, hi.mu, hi.muNew, hi.fr, hobs⟩
  rcases he with rfl | rfl
  · exact hpost
  · exact hpost
end Go.Pm
