/- The abstract machine 'Pm', part L: lists of operations; code. -/
import Derived.Test.YtnkknmdpakebhaaPmZ
set_option linter.unusedSimpArgs false
set_option linter.unusedVariables false
namespace Go.Pm
open Go.RowKit

/-! ### Lists of operations -/
structure X where
  P : Program
  tab : Tab
  ok : TabOK P tab
  mixed : P.follows .mixedOrders = true
  refs : Bool
def St.putO (σ : St) : Option Nat → T → St
  | some d, x => σ.put d x
  | none, _ => σ
def St.upd (σ : St) : Upd → St
  | none => σ
  | some (id, o) => σ.set id o
theorem St.upd_m (σ : St) (u : Upd) : (σ.upd u).m = σ.m.upd u := by
  cases u with
  | none => rfl
  | some p => exact look_set _ _ _
theorem St.upd_env (σ : St) (u : Upd) : (σ.upd u).env = σ.env := by cases u <;> rfl
def callOf : Op → Option (Operand × List Operand)
  | .call cl => match cl.callee with
    | .value f => some (f, cl.args.toList)
    | _ => none
  | _ => none
def gtmp (ops : Array Oper) (j : Nat) : Option Tmp := (ops[j]?).bind (·.dst)
/-- Arguments, some of which lead to what may be written. -/
def argA (m : Mem) (ids : List Nat) : T → Option A
  | .d x => some (.d x)
  | .own _ xs => some (.d (.slice xs))
  | .obj id g off => match m id, idx ids id with
    | some (.box g' _), some k => if g' = g then some (.obj k off) else none
    | _, _ => none
  | .view id g sz off n => match m id, idx ids id with
    | some (.box g' _), some k => if g' = g then some (.view k sz off n) else none
    | _, _ => none
  | _ => none
def argsA (m : Mem) (ids : List Nat) (ρ : Operand → Option T) : List Operand → Option (List A)
  | [] => some []
  | x :: xs => match (ρ x).bind (argA m ids), argsA m ids ρ xs with
    | some y, some ys => some (y :: ys)
    | _, _ => none
inductive LeA : List A → List A → Prop
  | nil : LeA [] []
  | d {x y : D} {xs ys : List A} (h : D.le x y) (t : LeA xs ys) : LeA (.d x :: xs) (.d y :: ys)
  | same (x : A) {xs ys : List A} (t : LeA xs ys) : LeA (x :: xs) (x :: ys)
theorem LeA.refl : ∀ xs : List A, LeA xs xs
  | [] => .nil
  | x :: xs => .same x (LeA.refl xs)
theorem RepAs.le {μ : Mu} {bs rm : List Nat} {xs ys : List A} {vs : List Value} (h : RepAs μ bs rm xs vs) (hl : LeA xs ys) : RepAs μ bs rm ys vs := by
  induction hl generalizing vs with
  | nil => exact h
  | d h1 t ih =>
    cases h with
    | cons h2 t2 =>
      cases h2 with
      | d h2 => exact .cons (.d (h1 _ _ h2)) (ih t2)
  | same x t ih =>
    cases h with
    | cons h2 t2 => exact .cons h2 (ih t2)
def boxesOf (m : Mem) : List Nat → Option (List (List D))
  | [] => some []
  | id :: ids => match m id with
    | some (.box _ cs) => match allD cs, boxesOf m ids with
      | some ds, some css => some (ds :: css)
      | _, _ => none
    | _ => none
def freshOf : List R → List (List D)
  | [] => []
  | .d _ :: r => freshOf r
  | .fresh _ _ cs :: r => cs :: freshOf r
def R.t (d : Nat) : R → T
  | .d x => .d x
  | .fresh sz n _ => .view d 0 sz 0 n
def resTR (d : Nat) : List R → T
  | [x] => x.t d
  | xs => .tup (xs.map (R.t d))
def updBL (m0 : Mem) (l : List (Nat × Own)) : List Nat → List (List D) → List (Nat × Own)
  | id :: ids, cs :: css => (id, boxWith m0 id cs) :: updBL m0 l ids css
  | _, _ => l
theorem look_updBL (m0 : Mem) (l : List (Nat × Own)) : ∀ (ids : List Nat) (css : List (List D)), look (updBL m0 l ids css) = updB m0 (look l) ids css
  | id :: ids, cs :: css => by rw [updBL, look_set, look_updBL m0 l ids css, updB]
  | [], _ => by simp [updBL, updB]
  | _ :: _, [] => by simp [updBL, updB]
def frU (d : Nat) (l : List (Nat × Own)) : List (List D) → List (Nat × Own)
  | cs :: _ => (d, .box 0 (cs.map .d)) :: l
  | [] => l
/-- The state behind a call of a function that writes. -/
def St.after (σ : St) (ids : List Nat) (css' : List (List D)) (rs : List R) (dst : Option Nat) : St :=
  (⟨σ.env, frU (dst.getD 0) (updBL σ.m σ.mem ids css') (freshOf rs)⟩ : St).putO dst (resTR (dst.getD 0) rs)
/-- A call of a function that writes what it is handed, or makes what is written later. -/
def WRef (x : X) (N : Nat) (dst : Option Nat) (f : Operand) (args : List Operand) (σ : St) (K : St → Prop) : Prop :=
  ∃ g caps as zs ids css rs css', σ.ev f = some (.d (.fn g caps)) ∧ argsA σ.m ids σ.ev args = some as ∧ LeA (as ++ caps.map .d) zs ∧ boxesOf σ.m ids = some css ∧ ids.Nodup ∧ SpecR x.P g zs css rs css' ∧
    (dst.all (· < N) = true) ∧ (freshOf rs = [] ∨ (freshOf rs).length = 1 ∧ dst.isSome = true ∧ σ.m (dst.getD 0) = none) ∧ K (σ.after ids css' rs dst)
/-- One operation that is carried out. -/
def WOp (x : X) (N : Nat) (ref : Bool) (o : Oper) (σ : St) (K : St → Prop) : Prop :=
  match callOf o.op with
  | some (f, args) => (∃ g caps ys zs rs, σ.ev f = some (.d (.fn g caps)) ∧ allT σ.ev args = some ys ∧ LeL (ys ++ caps) zs ∧ Spec x.P g zs rs ∧ (o.dst.all (· < N) = true) ∧ K (σ.putO o.dst (resT rs))) ∨
    (ref = true ∧ WRef x N o.dst f args σ K)
  | none => match evOp x.tab σ.ev σ.m (o.dst.getD 0) o.op with
    | some (some y, u) => (o.dst.all (· < N) = true) ∧ K ((σ.upd u).putO o.dst y)
    | some (none, u) => o.dst = none ∧ K (σ.upd u)
    | none => ref = true ∧ match evX x.tab σ.ev σ.m (o.dst.getD 0) o.op with
      | some (y, u) => (o.dst.all (· < N) = true) ∧ K ((σ.upd u).putO o.dst y)
      | none => False
/-- What a guard finds. -/
def gvalT : Option T → Option (Option Bool)
  | some (.d (.bool b)) => some (some b)
  | some .un => some none
  | _ => none
def gval (ops : Array Oper) (env : List (Nat × T)) (j : Nat) : Option (Option Bool) := gvalT ((gtmp ops j).bind (look env))
def WOps (x : X) (N : Nat) (ref : Bool) (ops : Array Oper) : List Oper → St → (St → Prop) → Prop
  | [], σ, K => K σ
  | o :: r, σ, K => match o.guard with
    | none => WOp x N ref o σ fun σ' => WOps x N ref ops r σ' K
    | some (j, want) => match gval ops σ.env j with
      | some y => if y = some want then WOp x N ref o σ fun σ' => WOps x N ref ops r σ' K else o.dst.all (· < N) = true ∧ WOps x N ref ops r (σ.putO o.dst .un) K
      | none => False

theorem EnvOK.putO {c : Ctx} {μ : Mu} {L : Loc} {m : Mem} {env : List (Nat × T)} {mm : List (Nat × Own)} {a : Act} (h : EnvOK c μ L m env a) {d : Option Nat} (hd : d.all (· < c.n) = true) {x : T} {v : Value} (hv : RepT μ L m x v) : EnvOK c μ L m ((⟨env, mm⟩ : St).putO d x).env (a.put d v) := by
  cases d with
  | none => exact h
  | some d => exact h.put (by simpa using hd) hv

section
variable {c : Ctx} {m : Mem} {μ : Mu} {L : Loc} {ow : Nat → Option Nat} {w : World}
theorem argA_rep (h : Inv c m μ L ow w) {ids : List Nat} {t : T} {v : Value} (ht : RepT μ L m t v) {y : A} (hy : argA m ids t = some y) : RepA μ (ids.map L.blk) (ids.map L.room) y v := by
  unfold argA at hy
  split at hy
  · injection hy with hy; subst hy; cases ht; exact .d ‹_›
  · injection hy with hy; subst hy; exact .d (own_slice ht)
  · rename_i id g off
    split at hy
    · rename_i g' cs k hm hk
      split at hy
      · rename_i hg
        subst hg
        injection hy with hy
        subst hy
        cases ht with
        | obj h0 hg hle hA =>
          rw [hm] at h0
          injection h0 with h0
          subst h0
          cases hg
          rw [hA rfl]
          exact .obj (by simp [idx_get hk])
      · cases hy
    · cases hy
  · rename_i id g sz off n
    split at hy
    · rename_i g' cs k hm hk
      split at hy
      · rename_i hg
        subst hg
        injection hy with hy
        subst hy
        cases ht with
        | view h0 hg hle hA =>
          rw [hm] at h0
          injection h0 with h0
          subst h0
          cases hg
          obtain ⟨q1, q2, q3, q4⟩ := hA rfl
          exact .view (b := L.blk id) (r := L.room id) (by simp [idx_get hk]) (by simp [idx_get hk]) q1 q2 q3 q4
      · cases hy
    · cases hy
  · cases hy
theorem argsA_rep (h : Inv c m μ L ow w) {ids : List Nat} {ρT : Operand → Option T} {ρ : Operand → Value} (hρ : ∀ x t, ρT x = some t → RepT μ L m t (ρ x)) : ∀ {l : List Operand} {as : List A}, argsA m ids ρT l = some as → RepAs μ (ids.map L.blk) (ids.map L.room) as (l.map ρ)
  | [], as, ha => by simp only [argsA, Option.some.injEq] at ha; subst ha; exact .nil
  | x :: l, as, ha => by
    unfold argsA at ha
    split at ha
    · rename_i y ys hy hys
      injection ha with ha
      subst ha
      obtain ⟨t, h1, h2⟩ := bind_eq hy
      exact .cons (argA_rep h (hρ x t h1) h2) (argsA_rep h hρ hys)
    · cases ha
theorem boxesOf_len : ∀ {ids : List Nat} {css : List (List D)}, boxesOf m ids = some css → ids.length = css.length
  | [], css, h => by simp only [boxesOf, Option.some.injEq] at h; subst h; rfl
  | id :: ids, css, h => by
    unfold boxesOf at h
    split at h
    · split at h
      · rename_i ds css' h1 h2
        injection h with h
        subst h
        simp [boxesOf_len h2]
      · cases h
    · cases h
theorem boxesOf_get : ∀ {ids : List Nat} {css : List (List D)}, boxesOf m ids = some css → ∀ (k id : Nat), ids[k]? = some id → ∃ g cs ds, m id = some (.box g cs) ∧ allD cs = some ds ∧ css[k]? = some ds
  | [], css, h, k, id, hk => by simp at hk
  | i :: ids, css, h, k, id, hk => by
    unfold boxesOf at h
    split at h
    · rename_i g cs hm
      split at h
      · rename_i ds css' h1 h2
        injection h with h
        subst h
        cases k with
        | zero => simp at hk; subst hk; exact ⟨g, cs, ds, hm, h1, rfl⟩
        | succ k => simpa using boxesOf_get h2 k id (by simpa using hk)
      · cases h
    · cases h
theorem allD_length : ∀ {cs : List T} {ds : List D}, allD cs = some ds → ds.length = cs.length
  | [], ds, h => by simp only [allD, Option.some.injEq] at h; subst h; rfl
  | z :: zs, ds, h => by
    unfold allD at h
    split at h
    · rename_i y ys h1 h2
      injection h with h
      subst h
      simp [allD_length h2]
    · cases h
theorem objs_of (h : Inv c m μ L ow w) {ids : List Nat} {css : List (List D)} (hb : boxesOf m ids = some css) (hnd : ids.Nodup) : Objs w μ (ids.map L.blk) (ids.map L.room) css := by
  have hbox : ∀ id ∈ ids, ∃ g cs, m id = some (.box g cs) := fun id hid => by
    obtain ⟨k, hk⟩ := List.mem_iff_getElem?.1 hid
    obtain ⟨g, cs, ds, h1, _⟩ := boxesOf_get hb k id hk
    exact ⟨g, cs, h1⟩
  have how : ∀ id ∈ ids, ow (L.blk id) = some id := fun id hid => by
    obtain ⟨g, cs, h1⟩ := hbox id hid
    exact (h.box id g cs h1).1
  refine ⟨by simp [boxesOf_len hb], by simp [boxesOf_len hb], ?_, fun a v ha hq => ?_, fun k b r ds h1 h2 h3 => ?_⟩
  · rw [List.nodup_iff_pairwise_ne, List.pairwise_map]
    refine List.Pairwise.imp_of_mem ?_ (List.nodup_iff_pairwise_ne.1 hnd)
    intro a b ha hb' hne e
    have h1 := how a ha
    rw [e, how b hb'] at h1
    injection h1 with h1
    exact hne h1.symm
  · obtain ⟨id, hid, e⟩ := List.mem_map.1 hq
    obtain ⟨g, cs, h1⟩ := hbox id hid
    obtain ⟨e', sz, n, hm, _⟩ := h.muOwn a v ha id (by rw [← e]; exact how id hid)
    rw [h1] at hm
    cases hm
  · rw [List.getElem?_map] at h1 h2
    cases hq : ids[k]? with
    | none => rw [hq] at h1; cases h1
    | some id =>
      rw [hq] at h1 h2
      simp only [Option.map_some, Option.some.injEq] at h1 h2
      subst h1 h2
      obtain ⟨g, cs, ds', k1, k2, k3⟩ := boxesOf_get hb k id hq
      rw [h3] at k3
      injection k3 with k3
      subst k3
      obtain ⟨ho, vs, e, hh, hs, hroom, hv⟩ := h.box id g cs k1
      obtain ⟨r, hr, hg⟩ := allD_rep (vs := vs) (o := 0) k2 fun i z hz => by rw [Nat.zero_add]; exact hv i z hz
      have hl : ds.length = cs.length := allD_length k2
      refine ⟨vs, e, hh, by omega, hroom, fun i y hy => ?_⟩
      obtain ⟨u, q1, q2, q3⟩ := hr.get i y hy
      exact ⟨u, by have := hg i u q1; rwa [Nat.zero_add] at this, q3, q2⟩
end
theorem rep_plain {w0 w : World} {μ : Mu} {L : Loc} {m : Mem} {d : Nat} {rs : List R} {vs : List Value} (h : RepRs w0 w μ rs vs) (hf : freshOf rs = []) : ∀ (i : Nat) (x : R), rs[i]? = some x → RepT μ L m (x.t d) (vs.getD i undef) := by
  induction h with
  | nil => simp
  | @cons x xs v l h t ih =>
    cases h with
    | d h =>
      intro i y hy
      cases i with
      | zero => simp at hy; subst hy; exact .d h
      | succ i => simpa using ih hf i y (by simpa using hy)
    | fresh => simp [freshOf] at hf
theorem rep_fresh {w0 w : World} {μ : Mu} {d : Nat} {rs : List R} {vs : List Value} {cs : List D} (h : RepRs w0 w μ rs vs) (hf : freshOf rs = [cs]) :
    ∃ (b e : Nat) (bl : Array Value), w0.heap.size ≤ b ∧ (∀ a v, μ a = some v → a.block ≠ b) ∧ w.heap[b]? = some (.cells bl e (0, 0)) ∧ cs.length ≤ bl.size ∧ (∀ (i : Nat) (x : D), cs[i]? = some x → ∃ v, bl[i]? = some v ∧ v.oneCell' = true ∧ RepD μ x v) ∧
      ∀ (L : Loc) (m : Mem) (cc : List T), L.blk d = b → L.room d = bl.size → m d = some (.box 0 cc) → ∀ (i : Nat) (x : R), rs[i]? = some x → RepT μ L m (x.t d) (vs.getD i undef) := by
  induction h with
  | nil => simp [freshOf] at hf
  | @cons x xs v l h t ih =>
    cases h with
    | d h =>
      obtain ⟨b, e, bl, h1, h2, h3, h4, h5, h6⟩ := ih hf
      refine ⟨b, e, bl, h1, h2, h3, h4, h5, fun L m cc k1 k2 k3 i y hy => ?_⟩
      cases i with
      | zero => simp at hy; subst hy; exact .d h
      | succ i => simpa using h6 L m cc k1 k2 k3 i y (by simpa using hy)
    | @fresh sz n b cap e A cs' bl hA h0 hoff hh hl hc hn hm hv =>
      simp only [freshOf, List.cons.injEq] at hf
      obtain ⟨rfl, hf⟩ := hf
      refine ⟨b, e, bl, h0, hoff, hh, hl, hv, fun L m cc k1 k2 k3 i y hy => ?_⟩
      cases i with
      | zero =>
        simp at hy
        subst hy
        exact .view k3 rfl (Nat.le_refl _) fun _ => ⟨fun q => by rw [k1]; exact hA q, by rw [k2, Nat.zero_add]; exact hc, hn, hm⟩
      | succ i => simpa using rep_plain t hf i y (by simpa using hy)
theorem rep_resTR {w0 w : World} {μ : Mu} {L : Loc} {m : Mem} {d : Nat} {rs : List R} {vs : List Value} (hl : vs.length = rs.length) (h : ∀ (i : Nat) (x : R), rs[i]? = some x → RepT μ L m (x.t d) (vs.getD i undef)) {v : Value} (hv : (∃ u, rs.length = 1 ∧ vs = [u] ∧ v = u) ∨ (rs.length ≠ 1 ∧ v = .tuple vs.toArray)) : RepT μ L m (resTR d rs) v := by
  rcases hv with ⟨u, h1, rfl, rfl⟩ | ⟨h1, rfl⟩
  · cases rs with
    | nil => simp at h1
    | cons x r =>
      cases r with
      | nil => simpa [resTR] using h 0 x rfl
      | cons => simp at h1
  · have : resTR d rs = .tup (rs.map (R.t d)) := by
      unfold resTR
      split
      · simp at h1
      · rfl
    rw [this]
    refine .tup (by simp [hl]) fun i x hx => ?_
    rw [List.getElem?_map] at hx
    cases hq : rs[i]? with
    | none => rw [hq] at hx; cases hx
    | some y =>
      rw [hq] at hx
      simp at hx
      subst hx
      exact h i y hq
theorem RepRR.split {w0 w : World} {μ : Mu} {rs : List R} {v : Value} (h : RepRR w0 w μ rs v) : ∃ vs, RepRs w0 w μ rs vs ∧ ((∃ u, rs.length = 1 ∧ vs = [u] ∧ v = u) ∨ (rs.length ≠ 1 ∧ v = .tuple vs.toArray)) := by
  cases h with
  | one h => exact ⟨[v], .cons h .nil, .inl ⟨v, rfl, rfl, rfl⟩⟩
  | many hn h => exact ⟨_, h, .inr ⟨hn, rfl⟩⟩
theorem putO_m (σ : St) (d : Option Nat) (t : T) : (σ.putO d t).m = σ.m := by cases d <;> rfl
theorem WRef_ok {x : X} {c : Ctx} {o : Oper} {f : Operand} {args : List Operand} {σ : St} {K : St → Prop} {a : Act} {w : World} {next : Act → World → Prop} {Q : Exit → Act → World → Prop} {μ : Mu} {L : Loc} {ow : Nat → Option Nat}
    (hc : callOf o.op = some (f, args)) (h : WRef x c.n o.dst f args σ K) (hi : Inv c σ.m μ L ow w) (he : EnvOK c μ L σ.m σ.env a) (hK : ∀ σ' a' w', K σ' → Sim c σ' a' w' → next a' w') : o.wp x.P a w next Q := by
  have hρ : ∀ y t, σ.ev y = some t → RepT μ L σ.m t (a.eval y) := fun y t hy => ev_rep he hy
  obtain ⟨g, caps, as, zs, ids, css, rs, css', hf, hargs, hle, hbox, hnd, hspec, hd, hfr1, hk⟩ := h
  obtain ⟨dst, op, ty, pos, after, guard⟩ := o
  cases op <;> simp only [callOf] at hc <;> try (cases hc; done)
  rename_i cl
  obtain ⟨callee, cargs, tys⟩ := cl
  cases callee <;> simp only [] at hc <;> try (cases hc; done)
  rename_i fo
  simp only [Option.some.injEq, Prod.mk.injEq] at hc
  obtain ⟨rfl, rfl⟩ := hc
  have hf' := hρ _ _ hf
  have hav := argsA_rep hi hρ hargs
  cases hf' with
  | d hf' =>
    generalize hfv : a.eval fo = fv at hf'
    cases hf' with
    | @fn _ _ l hl =>
      have hcv : RepV μ caps l := by
        clear hle hf hspec hk hfv
        revert l
        induction caps with
        | nil => intro l hl; cases hl; exact .nil
        | cons y ys ih => intro l hl; cases hl with | cons h1 h2 t => exact .cons h1 (ih t)
      have hall := (hav.append hcv.toA).le hle
      have hop : ∀ nx w', (callFunc g ((cargs.toList.map a.eval) ++ l).toArray).run x.P w = .ok nx w' → (execOp a.eval ⟨dst, .call ⟨.value fo, cargs, tys⟩, ty, pos, after, guard⟩).run x.P w = .ok nx w' := by
        intro nx w' hr
        have e1 : (cargs.toList.map a.eval ++ l).toArray = cargs.map a.eval ++ l.toArray := by
          rw [← Array.toList_map]
          apply Array.ext'
          simp
        rw [e1] at hr
        simp [execOp, resolve, hfv, Deferred.ofValue, invoke, hr]
      have hbx : ∀ id ∈ ids, ∃ g cs, σ.m id = some (.box g cs) := fun id hid => by
        obtain ⟨k, hk⟩ := List.mem_iff_getElem?.1 hid
        obtain ⟨g, cs, ds, h1, _⟩ := boxesOf_get hbox k id hk
        exact ⟨g, cs, h1⟩
      obtain ⟨hr, hcalls⟩ := hspec w μ (ids.map L.blk) (ids.map L.room) _ hi.mu (fun b hb => by
        obtain ⟨id, hid, rfl⟩ := List.mem_map.1 hb
        obtain ⟨g', cs', h1⟩ := hbx id hid
        exact (hi.own _ _ (hi.box id g' cs' h1).1).1) (objs_of hi hbox hnd) hall
      unfold Oper.wp
      rw [hop _ _ hr, Oper.upon_enter]
      refine hcalls.mono ?_
      rintro e w' ⟨v, μ', rfl, hv, hmle, hmu', hnew, hfr, hob⟩
      obtain ⟨hi', hst⟩ := hi.called hbx hnd hmle hmu' hnew hfr hob
      obtain ⟨vs, hvs, hvv⟩ := hv.split
      rcases hfr1 with hnone | ⟨hone, hsome, hdn⟩
      · refine hK _ _ _ hk ⟨μ', L, ow, ?_, ?_⟩
        · unfold St.after
          rw [putO_m, hnone]
          show Inv c (look (updBL σ.m σ.mem ids css')) μ' L ow w'
          rw [look_updBL]
          exact hi'
        · unfold St.after
          rw [putO_m, hnone]
          have h2 := (he.mono hmle hst).putO (mm := updBL σ.m σ.mem ids css') hd (rep_resTR (w0 := w) (w := w') (d := dst.getD 0) hvs.length (rep_plain hvs hnone) hvv)
          have : (⟨σ.env, frU (dst.getD 0) (updBL σ.m σ.mem ids css') []⟩ : St).m = updB σ.m σ.m ids css' := look_updBL _ _ _ _
          rw [this]
          exact h2
      · obtain ⟨cs, hcs⟩ := List.length_eq_one_iff.1 hone
        obtain ⟨b, e, bl, h1, h2, h3, h4, h5, h6⟩ := rep_fresh (d := dst.getD 0) hvs hcs
        have hdi : dst.getD 0 ∉ ids := fun q => by obtain ⟨g', cs', h7⟩ := hbx _ q; rw [hdn] at h7; cases h7
        have hob' : ow b = none := by
          cases ho : ow b with
          | none => rfl
          | some id => have := (hi.own b id ho).1; omega
        obtain ⟨hi2, hst2⟩ := hi'.adopt (d := dst.getD 0) (by rw [updB_ne _ _ hdi]; exact hdn) hob' (Nat.le_trans hi.fr.size h1) h2 h3 h4 h5
        have hmm : (⟨σ.env, frU (dst.getD 0) (updBL σ.m σ.mem ids css') (freshOf rs)⟩ : St).m = setM (updB σ.m σ.m ids css') (dst.getD 0) (.box 0 (cs.map .d)) := by
          rw [hcs]
          show look ((dst.getD 0, Own.box 0 (cs.map .d)) :: updBL σ.m σ.mem ids css') = _
          rw [look_set, look_updBL]
          rfl
        refine hK _ _ _ hk ⟨μ', L.setBlk (dst.getD 0) b bl.size, setOw ow b (dst.getD 0), ?_, ?_⟩
        · unfold St.after
          rw [putO_m, hmm]
          exact hi2
        · unfold St.after
          rw [putO_m, hmm]
          exact ((he.mono hmle hst).mono (Mu.le_refl _) hst2).putO hd (rep_resTR (w0 := w) (w := w') (d := dst.getD 0) hvs.length (h6 _ _ _ (by simp [Loc.setBlk]) (by simp [Loc.setBlk]) (setM_self _ _ _)) hvv)
theorem WOp_ok {x : X} {c : Ctx} {o : Oper} {σ : St} {K : St → Prop} {a : Act} {w : World} {next : Act → World → Prop} {Q : Exit → Act → World → Prop}
    {ref : Bool} (h : WOp x c.n ref o σ K) (hs : Sim c σ a w) (hK : ∀ σ' a' w', K σ' → Sim c σ' a' w' → next a' w') : o.wp x.P a w next Q := by
  obtain ⟨μ, L, ow, hi, he⟩ := hs
  have hρ : ∀ y t, σ.ev y = some t → RepT μ L σ.m t (a.eval y) := fun y t hy => ev_rep he hy
  unfold WOp at h
  split at h
  · -- a call
    rename_i f args hc
    rcases h with h | ⟨_, h⟩
    case inr => exact WRef_ok hc h hi he hK
    obtain ⟨g, caps, ys, zs, rs, hf, hargs, hle, hspec, hd, hk⟩ := h
    obtain ⟨dst, op, ty, pos, after, guard⟩ := o
    cases op <;> simp only [callOf] at hc <;> try (cases hc; done)
    rename_i cl
    obtain ⟨callee, cargs, tys⟩ := cl
    cases callee <;> simp only [] at hc <;> try (cases hc; done)
    rename_i fo
    simp only [Option.some.injEq, Prod.mk.injEq] at hc
    obtain ⟨rfl, rfl⟩ := hc
    have hf' := hρ _ _ hf
    have hav := allT_rep hρ hargs
    cases hf' with
    | d hf' =>
      generalize hfv : a.eval fo = fv at hf'
      cases hf' with
      | @fn _ _ l hl =>
        have hcv : RepV μ caps l := by
          clear hle hf hspec hk hfv
          revert l
          induction caps with
          | nil => intro l hl; cases hl; exact .nil
          | cons y ys ih => intro l hl; cases hl with | cons h1 h2 t => exact .cons h1 (ih t)
        have happ : ∀ {xs ys : List D} {us vs : List Value}, RepV μ xs us → RepV μ ys vs → RepV μ (xs ++ ys) (us ++ vs) := by
          intro xs ys us vs h1 h2
          induction h1 with
          | nil => exact h2
          | cons h3 t ih => exact .cons h3 ih
        have hall := (happ hav hcv).le hle
        have hop : ∀ nx w', (callFunc g ((cargs.toList.map a.eval) ++ l).toArray).run x.P w = .ok nx w' → (execOp a.eval ⟨dst, .call ⟨.value fo, cargs, tys⟩, ty, pos, after, guard⟩).run x.P w = .ok nx w' := by
          intro nx w' hr
          have e1 : (cargs.toList.map a.eval ++ l).toArray = cargs.map a.eval ++ l.toArray := by
            rw [← Array.toList_map]
            apply Array.ext'
            simp
          rw [e1] at hr
          simp [execOp, resolve, hfv, Deferred.ofValue, invoke, hr]
        rcases hspec w μ _ hi.mu hall with ⟨hr, hcalls⟩ | ⟨v, hr, hv⟩
        · unfold Oper.wp
          rw [hop _ _ hr, Oper.upon_enter]
          refine hcalls.mono ?_
          rintro e w' ⟨v, μ', rfl, hv, hmle, hmu', hnew, hfr⟩
          have hg : Grows w w' := ⟨hfr.os, hfr.tape, hfr.output, hfr.size, fun k hk => hfr.block k hk (fun h => h)⟩
          have hi' := hi.grows hg hmle fun b u hb => (hnew b u hb).imp id fun h => ⟨h, hmu' b u hb⟩
          refine hK _ _ _ hk ⟨μ', L, ow, ?_, ?_⟩
          · cases dst <;> exact hi'
          · have := (he.mono hmle (Stays.refl _ _)).putO (mm := σ.mem) hd hv.rep
            cases dst <;> exact this
        · unfold Oper.wp
          rw [hop _ _ hr, Oper.upon_value]
          refine hK _ _ _ hk ⟨μ, L, ow, ?_, ?_⟩
          · cases dst <;> exact hi
          · have := he.putO (mm := σ.mem) hd hv.rep
            cases dst <;> exact this
  · split at h
    · rename_i y u hev
      obtain ⟨hd, hk⟩ := h
      obtain ⟨nx, w', μ', L', ow', hr, hi', hmle, hst, v, rfl, hv⟩ := evOp_ok x.ok hi hρ hev
      unfold Oper.wp
      rw [hr, Oper.upon_value]
      refine hK _ _ _ hk ⟨μ', L', ow', ?_, ?_⟩
      · have : ((σ.upd u).putO o.dst y).m = σ.m.upd u := by
          rw [← St.upd_m]
          cases o.dst <;> rfl
        rw [this]
        exact hi'
      · have : ((σ.upd u).putO o.dst y).m = σ.m.upd u := by
          rw [← St.upd_m]
          cases o.dst <;> rfl
        rw [this]
        have h2 := (he.mono hmle hst).putO (mm := (σ.upd u).mem) hd hv
        rw [← St.upd_env σ u] at h2
        exact h2
    · rename_i u hev
      obtain ⟨hd, hk⟩ := h
      obtain ⟨nx, w', μ', L', ow', hr, hi', hmle, hst, rfl⟩ := evOp_ok x.ok hi hρ hev
      unfold Oper.wp
      rw [hr, Oper.upon_skip]
      refine hK _ _ _ hk ⟨μ', L', ow', by rw [St.upd_m]; exact hi', ?_⟩
      rw [St.upd_m, St.upd_env, hd]
      exact he.mono hmle hst
    · obtain ⟨_, h⟩ := h
      split at h
      · rename_i y u hev
        obtain ⟨hd, hk⟩ := h
        obtain ⟨nx, w', μ', L', ow', hr, hi', hmle, hst, v, rfl, hv⟩ := evX_ok x.ok hi hρ hev
        unfold Oper.wp
        rw [hr, Oper.upon_value]
        refine hK _ _ _ hk ⟨μ', L', ow', ?_, ?_⟩
        · have : ((σ.upd u).putO o.dst y).m = σ.m.upd u := by
            rw [← St.upd_m]
            cases o.dst <;> rfl
          rw [this]
          exact hi'
        · have : ((σ.upd u).putO o.dst y).m = σ.m.upd u := by
            rw [← St.upd_m]
            cases o.dst <;> rfl
          rw [this]
          have h2 := (he.mono hmle hst).putO (mm := (σ.upd u).mem) hd hv
          rw [← St.upd_env σ u] at h2
          exact h2
      · exact h.elim
end Go.Pm
