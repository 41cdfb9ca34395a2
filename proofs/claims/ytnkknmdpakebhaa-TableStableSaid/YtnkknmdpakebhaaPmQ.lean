/- The abstract machine 'Pm', part Q: two operations that do not meet may change places; a drawn region. -/
import Derived.Test.YtnkknmdpakebhaaPmO
set_option linter.unusedSimpArgs false
set_option linter.unusedVariables false
namespace Go.Pm
open Go.RowKit

/-- Which pairs must be ordered, beside those that share a temporary. -/
def meetsN (a b : Nat) : Bool := (a == 1 && b == 2) || (a == 2 && b == 1) || (a == 2 && b == 2) || (a == 4 && b == 4)
def meets (p q : Oper) : Bool := meetsN (clsOp p.op) (clsOp q.op)
def Wf (σ : St) : Prop := ∃ c a w, Sim c σ a w
theorem Wf.obj {σ : St} (h : Wf σ) {t id g off : Nat} (hl : look σ.env t = some (.obj id g off)) : ∃ o g', σ.m id = some o ∧ o.gen = some g' := by
  obtain ⟨c, a, w, μ, L, ow, hi, he⟩ := h
  have hr := he.2.2 t _ hl
  generalize a.tmps.getD t undef = v at hr
  cases hr with
  | obj hm hg => exact ⟨_, _, hm, hg⟩
theorem Wf.own {σ : St} (h : Wf σ) {t id : Nat} {xs : List D} (hl : look σ.env t = some (.own id xs)) : ∃ e s n, σ.m id = some (.tok e s n) := by
  obtain ⟨c, a, w, μ, L, ow, hi, he⟩ := h
  have hr := he.2.2 t _ hl
  generalize a.tmps.getD t undef = v at hr
  cases hr with
  | own _ hm => exact ⟨_, _, _, hm⟩
theorem ev_look {σ : St} {y : Operand} {id : Nat} (h : (∃ g off, σ.ev y = some (.obj id g off)) ∨ ∃ xs, σ.ev y = some (.own id xs)) : ∃ t, y = .tmp t ∧ σ.ev y = look σ.env t := by
  cases y with
  | tmp t => exact ⟨t, rfl, rfl⟩
  | const v =>
    rcases h with ⟨_, _, h⟩ | ⟨_, h⟩ <;> simp only [St.ev] at h <;> unfold constT at h <;> split at h <;> simp at h
  | func f => rcases h with ⟨_, _, h⟩ | ⟨_, h⟩ <;> simp [St.ev] at h
  | global g => rcases h with ⟨_, _, h⟩ | ⟨_, h⟩ <;> simp [St.ev] at h
/-- What an operation names, in a state in which it may come up: a variable in memory, a row, or the new thing that it makes. -/
theorem sup_kinds {σ : St} (hw : Wf σ) {d : Nat} {op : Op} {id : Nat} (h : id ∈ sup σ.ev d op) :
    ((clsOp op = 1 ∨ clsOp op = 2) ∧ ∃ o g', σ.m id = some o ∧ o.gen = some g') ∨ (clsOp op = 3 ∧ id = d) ∨ (clsOp op = 4 ∧ ((∃ e s n, σ.m id = some (.tok e s n)) ∨ id = d)) := by
  cases op <;> simp only [sup] at h <;> try (simp at h; done)
  case alloc e => exact .inr (.inl ⟨rfl, by simpa using h⟩)
  case box e x => exact .inr (.inl ⟨rfl, by simpa using h⟩)
  case buildSlice t n p => exact .inr (.inl ⟨rfl, by simpa using h⟩)
  case load t a =>
    refine .inl ⟨.inl rfl, ?_⟩
    unfold idsOf at h
    split at h
    · rename_i id' g off ha
      simp at h
      subst h
      obtain ⟨q, _, h2⟩ := ev_look (.inl ⟨g, off, ha⟩)
      exact hw.obj (h2.symm.trans ha)
    · simp at h
  case store t a x =>
    refine .inl ⟨.inr rfl, ?_⟩
    unfold idsOf at h
    split at h
    · rename_i id' g off ha
      simp at h
      subst h
      obtain ⟨q, _, h2⟩ := ev_look (.inl ⟨g, off, ha⟩)
      exact hw.obj (h2.symm.trans ha)
    · simp at h
  case call cl =>
    obtain ⟨callee, args, tys⟩ := cl
    cases callee <;> simp only [] at h <;> try (simp at h; done)
    rename_i b
    cases b <;> simp only [] at h <;> try (simp at h; done)
    refine .inr (.inr ⟨rfl, ?_⟩)
    split at h
    · split at h
      · rename_i s r hs id' xs ha
        simp at h
        subst h
        obtain ⟨q, _, h2⟩ := ev_look (.inr ⟨xs, ha⟩)
        exact .inl (hw.own (h2.symm.trans ha))
      · exact .inr (by simpa using h)
    · simp at h
/-- A step can be taken: the state behind it is one of some frame and world. -/
theorem Wf.step {x : X} {N : Nat} {ops : Array Oper} {o : Oper} {σ : St} {out : Option T} {u : Upd} {c : Ctx} {a : Act} {w : World} (hs : Sim c σ a w) (hN : c.n = N) (h : Act1 x N ops o σ out u) : Wf (app σ o.dst out u) := by
  subst hN
  obtain ⟨h0, h1⟩ := h
  rcases h1 with ⟨_, h3⟩ | ⟨_, rfl, rfl⟩
  · have hw := WOp_ok (ref := false) (Q := fun _ _ _ => False) (exec_WOp h0 h3 (K := fun σ' => σ' = app σ o.dst out u) rfl) hs (next := fun a' w' => Sim c (app σ o.dst out u) a' w') (fun σ' a' w' e hs' => e ▸ hs')
    unfold Oper.wp at hw
    generalize (execOp a.eval o).run x.P w = r at hw
    cases r with
    | ok nx w' =>
      cases nx <;> simp only [Oper.upon] at hw <;> try exact ⟨c, _, _, hw⟩
      · obtain ⟨e, w2, fr, hR, _⟩ := hw []
        cases e with
        | returned v => exact ⟨c, _, _, hR⟩
        | panicked ch => exact hR.elim
        | outgrown => obtain ⟨_, _, hR⟩ := hR; exact hR.elim
      · obtain ⟨v, w2, hR, _⟩ := hw default []
        exact ⟨c, _, _, hR⟩
      all_goals exact hw.elim
    | halt e w' => cases e <;> simp only [Oper.upon] at hw
  · obtain ⟨μ, L, ow, hi, he⟩ := hs
    refine ⟨c, a.put o.dst undef, w, μ, L, ow, ?_, ?_⟩
    · rw [app_m]; exact hi
    · rw [app_m]
      exact he.putO (mm := σ.mem) h0 .un

theorem upd_look (m : Mem) (u : Upd) (i : Nat) (h : ∀ id o, u = some (id, o) → id ≠ i) : m.upd u i = m i := by
  cases u with
  | none => rfl
  | some p => simp [Mem.upd, setM, h p.1 p.2 rfl]
theorem upd_mono {m : Mem} {u : Upd} {i : Nat} (h : m.upd u i = none) : m i = none := by
  cases u with
  | none => exact h
  | some p =>
    simp only [Mem.upd, setM] at h
    split at h
    · cases h
    · exact h
/-- The change that an operation makes is told by 'evOp_u'. -/
theorem Act1.upd {x : X} {N : Nat} {ops : Array Oper} {o : Oper} {σ : St} {out : Option T} {id : Nat} {ow : Own} (h : Act1 x N ops o σ out (some (id, ow))) :
    (clsOp o.op = 2 ∧ id ∈ sup σ.ev (o.dst.getD 0) o.op ∧ ∃ o g', σ.m id = some o ∧ o.gen = some g') ∨ (clsOp o.op = 3 ∧ id = o.dst.getD 0 ∧ σ.m id = none) ∨
    (clsOp o.op = 4 ∧ ((∃ e s n, σ.m id = some (.tok e s n)) ∨ (id = o.dst.getD 0 ∧ σ.m id = none)) ∧ id ∈ sup σ.ev (o.dst.getD 0) o.op) := by
  rcases h.2 with ⟨_, h3⟩ | ⟨_, _, h3⟩
  · rcases h3 with ⟨_, _, _, _, _, _, _, _, _, _, _, _, _, h4⟩ | ⟨_, h4, _⟩
    · cases h4
    · rcases evOp_u h4 with h5 | ⟨h5, h6, h7⟩ | ⟨h5, h6, h7⟩
      · obtain ⟨k1, k2, g, cs, k3⟩ := h5
        exact .inl ⟨k1, k2, _, _, k3, rfl⟩
      · exact .inr (.inl ⟨h5, h6, by rw [h6]; exact h7⟩)
      · refine .inr (.inr ⟨h5, ?_, h7⟩)
        rcases h6 with h6 | ⟨h6, h8⟩
        · exact .inl h6
        · exact .inr ⟨h6, by rw [h6]; exact h8⟩
  · cases h3

/-- What makes a new thing has a place for it. -/
def hasDst (o : Oper) : Bool := match clsOp o.op with
  | 3 | 4 => o.dst.isSome
  | _ => true
/-- What an operation that runs names, told of an earlier state in which its operands were there already. -/
theorem kinds2 {σ : St} (hw : Wf σ) {tab : Tab} {m1 : Mem} {d : Nat} {op : Op} {r : Option T × Upd} (h : evOp tab σ.ev m1 d op = some r) (hm : ∀ i, m1 i = none → σ.m i = none) {id : Nat} (hid : id ∈ sup σ.ev d op) :
    ((clsOp op = 1 ∨ clsOp op = 2) ∧ ∃ o g', σ.m id = some o ∧ o.gen = some g') ∨ (clsOp op = 3 ∧ id = d ∧ σ.m id = none) ∨ (clsOp op = 4 ∧ ((∃ e s n, σ.m id = some (.tok e s n)) ∨ (id = d ∧ σ.m id = none))) := by
  cases op <;> simp only [sup] at hid <;> try (simp at hid; done)
  case alloc e =>
    simp at hid
    subst hid
    simp only [evOp] at h
    split at h
    · rename_i _ hd; exact .inr (.inl ⟨rfl, rfl, hm _ hd⟩)
    · cases h
  case box e x =>
    simp at hid
    subst hid
    simp only [evOp] at h
    split at h
    · rename_i _ hd; exact .inr (.inl ⟨rfl, rfl, hm _ hd⟩)
    · cases h
  case buildSlice t n p =>
    simp at hid
    subst hid
    simp only [evOp] at h
    split at h
    · split at h
      · rename_i hd; exact .inr (.inl ⟨rfl, rfl, hm _ hd⟩)
      · cases h
    · cases h
  case load t a =>
    rcases sup_kinds hw (op := .load t a) (d := d) hid with h1 | ⟨h1, _⟩ | ⟨h1, _⟩
    · exact .inl h1
    · cases h1
    · cases h1
  case store t a x =>
    rcases sup_kinds hw (op := .store t a x) (d := d) hid with h1 | ⟨h1, _⟩ | ⟨h1, _⟩
    · exact .inl h1
    · cases h1
    · cases h1
  case call cl =>
    obtain ⟨callee, args, tys⟩ := cl
    cases callee <;> simp only [] at hid <;> try (simp at hid; done)
    rename_i b
    cases b <;> simp only [] at hid <;> try (simp at hid; done)
    refine .inr (.inr ⟨rfl, ?_⟩)
    simp only [evOp] at h
    unfold evBuiltin at h
    split at h
    · rename_i _ _ hb _ _; cases hb
    · rename_i s y t t' _ hs ht
      rw [hs] at hid
      simp only [] at hid
      split at h
      · split at h
        · rename_i e sz by_ z id' xs ys h1 h2 h3
          rw [h2] at hid
          simp at hid
          subst hid
          obtain ⟨q, _, h4⟩ := ev_look (.inr ⟨xs, h2⟩)
          exact .inl (hw.own (h4.symm.trans h2))
        · rename_i e sz by_ z ys h1 h2 h3
          rw [h2] at hid
          simp at hid
          subst hid
          split at h
          · rename_i ie hie hd; exact .inr ⟨rfl, hm _ hd⟩
          · cases h
        · cases h
      · cases h
    · rename_i _ _ _ hb _; cases hb
    · rename_i _ _ _ hb _; cases hb
    · cases h
/-- What one changes the other does not name. -/
theorem apart_names {x : X} {N : Nat} {ops : Array Oper} {p q : Oper} {σ : St} (hap : ∀ d, p.dst = some d → q.dst ≠ some d) (hmt : meets p q = false) (hp : hasDst p = true) (hq : hasDst q = true) {outp : Option T} {idp : Nat} {op : Own}
    (hap1 : Act1 x N ops p σ outp (some (idp, op))) {id : Nat} (hk : ((clsOp q.op = 1 ∨ clsOp q.op = 2) ∧ ∃ o g', σ.m id = some o ∧ o.gen = some g') ∨ (clsOp q.op = 3 ∧ id = q.dst.getD 0 ∧ σ.m id = none) ∨ (clsOp q.op = 4 ∧ ((∃ e s n, σ.m id = some (.tok e s n)) ∨ (id = q.dst.getD 0 ∧ σ.m id = none)))) : idp ≠ id := by
  intro e
  subst e
  have hne : (clsOp p.op = 3 ∨ clsOp p.op = 4) → (clsOp q.op = 3 ∨ clsOp q.op = 4) → p.dst.getD 0 ≠ q.dst.getD 0 := by
    intro h1 h2 h3
    have hp' : p.dst.isSome = true := by unfold hasDst at hp; rcases h1 with h1 | h1 <;> rw [h1] at hp <;> exact hp
    have hq' : q.dst.isSome = true := by unfold hasDst at hq; rcases h2 with h2 | h2 <;> rw [h2] at hq <;> exact hq
    obtain ⟨a, ha⟩ := Option.isSome_iff_exists.1 hp'
    obtain ⟨b, hb⟩ := Option.isSome_iff_exists.1 hq'
    rw [ha, hb] at h3
    simp at h3
    subst h3
    exact hap a ha hb
  unfold meets meetsN at hmt
  rcases hap1.upd with ⟨h1, h2, cs, cg, h3, h3g⟩ | ⟨h1, h2, h3⟩ | ⟨h1, h2, _⟩
  · rcases hk with ⟨h4, cs', g', h5, _⟩ | ⟨h4, h5, h6⟩ | ⟨h4, h5⟩
    · rcases h4 with h4 | h4 <;> rw [h1, h4] at hmt <;> cases hmt
    · rw [h3] at h6; cases h6
    · rcases h5 with ⟨_, _, _, h6⟩ | ⟨_, h6⟩
      · rw [h3] at h6; injection h6 with h6; subst h6; cases h3g
      · rw [h3] at h6; cases h6
  · rcases hk with ⟨h4, cs', g', h5, _⟩ | ⟨h4, h5, h6⟩ | ⟨h4, h5⟩
    · rw [h3] at h5; cases h5
    · exact hne (.inl h1) (.inl h4) (h2.symm.trans h5)
    · rcases h5 with ⟨_, _, _, h6⟩ | ⟨h5, _⟩
      · rw [h3] at h6; cases h6
      · exact hne (.inl h1) (.inr h4) (h2.symm.trans h5)
  · rcases hk with ⟨h4, cs', g', h5, h5g⟩ | ⟨h4, h5, h6⟩ | ⟨h4, h5⟩
    · rcases h2 with ⟨_, _, _, h6⟩ | ⟨_, h6⟩
      · rw [h5] at h6; injection h6 with h6; subst h6; cases h5g
      · rw [h5] at h6; cases h6
    · rcases h2 with ⟨_, _, _, h7⟩ | ⟨h7, _⟩
      · rw [h6] at h7; cases h7
      · exact hne (.inr h1) (.inl h4) (h7.symm.trans h5)
    · rw [h1, h4] at hmt; cases hmt
theorem meets_symm (p q : Oper) : meets p q = meets q p := by
  unfold meets meetsN
  generalize clsOp p.op = a
  generalize clsOp q.op = b
  cases (a == 1) <;> cases (a == 2) <;> cases (a == 4) <;> cases (b == 1) <;> cases (b == 2) <;> cases (b == 4) <;> rfl
theorem Exec.kinds {x : X} {o : Oper} {σ σ1 : St} (hw : Wf σ) {out : Option T} {u : Upd} (h : Exec x o σ1 out u) (hev : ∀ y ∈ o.op.operands, σ1.ev y = σ.ev y) (hm : ∀ i, σ1.m i = none → σ.m i = none) {id : Nat} (hid : id ∈ sup σ.ev (o.dst.getD 0) o.op) :
    ((clsOp o.op = 1 ∨ clsOp o.op = 2) ∧ ∃ o g', σ.m id = some o ∧ o.gen = some g') ∨ (clsOp o.op = 3 ∧ id = o.dst.getD 0 ∧ σ.m id = none) ∨ (clsOp o.op = 4 ∧ ((∃ e s n, σ.m id = some (.tok e s n)) ∨ (id = o.dst.getD 0 ∧ σ.m id = none))) := by
  rcases h with ⟨f, args, g, caps, ys, zs, rs, hc, _⟩ | ⟨hc, h1, _⟩
  · exfalso
    generalize o.op = op at hc hid
    cases op <;> simp only [callOf] at hc <;> try (cases hc; done)
    rename_i cl
    obtain ⟨callee, args, tys⟩ := cl
    cases callee <;> simp only [] at hc <;> try (cases hc; done)
    simp [sup] at hid
  · rw [evOp_ρ hev] at h1
    exact kinds2 hw h1 hm hid
theorem Wf.alike {σ σ' : St} (h : Wf σ) (e : Alike σ σ') : Wf σ' := by obtain ⟨c, a, w, hs⟩ := h; exact ⟨c, a, w, hs.alike e⟩
/-- Two that do not meet change places. -/
theorem swap {x : X} {N : Nat} {ops : Array Oper} {p q : Oper} {σ : St} (hw : Wf σ) (hap : p.apart ops q = true) (hmt : meets p q = false) (hp : hasDst p = true) (hq : hasDst q = true) {outp outq : Option T} {up uq : Upd}
    (h1 : Act1 x N ops p σ outp up) (h2 : Act1 x N ops q (app σ p.dst outp up) outq uq) :
    Act1 x N ops q σ outq uq ∧ Act1 x N ops p (app σ q.dst outq uq) outp up ∧ Alike (app (app σ p.dst outp up) q.dst outq uq) (app (app σ q.dst outq uq) p.dst outp up) := by
  obtain ⟨s1, s2, s3⟩ := Oper.apart_spec hap
  have hlook : ∀ t ∈ q.looksAt ops, look (app σ p.dst outp up).env t = look σ.env t := by
    intro t ht
    rw [app_look]
    split
    · rename_i d y hd
      rw [if_neg]
      rintro rfl
      exact s1 d hd ht
    · rfl
  have hevq : ∀ y ∈ q.op.operands, (app σ p.dst outp up).ev y = σ.ev y := ev_congr hlook
  have hmono : ∀ i, (app σ p.dst outp up).m i = none → σ.m i = none := fun i hi => by rw [app_m] at hi; exact upd_mono hi
  have hsupq : sup (app σ p.dst outp up).ev (q.dst.getD 0) q.op = sup σ.ev (q.dst.getD 0) q.op := sup_ρ hevq
  have g1 : Act1 x N ops q σ outq uq := by
    refine h2.congr hlook fun hex id hid => ?_
    rw [hsupq] at hid
    rw [app_m]
    refine upd_look _ _ _ fun i o hu => ?_
    subst hu
    exact apart_names s2 hmt hp hq h1 (hex.kinds hw hevq hmono hid)
  have hlook2 : ∀ t ∈ p.looksAt ops, look σ.env t = look (app σ q.dst outq uq).env t := by
    intro t ht
    rw [app_look]
    split
    · rename_i d y hd
      rw [if_neg]
      rintro rfl
      exact s3 d hd ht
    · rfl
  have g2 : Act1 x N ops p (app σ q.dst outq uq) outp up := by
    refine h1.congr hlook2 fun hex id hid => ?_
    rw [app_m]
    refine (upd_look _ _ _ fun i o hu => ?_).symm
    subst hu
    exact apart_names (fun d hd hd' => s2 d hd' hd) (by rw [meets_symm]; exact hmt) hq hp g1 (hex.kinds hw (fun _ _ => rfl) (fun _ h => h) hid)
  refine ⟨g1, g2, ⟨fun t => ?_, fun i => ?_⟩⟩
  · rw [app_look, app_look, app_look, app_look]
    cases hpd : p.dst with
    | none => cases q.dst <;> cases outq <;> cases outp <;> rfl
    | some d =>
      cases hqd : q.dst with
      | none => cases outq <;> cases outp <;> rfl
      | some e =>
        have hne : d ≠ e := fun h => s2 d hpd (by rw [hqd, h])
        cases outq <;> cases outp <;> simp only []
        by_cases h3 : e = t
        · subst h3; simp [hne]
        · by_cases h4 : d = t
          · subst h4; simp [h3]
          · simp [h3, h4]
  · show (app (app σ p.dst outp up) q.dst outq uq).m i = (app (app σ q.dst outq uq) p.dst outp up).m i
    rw [app_m, app_m, app_m, app_m]
    cases up with
    | none => rfl
    | some a =>
      cases uq with
      | none => rfl
      | some b =>
        have hne : a.1 ≠ b.1 := by
          have hb := g1.upd
          refine apart_names (id := b.1) s2 hmt hp hq h1 ?_
          rcases hb with ⟨h3, _, h4⟩ | ⟨h3, h4, h5⟩ | ⟨h3, h4, _⟩
          · exact .inl ⟨.inr h3, h4⟩
          · exact .inr (.inl ⟨h3, h4, h5⟩)
          · exact .inr (.inr ⟨h3, h4⟩)
        simp only [Mem.upd, setM]
        by_cases h3 : b.1 = i
        · subst h3; simp [hne]
        · simp [h3]
end Go.Pm
