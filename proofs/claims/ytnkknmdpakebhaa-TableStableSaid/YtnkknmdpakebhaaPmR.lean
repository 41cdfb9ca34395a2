/- The abstract machine 'Pm', part R: a drawn region as a whole. -/
import Derived.Test.YtnkknmdpakebhaaPmQ
set_option linter.unusedSimpArgs false
set_option linter.unusedVariables false
namespace Go.Pm
open Go.RowKit

def WfN (N : Nat) (σ : St) : Prop := ∃ c a w, Sim c σ a w ∧ c.n = N
theorem WfN.wf {N : Nat} {σ : St} (h : WfN N σ) : Wf σ := by obtain ⟨c, a, w, hs, _⟩ := h; exact ⟨c, a, w, hs⟩
theorem Act1.sound {x : X} {c : Ctx} {ops : Array Oper} {Q : Exit → Act → World → Prop} {i : Nat} {o : Oper} {σ : St} {out : Option T} {u : Upd} {a : Act} {w : World} {next : Act → World → Prop} (ho : ops[i]? = some o) (hs : Sim c σ a w) (h : Act1 x c.n ops o σ out u)
    (hn : ∀ a' w', Sim c (app σ o.dst out u) a' w' → next a' w') : wpOp x.P ops Q i next a w := by
  unfold wpOp
  rw [ho]
  simp only []
  obtain ⟨h0, h1⟩ := h
  rcases h1 with ⟨hg, h3⟩ | ⟨⟨j, want, b, hg, hb, hne⟩, rfl, rfl⟩
  · have hw : Region.wanted o (yielded ops a.tmps) = true := by
      rcases hg with hg | ⟨j, want, hg, hb⟩
      · simp [Region.wanted, hg]
      · simp [Region.wanted, hg, yielded_of hs trivial hb]
    rw [if_pos hw]
    exact .inl (WOp_ok (ref := false) (exec_WOp h0 h3 (K := fun σ' => σ' = app σ o.dst out u) rfl) hs fun σ' a' w' e hs' => hn _ _ (e ▸ hs'))
  · rw [if_neg (by simp [Region.wanted, hg, yielded_of hs trivial hb, hne])]
    refine hn _ _ ?_
    obtain ⟨μ, L, ow, hi, he⟩ := hs
    refine ⟨μ, L, ow, ?_, ?_⟩
    · rw [app_m]; exact hi
    · rw [app_m]
      exact he.putO (mm := σ.mem) h0 .un
theorem WfN.step {x : X} {N : Nat} {ops : Array Oper} {o : Oper} {σ : St} {out : Option T} {u : Upd} (hw : WfN N σ) (h : Act1 x N ops o σ out u) : WfN N (app σ o.dst out u) := by
  obtain ⟨c, a, w, hs, rfl⟩ := hw
  obtain ⟨h0, h1⟩ := h
  rcases h1 with ⟨_, h3⟩ | ⟨_, rfl, rfl⟩
  · have hw := WOp_ok (ref := false) (Q := fun _ _ _ => False) (exec_WOp h0 h3 (K := fun σ' => σ' = app σ o.dst out u) rfl) hs (next := fun a' w' => Sim c (app σ o.dst out u) a' w') (fun σ' a' w' e hs' => e ▸ hs')
    unfold Oper.wp at hw
    generalize (execOp a.eval o).run x.P w = r at hw
    cases r with
    | ok nx w' =>
      cases nx <;> simp only [Oper.upon] at hw <;> try exact ⟨c, _, _, hw, rfl⟩
      · obtain ⟨e, w2, fr, hR, _⟩ := hw []
        cases e with
        | returned v => exact ⟨c, _, _, hR, rfl⟩
        | panicked ch => exact hR.elim
        | outgrown => obtain ⟨_, _, hR⟩ := hR; exact hR.elim
      · obtain ⟨v, w2, hR, _⟩ := hw default []
        exact ⟨c, _, _, hR, rfl⟩
      all_goals exact hw.elim
    | halt e w' => cases e <;> simp only [Oper.upon] at hw
  · obtain ⟨μ, L, ow, hi, he⟩ := hs
    refine ⟨c, a.put o.dst undef, w, ⟨μ, L, ow, ?_, ?_⟩, rfl⟩
    · rw [app_m]; exact hi
    · rw [app_m]
      exact he.putO (mm := σ.mem) h0 .un
def free (ops : Array Oper) (i j : Nat) : Prop := ∀ p q, ops[i]? = some p → ops[j]? = some q → p.apart ops q = true ∧ meets p q = false ∧ hasDst p = true ∧ hasDst q = true
theorem bubble {x : X} {N : Nat} {ops : Array Oper} {K : St → Prop} (hK : ∀ σ σ', Alike σ σ' → K σ → K σ') {i : Nat} {B : List Nat} : ∀ (A : List Nat) (σ : St), WfN N σ → (∀ a ∈ A, free ops a i) → Tr x N ops (A ++ i :: B) σ K →
    ∃ o out u, ops[i]? = some o ∧ Act1 x N ops o σ out u ∧ Tr x N ops (A ++ B) (app σ o.dst out u) K
  | [], σ, _, _, h => h
  | a :: A, σ, hw, hf, ⟨p, op, up, hp, h1, h2⟩ => by
    obtain ⟨q, oq, uq, hq, h3, h4⟩ := bubble hK A _ (hw.step h1) (fun b hb => hf b (List.mem_cons_of_mem _ hb)) h2
    obtain ⟨f1, f2, f3, f4⟩ := hf a List.mem_cons_self p q hp hq
    obtain ⟨g1, g2, g3⟩ := swap hw.wf f1 f2 f3 f4 h1 h3
    exact ⟨q, oq, uq, hq, g1, p, op, up, hp, g2, h4.alike hK g3⟩

/-! ### What must come first -/
inductive Dep (ops : Array Oper) : Nat → Nat → Prop
  | one {j : Nat} {o : Oper} {e : Edge} (ho : ops[j]? = some o) (he : e ∈ o.after.toList) (hb : Region.binds .any e = true) : Dep ops j e.on
  | more {j i : Nat} {o : Oper} {e : Edge} (ho : ops[j]? = some o) (he : e ∈ o.after.toList) (hb : Region.binds .any e = true) (h : Dep ops e.on i) : Dep ops j i
def bitsStep (bits : List Nat) (es : List Edge) : Nat := es.foldl (fun s e => if Region.binds .any e then s ||| (2 ^ e.on ||| bits.getD e.on 0) else s) 0
def bitsAux : List Oper → List Nat → List Nat
  | [], acc => acc
  | o :: r, acc => bitsAux r (acc ++ [bitsStep acc o.after.toList])
theorem bitsFold (bits : List Nat) (i : Nat) : ∀ (es : List Edge) (s : Nat), (es.foldl (fun s e => if Region.binds .any e then s ||| (2 ^ e.on ||| bits.getD e.on 0) else s) s).testBit i = true →
    s.testBit i = true ∨ ∃ e ∈ es, Region.binds .any e = true ∧ (e.on = i ∨ (bits.getD e.on 0).testBit i = true)
  | [], s, h => .inl h
  | e :: es, s, h => by
    rw [List.foldl_cons] at h
    rcases bitsFold bits i es _ h with h1 | ⟨e', h1, h2⟩
    · split at h1
      · rename_i hb
        rw [Nat.testBit_or, Nat.testBit_or, Bool.or_eq_true, Bool.or_eq_true] at h1
        rcases h1 with h1 | h1 | h1
        · exact .inl h1
        · refine .inr ⟨e, List.mem_cons_self, hb, .inl ?_⟩
          rw [Nat.testBit_two_pow] at h1
          simpa using h1
        · exact .inr ⟨e, List.mem_cons_self, hb, .inr h1⟩
      · exact .inl h1
    · exact .inr ⟨e', List.mem_cons_of_mem _ h1, h2⟩
theorem bitsAux_ok {ops : Array Oper} : ∀ (l : List Oper) (acc : List Nat), (∀ j, l[j]? = ops[acc.length + j]?) → (∀ j i, (acc.getD j 0).testBit i = true → Dep ops j i) → ∀ j i, ((bitsAux l acc).getD j 0).testBit i = true → Dep ops j i
  | [], acc, _, ha, j, i, h => ha j i h
  | o :: r, acc, hl, ha, j, i, h => by
    refine bitsAux_ok r (acc ++ [bitsStep acc o.after.toList]) (fun k => ?_) (fun k q hk => ?_) j i h
    · have := hl (k + 1)
      simp only [List.length_append, List.length_singleton]
      rw [Nat.add_assoc, Nat.add_comm 1 k]
      simpa using this
    · rw [List.getD_eq_getElem?_getD, List.getElem?_append] at hk
      split at hk
      · exact ha k q (by rw [List.getD_eq_getElem?_getD]; exact hk)
      · rename_i hlt
        by_cases he : k = acc.length
        · subst he
          simp at hk
          have ho : ops[acc.length]? = some o := by simpa using (hl 0).symm
          rcases bitsFold acc q _ 0 hk with h1 | ⟨e, h1, h2, h3⟩
          · simp at h1
          · rcases h3 with h3 | h3
            · subst h3; exact .one ho h1 h2
            · exact .more ho h1 h2 (ha _ _ h3)
        · have : ([bitsStep acc o.after.toList] : List Nat)[k - acc.length]? = none := List.getElem?_eq_none (by simp; omega)
          rw [this] at hk
          simp at hk
def drawOK (ops : Array Oper) : Bool :=
  let l := ops.toList.zipIdx
  let bits := bitsAux ops.toList []
  (l.all fun p => hasDst p.1 && p.1.after.toList.all fun e => !Region.binds .any e || decide (e.on < p.2)) &&
  l.all fun q => l.all fun p => !decide (p.2 < q.2) || (bits.getD q.2 0).testBit p.2 || (p.1.apart ops q.1 && !meets p.1 q.1)
theorem mem_zip {ops : Array Oper} {i : Nat} {o : Oper} (h : ops[i]? = some o) : (o, i) ∈ ops.toList.zipIdx := by
  rw [List.mem_zipIdx_iff_getElem?]
  simpa using h
theorem drawOK_ok {ops : Array Oper} (h : drawOK ops = true) : (∀ j o, ops[j]? = some o → hasDst o = true ∧ ∀ e ∈ o.after.toList, Region.binds .any e = true → e.on < j) ∧
    ∀ i j, i < j → Dep ops j i ∨ free ops i j := by
  unfold drawOK at h
  rw [Bool.and_eq_true] at h
  obtain ⟨h1, h2⟩ := h
  have g1 : ∀ j o, ops[j]? = some o → hasDst o = true ∧ ∀ e ∈ o.after.toList, Region.binds .any e = true → e.on < j := by
    intro j o ho
    have := List.all_eq_true.1 h1 _ (mem_zip ho)
    rw [Bool.and_eq_true] at this
    refine ⟨this.1, fun e he hb => ?_⟩
    have h3 := List.all_eq_true.1 this.2 e he
    rw [hb] at h3
    simpa using h3
  refine ⟨g1, fun i j hij => ?_⟩
  by_cases hd : Dep ops j i
  · exact .inl hd
  · refine .inr fun p q hp hq => ?_
    have h3 := List.all_eq_true.1 (List.all_eq_true.1 h2 _ (mem_zip hq)) _ (mem_zip hp)
    simp only [Bool.or_eq_true, Bool.and_eq_true, Bool.not_eq_true', decide_eq_false_iff_not] at h3
    rcases h3 with (h3 | h3) | h3
    · exact absurd hij h3
    · exact absurd (bitsAux_ok (ops := ops) ops.toList [] (fun k => by simp) (fun k q hk => by simp at hk) j i h3) hd
    · exact ⟨h3.1, h3.2, (g1 i p hp).1, (g1 j q hq).1⟩

def unl (n : Nat) (listed : Array Bool) : List Nat := (List.range n).filter fun i => !listed.getD i true
def Closed (ops : Array Oper) (listed : Array Bool) : Prop := ∀ j o, ops[j]? = some o → listed.getD j false = true → ∀ e ∈ o.after.toList, Region.binds .any e = true → listed.getD e.on false = true
theorem Closed.dep {ops : Array Oper} {listed : Array Bool} (h : Closed ops listed) {j i : Nat} (hd : Dep ops j i) : listed.getD j false = true → listed.getD i false = true := by
  induction hd with
  | one ho he hb => exact fun hl => h _ _ ho hl _ he hb
  | more ho he hb _ ih => exact fun hl => ih (h _ _ ho hl _ he hb)
theorem mem_ready {ops : Array Oper} {listed : Array Bool} {i : Nat} : i ∈ Region.ready .any ops listed ↔ i < ops.size ∧ listed.getD i true = false ∧ ∃ o, ops[i]? = some o ∧ ∀ e ∈ o.after.toList, Region.binds .any e = true → listed.getD e.on false = true := by
  unfold Region.ready
  rw [List.mem_filter, List.mem_range, Bool.and_eq_true]
  constructor
  · rintro ⟨h1, h2, h3⟩
    refine ⟨h1, by simpa using h2, ops[i], Array.getElem?_eq_getElem h1, fun e he hb => ?_⟩
    rw [Array.getElem?_eq_getElem h1] at h3
    simp only [Option.map_some, Option.getD_some] at h3
    rw [Array.all_eq_true'] at h3
    have := h3 e (by simpa using he)
    rw [hb] at this
    simpa using this
  · rintro ⟨h1, h2, o, h3, h4⟩
    refine ⟨h1, by simpa using h2, ?_⟩
    rw [h3]
    simp only [Option.map_some, Option.getD_some]
    rw [Array.all_eq_true']
    intro e he
    cases hb : Region.binds .any e with
    | false => simp
    | true => simpa using h4 e (by simpa using he) hb
end Go.Pm
