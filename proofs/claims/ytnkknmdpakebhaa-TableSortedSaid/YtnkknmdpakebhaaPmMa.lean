/- A value that came in reads as a tree. -/
import Derived.Test.YtnkknmdpakebhaaRows
import Derived.Test.YtnkknmdpakebhaaPmFd
import Derived.WalkKit
import Derived.ProofKit
import Derived.OpenShut
import Derived.ChangeOld
import Derived.Below
namespace Go.Proofs.Ytnkknmdpakebhaa
open Go Go.Pm
attribute [local irreducible] WC WOps WOpsG
attribute [local go_sem] WOps WOp callOf gtmp gval gvalT evOp evBuiltin binT St.ev constT St.m envOf Go.Pm.look St.upd St.putO St.put St.set allT allP T.toD unD1 T.cells T.asSlice D.cells D.sz eqTy binD unD cvD cv2 fillD ldT ldD TyI.agg allD splice isSome' cut bnd resT resOf Done Option.all_some Option.all_none Option.getD_some Option.getD_none Option.bind_some Option.bind_none Option.map_some Option.map_none List.map List.map_cons List.map_nil List.cons_append List.nil_append List.append_nil List.take_succ_cons List.drop_succ_cons List.take_zero List.drop_zero List.take_nil List.drop_nil List.head?_cons List.length_cons List.length_nil List.getElem?_cons_zero List.getElem?_cons_succ List.getElem?_toArray List.all_cons List.all_nil ite_true ite_false if_true if_false Bool.not_false Bool.not_true decide_true decide_false and_true true_and and_self false_and and_false Bool.and_true Bool.true_and Bool.or_true Bool.true_or List.size_toArray seqFrom beq_self_eq_true BEq.rfl eq_self Nat.succ_ne_self false_or or_false Nat.zero_add Nat.add_zero Nat.not_lt_zero Nat.one_ne_zero tab2 tab3 tab4 tab5 tab9 tab22 tab24 tab25 tab27 tab30 tab54 tab57 tab78 tab85
open Go.ChangeShapes Go.WideShapes Go.ChangeAt Go.RowKit
set_option linter.unusedVariables false
set_option linter.unusedSimpArgs false
section
variable {H : Type} {enc : TypeId × Value → H} {W : World} {base : Nat} {spare : Nat → Bool} {held : Bool}
theorem rows_rep {μ : Mu} {b o sz : Nat} (E : Nat → D) : ∀ (len s : Nat), (∀ i, s ≤ i → i < s + len → RepE μ (E i) b (o + i * sz) ∧ (E i).sz = sz) → RepRow μ ((List.range' s len).map E) b (o + s * sz)
  | 0, s, _ => .nil b _
  | len + 1, s, h => by
    have h0 := h s (Nat.le_refl _) (by omega)
    rw [List.range'_succ, List.map_cons]
    refine .cons h0.1 ?_
    rw [h0.2, show o + s * sz + sz = o + (s + 1) * sz by rw [Nat.add_mul]; omega]
    exact rows_rep E len (s + 1) (fun i h1 h2 => h i (by omega) (by omega))
theorem mk_slice {μ : Mu} {xs : List D} {b o cap sz : Nat} (h : RepRow μ xs b o) (hs : ∀ y ∈ xs, y.sz = sz) (hl : xs.length ≤ cap) (hc : cap ≤ maxLen) : RepD μ (.slice xs) (.slice (some ⟨b, o, none⟩) xs.length cap) := by
  cases xs with
  | nil => exact .slice0 _ _ hc
  | cons x r => exact .slice h hs hl hc
theorem read_slice {t e : TypeId} {esz n : Nat} {Q : D → Prop} (ht : Try.prog.underlying t = some (.slice e)) (hsz : Try.prog.cellsOf e = esz) (h0 : 0 < esz)
    (hE : ∀ cs x, cs.length = esz → DataW.trod enc Try.prog W base spare held n e cs = some x → ∃ d : D, d.sz = esz ∧ Q d ∧ ∀ b o, (∀ i, i < esz → W.cell? ⟨b, o + i, none⟩ = cs[i]?) → RepE (fun a => W.cell? a) d b o)
    {cs : List Value} {x : DataW H × List MemPlace} (h : DataW.trod enc Try.prog W base spare held (n + 1) t cs = some x) :
    ∃ (ds : List D) (v : Value), cs = [v] ∧ v.oneCell' = true ∧ RepD (fun a => W.cell? a) (.slice ds) v ∧ ∀ d ∈ ds, Q d := by
  rcases DataW.trod_slice ht h with ⟨rfl, _⟩ | ⟨a, len, cap, elems, rest, n', hn, rfl, _, hb, hl, hm, hlen, hel, _, _⟩
  · exact ⟨[], _, rfl, rfl, .slice0 none 0 (by decide), by simp⟩
  injection hn with hn
  subst hn
  rw [hsz] at hel
  have hi : ∀ i, i < len → ∃ cs', W.cells? base (a.add (i * esz)) esz = some cs' ∧ ∃ y, DataW.trod enc Try.prog W base spare held n e cs' = some y := fun i hi => by
    have h1 := hel i hi
    rw [List.getElem?_eq_getElem (by omega)] at h1
    cases hc : W.cells? base (a.add (i * esz)) esz with
    | none => rw [hc] at h1; cases h1
    | some cs' => rw [hc] at h1; exact ⟨cs', rfl, _, h1⟩
  by_cases hl0 : len = 0
  · subst hl0
    exact ⟨[], _, rfl, rfl, .slice0 _ _ hm, by simp⟩
  have hspot : a.spot = none := by
    obtain ⟨cs', h1, _⟩ := hi 0 (by omega)
    obtain ⟨_, h2, h3⟩ := World.cells?_some h1
    have h4 := h3 0 h0
    rw [List.getElem?_eq_getElem (by omega)] at h4
    have := World.cell?_spot h4
    simpa [Addr.add] using this
  obtain ⟨b, off, spot⟩ := a
  have hs2 : spot = none := hspot
  subst hs2
  have hd : ∀ i, ∃ d : D, i < len → d.sz = esz ∧ Q d ∧ RepE (fun a => W.cell? a) d b (off + i * esz) := fun i => by
    by_cases hil : i < len
    · obtain ⟨cs', h1, y, h2⟩ := hi i hil
      obtain ⟨_, h3, h4⟩ := World.cells?_some h1
      obtain ⟨d, h5, h6, h7⟩ := hE cs' y h3 h2
      refine ⟨d, fun _ => ⟨h5, h6, h7 b _ (fun k hk => ?_)⟩⟩
      have := h4 k hk
      rw [add_plain, add_plain] at this
      exact this
    · exact ⟨.nil, fun q => absurd q hil⟩
  obtain ⟨E, hEE⟩ := Classical.axiomOfChoice hd
  have hrow := rows_rep (μ := fun a => W.cell? a) (b := b) (o := off) (sz := esz) E len 0 (fun i _ h2 => ⟨(hEE i (by omega)).2.2, (hEE i (by omega)).1⟩)
  have hmem : ∀ d ∈ (List.range' 0 len).map E, d.sz = esz ∧ Q d := by
    intro d hd
    obtain ⟨i, hi, rfl⟩ := List.mem_map.1 hd
    have := List.mem_range'_1.1 hi
    exact ⟨(hEE i (by omega)).1, (hEE i (by omega)).2.1⟩
  have := mk_slice (cap := cap) (by simpa using hrow) (fun y hy => (hmem y hy).1) (by simpa using hl) hm
  refine ⟨(List.range' 0 len).map E, _, rfl, rfl, ?_, fun d hd => (hmem d hd).2⟩
  simpa using this
theorem rep_row {μ : Mu} {b : Nat} : ∀ {ds : List D} {cs : List Value} {o : Nat}, RepL μ ds cs → (∀ i, i < cs.length → μ ⟨b, o + i, none⟩ = cs[i]?) → RepC μ ds b o
  | _, _, o, .nil, _ => .nil b o
  | _, _, o, .cons h h1 t, hc => by
    refine .cons h h1 ?_ (rep_row t (fun i hi => ?_))
    · have := hc 0 (by simp)
      simpa using this
    · have := hc (i + 1) (by simpa using hi)
      rw [show o + 1 + i = o + (i + 1) by omega, this]
      simp
theorem list_str : ∀ {ds : List D}, (∀ d ∈ ds, ∃ s : ByteArray, d = .str s) → ∃ ks : List ByteArray, ds = ks.map .str
  | [], _ => ⟨[], rfl⟩
  | d :: r, h => by
    obtain ⟨s, rfl⟩ := h d (by simp)
    obtain ⟨ks, rfl⟩ := list_str (ds := r) (fun d hd => h d (by simp [hd]))
    exact ⟨s :: ks, rfl⟩
theorem list_val : ∀ {ds : List D}, (∀ d ∈ ds, ∃ v : V, d = v.enc) → ∃ l : List V, ds = encL l
  | [], _ => ⟨[], rfl⟩
  | d :: r, h => by
    obtain ⟨v, rfl⟩ := h d (by simp)
    obtain ⟨l, rfl⟩ := list_val (ds := r) (fun d hd => h d (by simp [hd]))
    exact ⟨v :: l, rfl⟩
theorem read_strs {n : Nat} {cs : List Value} {x : DataW H × List MemPlace} (h : DataW.trod enc Try.prog W base spare held n 25 cs = some x) :
    ∃ (ks : List ByteArray) (v : Value), cs = [v] ∧ v.oneCell' = true ∧ RepD (fun a => W.cell? a) (.slice (ks.map .str)) v := by
  cases n with
  | zero => simp [DataW.trod] at h
  | succ n =>
    obtain ⟨ds, v, h1, h2, h3, h4⟩ := read_slice (Q := fun d => ∃ s : ByteArray, d = .str s) Try.underlying25 (esz := 1) (by kernel_rfl) (by omega) (fun cs x hl hx => by
      obtain ⟨s, rfl, _, _⟩ := DataW.trod_string Try.underlying9 hx
      exact ⟨.str s, rfl, ⟨s, rfl⟩, fun b o hc => .one (.str s) rfl (by have := hc 0 (by decide); simpa using this)⟩) h
    obtain ⟨ks, rfl⟩ := list_str h4
    exact ⟨ks, v, h1, h2, h3⟩
theorem read_val : ∀ (n : Nat),
    (∀ (cs : List Value) (x : DataW H × List MemPlace), DataW.trod enc Try.prog W base spare held n 24 cs = some x → ∃ (l : List V) (v : Value), cs = [v] ∧ v.oneCell' = true ∧ RepD (fun a => W.cell? a) (.slice (encL l)) v) ∧
    (∀ (cs : List Value) (x : DataW H × List MemPlace), DataW.trod enc Try.prog W base spare held n 27 cs = some x → ∃ (v : V) (ds : List D), v.enc = .agg ds ∧ ds.length = 5 ∧ RepL (fun a => W.cell? a) ds cs)
  | 0 => ⟨fun cs x h => by simp [DataW.trod] at h, fun cs x h => by simp [DataW.trod] at h⟩
  | n + 1 => by
    have ih := read_val n
    refine ⟨fun cs x h => ?_, fun cs x h => ?_⟩
    · obtain ⟨ds, v, h1, h2, h3, h4⟩ := read_slice (Q := fun d => ∃ v : V, d = v.enc) Try.underlying24 (esz := 5) (by kernel_rfl) (by omega) (fun cs x hl hx => by
        obtain ⟨v, ds, e1, e2, e3⟩ := ih.2 cs x hx
        refine ⟨v.enc, by rw [e1]; exact e2, ⟨v, rfl⟩, fun b o hc => ?_⟩
        rw [e1]
        exact .agg (rep_row e3 (fun i hi => hc i (by omega)))) h
      obtain ⟨l, rfl⟩ := list_val h4
      exact ⟨l, v, h1, h2, h3⟩
    · obtain ⟨xs, n', hn, _, hl, hlen, hf⟩ := DataW.trod_struct Try.underlying27 h
      injection hn with hn
      subst hn
      have hl5 : cs.length = 5 := hl.trans (by kernel_rfl)
      match cs, hl5 with
      | [c0, c1, c2, c3, c4], _ =>
      have k0 : Try.prog.cellsOf 3 = 1 := by kernel_rfl
      have f0 : DataW.trod enc Try.prog W base spare held n 3 [c0] = xs[0]? := by
        have q : DataW.trod enc Try.prog W base spare held n 3 (([c0, c1, c2, c3, c4].drop 0).take (Try.prog.cellsOf 3)) = xs[0]? := hf 0 _ rfl
        rw [k0] at q
        exact q
      have k1 : Try.prog.cellsOf 2 = 1 := by kernel_rfl
      have f1 : DataW.trod enc Try.prog W base spare held n 2 [c1] = xs[1]? := by
        have q : DataW.trod enc Try.prog W base spare held n 2 (([c0, c1, c2, c3, c4].drop 1).take (Try.prog.cellsOf 2)) = xs[1]? := hf 1 _ rfl
        rw [k1] at q
        exact q
      have k2 : Try.prog.cellsOf 9 = 1 := by kernel_rfl
      have f2 : DataW.trod enc Try.prog W base spare held n 9 [c2] = xs[2]? := by
        have q : DataW.trod enc Try.prog W base spare held n 9 (([c0, c1, c2, c3, c4].drop 2).take (Try.prog.cellsOf 9)) = xs[2]? := hf 2 _ rfl
        rw [k2] at q
        exact q
      have k3 : Try.prog.cellsOf 25 = 1 := by kernel_rfl
      have f3 : DataW.trod enc Try.prog W base spare held n 25 [c3] = xs[3]? := by
        have q : DataW.trod enc Try.prog W base spare held n 25 (([c0, c1, c2, c3, c4].drop 3).take (Try.prog.cellsOf 25)) = xs[3]? := hf 3 _ rfl
        rw [k3] at q
        exact q
      have k4 : Try.prog.cellsOf 24 = 1 := by kernel_rfl
      have f4 : DataW.trod enc Try.prog W base spare held n 24 [c4] = xs[4]? := by
        have q : DataW.trod enc Try.prog W base spare held n 24 (([c0, c1, c2, c3, c4].drop 4).take (Try.prog.cellsOf 24)) = xs[4]? := hf 4 _ rfl
        rw [k4] at q
        exact q
      have hx5 : xs.length = 5 := hlen
      rw [List.getElem?_eq_getElem (by omega)] at f0 f1 f2 f3 f4
      obtain ⟨a0, e0, _, _⟩ := DataW.trod_int Try.underlying3 f0
      obtain ⟨a1, e1, _, _⟩ := DataW.trod_int Try.underlying2 f1
      obtain ⟨a2, e2, _, _⟩ := DataW.trod_string Try.underlying9 f2
      obtain ⟨ks, v3, e3, o3, r3⟩ := read_strs f3
      obtain ⟨es, v4, e4, o4, r4⟩ := ih.1 _ _ f4
      simp only [List.cons.injEq, and_true] at e0 e1 e2 e3 e4
      subst e0 e1 e2 e3 e4
      exact ⟨.mk a0 a1 a2 ks es, _, by rw [V.enc], rfl, .cons (.int _ _) rfl (.cons (.int _ _) rfl (.cons (.str _) rfl (.cons r3 o3 (.cons r4 o4 .nil))))⟩
end
end Go.Proofs.Ytnkknmdpakebhaa
