/- The abstract machine 'Pm', part K: the model does what 'evOp' says. -/
import Derived.Test.YtnkknmdpakebhaaPmJ
set_option linter.unusedSimpArgs false
set_option linter.unusedVariables false
namespace Go.Pm
open Go.RowKit
section
variable {P : Program} {c : Ctx} {m : Mem} {μ : Mu} {L : Loc} {ow : Nat → Option Nat} {w : World} {tab : Tab} {ρT : Operand → Option T} {ρ : Operand → Value}
theorem map_eq {α β : Type} {o : Option α} {f : α → β} {b : β} (h : o.map f = some b) : ∃ a, o = some a ∧ f a = b := Option.map_eq_some_iff.1 h
theorem bind_eq {α β : Type} {o : Option α} {f : α → Option β} {b : β} (h : o.bind f = some b) : ∃ a, o = some a ∧ f a = some b := Option.bind_eq_some_iff.1 h
theorem Stays.trans {L L1 L2 : Loc} {m m1 m2 : Mem} (h : Stays L m L1 m1) (k : Stays L1 m1 L2 m2) : Stays L m L2 m2 := by
  refine ⟨fun id o g hi hg => ?_, fun id e sz n hi => ?_⟩
  · obtain ⟨o1, g1, h1, h2, h3, h4⟩ := h.gen id o g hi hg
    obtain ⟨o2, g2, k1, k2, k3, k4⟩ := k.gen id o1 g1 h1 h2
    refine ⟨o2, g2, k1, k2, by omega, fun q => ?_⟩
    have q1 : g1 = g := by omega
    have q2 : g2 = g1 := by omega
    exact ⟨(k4 q2).1.trans (h4 q1).1, (k4 q2).2.trans (h4 q1).2⟩
  · obtain ⟨n1, h1, l1, e1⟩ := h.tok id e sz n hi
    obtain ⟨n2, h2, l2, e2⟩ := k.tok id e sz n1 h1
    exact ⟨n2, h2, by omega, fun q => (e2 (by omega)).trans (e1 (by omega))⟩
theorem nil_of_own {d e sz : Nat} (h : Inv c m μ L ow w) (hd : m d = none) (hz : 0 < sz) {v : Value} (hv : RepD μ .nil v) :
    ∃ L', Inv c (setM m d (.tok e sz 0)) μ L' ow w ∧ Stays L m L' (setM m d (.tok e sz 0)) ∧ RepT μ L' (setM m d (.tok e sz 0)) (.own d []) v := by
  obtain ⟨hi, hs⟩ := h.tokNil (e := e) hd hz
  cases hv
  exact ⟨_, hi, hs, .own (.slice0 _ _ (Nat.zero_le _)) (show setM m d (.tok e sz 0) d = some (.tok e sz 0) by simp [setM]) (Nat.le_refl _) (fun _ => by simp [Loc.setHdr]) (by simp)⟩

theorem run_binT {t : TypeId} {i : TyI} (ht : TyOK P t i) {op : BinOp} {x y : Operand} {vx vy : Value} {dx dy : D} {r : T} (hx : RepD μ dx vx) (hy : RepD μ dy vy) (hb : binT op dx dy = some r) (he : eqTy i dx = true) : ∃ v, (do eqGuard op t x y vx vy; binOp op t vx vy : Sem Value).run P w = .ok v w ∧ RepT μ L m r v := by
  have key : ∀ (o2 : BinOp), (o2 = .eql ∨ o2 = .neq) → dx = .slice [] → dy = .nil → ∃ v, (do eqGuard o2 t x y vx vy; binOp o2 t vx vy : Sem Value).run P w = .ok v w ∧ RepT μ L m .anyb v := by
    rintro o2 ho rfl rfl
    have hk := ht.kind
    have hkk : ∃ e, i.k = .slice e := by
      simp only [eqTy] at he
      split at he
      · exact ⟨_, by assumption⟩
      · cases he
    obtain ⟨e, hkk⟩ := hkk
    rw [hkk] at hk
    simp only [] at hk
    cases hy
    obtain ⟨A, cap, rfl, _, _, _⟩ := hx.slice_inv
    cases A with
    | none =>
      have hr := run_equal_none hk cap w
      rcases ho with rfl | rfl
      · exact ⟨_, run_eql_of hr rfl x y rfl, .anyb _⟩
      · exact ⟨_, run_neq_of hr rfl x y rfl, .anyb _⟩
    | some a =>
      have hr := run_equal_some hk a 0 cap w
      rcases ho with rfl | rfl
      · exact ⟨_, run_eql_of hr rfl x y rfl, .anyb _⟩
      · exact ⟨_, run_neq_of hr rfl x y rfl, .anyb _⟩
  unfold binT at hb
  split at hb
  · injection hb with hb; subst hb; exact key .eql (.inl rfl) rfl rfl
  · injection hb with hb; subst hb; exact key .neq (.inr rfl) rfl rfl
  · obtain ⟨d, h1, h2⟩ := map_eq hb
    subst h2
    obtain ⟨v, h3, h4⟩ := run_binOp (P := P) (w := w) ht (x := x) (y := y) hx hy h1 he
    exact ⟨v, h3, .d h4⟩
theorem run_cv2 (hT : TabOK P tab) (h : Inv c m μ L ow w) {s t : TypeId} {is it : TyI} (hs : TyOK P s is) (ht : TyOK P t it) {vx : Value} {dx r : D} (hx : RepD μ dx vx) (hb : cv2 tab is it dx = some r) : ∃ v, (convert s t vx).run P w = .ok v w ∧ RepD μ r v := by
  unfold cv2 at hb
  split at hb
  · rename_i e hk hk2
    split at hb
    · rename_i sz by_ z vw he
      have key : ∀ xs ns, RepD μ (.slice xs) vx → bytesD xs = some ns → ∃ v, (convert s t vx).run P w = .ok v w ∧ RepD μ (.str (ofBytes ns)) v := by
        intro xs ns h1 h2
        exact ⟨_, bytes_run h hs hk (hT _ _ he) rfl ht hk2 h1 h2, .str _⟩
      split at hb
      · rename_i xs
        obtain ⟨ns, h1, h2⟩ := map_eq hb
        subst h2
        exact key xs ns hx h1
      · injection hb with hb
        subst hb
        exact key [] [] hx.of_nil rfl
      · cases hb
    · cases hb
  · exact run_cv hs ht hx hb w
theorem evBuiltin_ok (hT : TabOK P tab) (h : Inv c m μ L ow w) (hρ : ∀ x t, ρT x = some t → RepT μ L m t (ρ x)) {b : Builtin} {args : Array Operand} {tys : Array Nat} {ty : Nat} {d : Nat} {r : Option T} {u : Upd}
    (he : evBuiltin tab ρT m d b args.toList tys.toList = some (r, u)) (cs : Array Bool) : Runs P c m μ L w (builtin b tys ty cs (args.map ρ)) r (m.upd u) := by
  obtain ⟨args⟩ := args
  obtain ⟨tys⟩ := tys
  simp only [] at he
  have em : Array.map ρ ⟨args⟩ = ⟨args.map ρ⟩ := by simp
  rw [em]
  clear em
  unfold evBuiltin at he
  split at he
  · -- len
    rename_i x t
    split at he
    · rename_i sz by_ z vw s ht hx
      cases he
      have hx' := hρ x _ hx
      generalize hv : ρ x = v at hx'
      have hk := (hT _ _ ht).kind
      simp only [] at hk
      cases hx' with
      | d hx' =>
        cases hx'
        exact .of (.pure h (v := .int .i64 s.size) (by simp [Builtin.len_, hv, run_underlying hk, goInt]) (.d (.int _ _)))
    · rename_i e sz by_ z vw id g sz' off n ht hx
      cases he
      have hx' := hρ x _ hx
      generalize hv : ρ x = v at hx'
      have hk := (hT _ _ ht).kind
      simp only [] at hk
      cases hx' with
      | view h1 h2 h3 h4 => exact .of (.pure h (v := .int .i64 n) (by simp [Builtin.len_, hv, run_underlying hk, goInt]) (.d (.int _ _)))
    · rename_i e sz by_ z vw y hno ht hx
      obtain ⟨xs, h1, h2⟩ := map_eq he
      cases h2
      have hx' := asSlice_rep (hρ x _ hx) h1
      generalize hv : ρ x = v at hx'
      have hk := (hT _ _ ht).kind
      simp only [] at hk
      obtain ⟨A, cap, rfl, _⟩ := hx'.slice_inv
      exact .of (.pure h (v := .int .i64 xs.length) (by simp [Builtin.len_, hv, run_underlying hk, goInt]) (.d (.int _ _)))
    · cases he
  · -- append
    rename_i s x t t'
    split at he
    · rename_i htt
      subst htt
      split at he
      · rename_i e sz by_ z id xs ys ht hs hy
        split at he
        · rename_i ie e' sz' n hie hm
          obtain ⟨ty', h3, h4⟩ := bind_eq hy
          have hyr := asSlice_rep (hρ x _ h3) h4
          split at he
          · rename_i hemp
            cases he
            have : ys = [] := by simpa using hemp
            subst this
            exact .of (does_append_none (P := P) h (hT _ _ ht) rfl (hT _ _ hie) (ty := ty) (hρ s _ hs) hyr)
          · rename_i hemp
            split at he
            · rename_i hc
              cases he
              obtain ⟨rfl, rfl, hz, hn, hall, hb, hmax⟩ := hc
              exact .of (does_append (P := P) h (hT _ _ ht) rfl (hT _ _ hie) hz (ty := ty) hm (hρ s _ hs) hn hyr (fun y hy => by simpa using (List.all_eq_true.1 hall) y hy) (by simpa using hemp) hb (by simp only [maxLen]; omega))
            · cases he
        · cases he
      · rename_i e sz by_ z ys ht hs hy
        split at he
        · rename_i ie hie hd
          obtain ⟨ty', h3, h4⟩ := bind_eq hy
          have hyr := asSlice_rep (hρ x _ h3) h4
          have hs' := hρ s _ hs
          split at he
          · rename_i hemp
            cases he
            have : ys = [] := by simpa using hemp
            subst this
            have hk := (hT _ _ ht).kind
            simp only [] at hk
            obtain ⟨f, zz, hf, hfs, hfb, hfz, hzsz, hzr⟩ := (hT _ _ hie).info
            cases hs' with
            | d hs' =>
              generalize hvs : ρ s = vs at hs'
              generalize hvx : ρ x = vx at hyr
              cases hs'
              obtain ⟨B, cap', rfl, _, _, _⟩ := hyr.slice_inv
              refine .of (.pure h (v := .slice none 0 0) ?_ (.d .nil))
              cases B <;> simp [hvs, hvx, Builtin.append_, run_underlying hk, sizeOf, typeInfo, hf, Builtin.lenOf, Builtin.firstCells, loadCells, loadCellsFrom, storeCells]
          · rename_i hemp
            split at he
            · rename_i hc
              cases he
              obtain ⟨hz, hall, hb, hmax⟩ := hc
              cases hs' with
              | d hs' =>
                obtain ⟨L', hi, hst, hown⟩ := nil_of_own (e := e) h hd hz hs'
                have := does_append (P := P) hi (hT _ _ ht) rfl (hT _ _ hie) hz (ty := ty) (id := d) (n := 0) (xs := []) (show setM m d (.tok e ie.size 0) d = _ by simp [setM]) hown rfl hyr (fun y hy => by simpa using (List.all_eq_true.1 hall) y hy) (by simpa using hemp) (by simpa using hb) (by simp only [maxLen, List.length_nil]; omega)
                obtain ⟨v, w', μ', L2, ow', h5, h6, h7, h8, h9⟩ := this
                have e2 : setM (setM m d (.tok e ie.size 0)) d (.tok e ie.size (0 + ys.length)) = setM m d (.tok e ie.size ys.length) := by funext j; unfold setM; split <;> simp
                rw [e2] at h6 h8 h9
                exact .of ⟨v, w', μ', L2, ow', h5, h6, h7, hst.trans h8, h9⟩
            · cases he
        · cases he
      · cases he
    · cases he
  · -- max
    rename_i x y
    split at he
    · rename_i k a k' b hx hy
      cases he
      have hx' := hρ x _ hx
      have hy' := hρ y _ hy
      generalize hv : ρ x = v at hx'
      generalize hv2 : ρ y = v2 at hy'
      cases hx' with
      | d hx' =>
        cases hy' with
        | d hy' =>
          cases hx'
          cases hy'
          exact .of (.pure h (v := .int k (if b > a then b else a)) (by simp [Builtin.max_, Builtin.max2, hv, hv2]) (.d (.int _ _)))
    · cases he
  · -- min
    rename_i x y
    split at he
    · rename_i k a k' b hx hy
      cases he
      have hx' := hρ x _ hx
      have hy' := hρ y _ hy
      generalize hv : ρ x = v at hx'
      generalize hv2 : ρ y = v2 at hy'
      cases hx' with
      | d hx' =>
        cases hy' with
        | d hy' =>
          cases hx'
          cases hy'
          exact .of (.pure h (v := .int k (if b < a then b else a)) (by simp [Builtin.min_, Builtin.min2, hv, hv2]) (.d (.int _ _)))
    · cases he
  · cases he

theorem allP_rep (hρ : ∀ x t, ρT x = some t → RepT μ L m t (ρ x)) : ∀ {l : List (Nat × Operand)} {ps : List (Nat × D)}, allP ρT l = some ps → RepP μ ps (l.map fun p => (p.1, ρ p.2))
  | [], ps, h => by simp only [allP, Option.some.injEq] at h; subst h; exact .nil
  | (k, x) :: l, ps, h => by
    unfold allP at h
    split at h
    · rename_i y ys hy hys
      injection h with h
      subst h
      obtain ⟨t, h1, h2⟩ := bind_eq hy
      exact .cons (toD_rep (hρ x t h1) h2) (allP_rep hρ hys)
    · cases h
theorem bnd_ok (hρ : ∀ x t, ρT x = some t → RepT μ L m t (ρ x)) {dflt : Nat} {o : Option Operand} {n : Int} (h : bnd ρT dflt o = some n) (h0 : 0 ≤ n) : (o.map ρ = none ∧ n.toNat = dflt) ∨ ∃ k, o.map ρ = some (.int k (n.toNat : Nat)) := by
  cases o with
  | none => simp only [bnd, Option.some.injEq] at h; subst h; exact .inl ⟨rfl, by simp⟩
  | some x =>
    simp only [bnd] at h
    split at h
    · rename_i k n' hx
      injection h with h
      subst h
      have hx' := hρ x _ hx
      cases hx' with
      | d hx' =>
        refine .inr ⟨k, ?_⟩
        generalize hv : ρ x = v at hx'
        cases hx'
        simp only [Option.map_some, hv]
        rw [Int.toNat_of_nonneg h0]
    · cases h
theorem cut_ok (hρ : ∀ x t, ρT x = some t → RepT μ L m t (ρ x)) {len l hh kk : Nat} {lo hi mx : Option Operand} (h : cut ρT len lo hi mx = some (l, hh, kk)) :
    ((lo.map ρ = none ∧ l = 0) ∨ ∃ k, lo.map ρ = some (.int k l)) ∧ ((hi.map ρ = none ∧ hh = len ∧ mx.map ρ = none) ∨ ∃ k, hi.map ρ = some (.int k hh)) ∧ (mx.map ρ = none ∨ (∃ k, mx.map ρ = some (.int k kk)) ∧ hh ≤ kk ∧ kk ≤ len) ∧ l ≤ hh ∧ hh ≤ len := by
  unfold cut at h
  split at h
  · rename_i a b d ha hb hd
    split at h
    · rename_i hc
      obtain ⟨h1, h2, h3, h4, h5⟩ := hc
      simp only [Option.some.injEq, Prod.mk.injEq] at h
      obtain ⟨rfl, rfl, rfl⟩ := h
      refine ⟨bnd_ok hρ ha h1, ?_, ?_, by omega, by omega⟩
      · rcases bnd_ok hρ hb (by omega) with ⟨q1, q2⟩ | q
        · refine .inl ⟨q1, q2, ?_⟩
          cases mx with
          | none => rfl
          | some x =>
            cases hi with
            | none => simp [isSome'] at h5
            | some y => cases q1
        · exact .inr q
      · rcases bnd_ok hρ hd (by omega) with ⟨q1, q2⟩ | q
        · exact .inl q1
        · exact .inr ⟨q, by omega, by omega⟩
    · cases h
  · cases h
theorem evOp_ok (hT : TabOK P tab) (h : Inv c m μ L ow w) (hρ : ∀ x t, ρT x = some t → RepT μ L m t (ρ x)) {o : Oper} {d : Nat} {r : Option T} {u : Upd} (he : evOp tab ρT m d o.op = some (r, u)) :
    Runs P c m μ L w (execOp ρ o) r (m.upd u) := by
  obtain ⟨dst, op, ty, pos, after, guard⟩ := o
  cases op <;> simp only [evOp] at he <;> try (cases he; done)
  case move x =>
    obtain ⟨t, h1, h2⟩ := map_eq he
    cases h2
    exact .pure h (by simp [execOp]) (hρ x t h1)
  case assign x =>
    obtain ⟨t, h1, h2⟩ := map_eq he
    cases h2
    exact .pure h (by simp [execOp]) (hρ x t h1)
  case pick cc a b =>
    split at he
    · rename_i t hc
      obtain ⟨x, h1, h2⟩ := map_eq he
      cases h2
      have hb := hρ cc _ hc
      cases hb with
      | d hb =>
        generalize hcv : ρ cc = cv at hb
        cases hb
        cases t
        · exact .pure h (v := ρ b) (by simp [execOp, hcv, asBool]) (hρ b x (by simpa using h1))
        · exact .pure h (v := ρ a) (by simp [execOp, hcv, asBool]) (hρ a x (by simpa using h1))
    · cases he
  case alloc e =>
    split at he
    · rename_i i hi hd
      cases he
      exact .of (does_alloc h (hT _ _ hi) hd)
    · cases he
  case box e x =>
    split at he
    · rename_i cs hx hd
      cases he
      obtain ⟨t, h1, h2⟩ := bind_eq hx
      exact .of (does_box h (hρ x t h1) h2 hd)
    · cases he
  case load t a =>
    split at he
    · rename_i i cs ht ha
      obtain ⟨x, h1, h2⟩ := map_eq he
      cases h2
      have ha' := hρ a _ ha
      cases ha' with
      | d ha' => exact .of (does_loadP h (hT _ _ ht) ha' h1)
    · rename_i i id g off ht ha
      split at he
      · rename_i g' cs hm
        split at he
        · rename_i hg
          subst hg
          obtain ⟨x, h1, h2⟩ := map_eq he
          cases h2
          exact .of (does_loadO h (hT _ _ ht) (hρ a _ ha) hm h1)
        · cases he
      · cases he
    · cases he
  case store t a x =>
    split at he
    · rename_i i id g off ys ht ha hx
      split at he
      · rename_i g' cs hm
        split at he
        · rename_i hc
          cases he
          obtain ⟨rfl, hc1, hc2⟩ := hc
          obtain ⟨tx, h1, h2⟩ := bind_eq hx
          obtain ⟨w', hr, hi, hst⟩ := does_store (P := P) h (hT _ _ ht) (hρ a _ ha) hm (hρ x tx h1) h2 hc1 hc2
          exact ⟨.skip, w', μ, L, ow, by simp [execOp, hr], hi, Mu.le_refl _, hst, rfl⟩
        · cases he
      · cases he
    · cases he
  case nilCheck x =>
    split at he
    · rename_i id off hx
      cases he
      have hx' := hρ x _ hx
      generalize hv : ρ x = v at hx'
      have hp : ∃ A, v = .pointer (some A) := by cases hx'; exact ⟨_, rfl⟩
      obtain ⟨A, rfl⟩ := hp
      exact .pure h (v := .pointer (some A)) (by simp [execOp, hv]) hx'
    · rename_i cs hx
      cases he
      have hx' := hρ x _ hx
      generalize hv : ρ x = v at hx'
      have hp : ∃ A, v = .pointer (some A) := by
        cases hx' with
        | d hx' => cases hx'; exact ⟨_, rfl⟩
      obtain ⟨A, rfl⟩ := hp
      exact .pure h (v := .pointer (some A)) (by simp [execOp, hv]) hx'
    · cases he
  case binOp op t x y t' =>
    split at he
    · rename_i i dx dy ht hx hy
      split at he
      · rename_i heq
        obtain ⟨q, h1, h2⟩ := map_eq he
        cases h2
        obtain ⟨tx, h3, h4⟩ := bind_eq hx
        obtain ⟨ty', h5, h6⟩ := bind_eq hy
        obtain ⟨v, hr, hv⟩ := run_binT (P := P) (w := w) (L := L) (m := m) (hT _ _ ht) (x := x) (y := y) (toD_rep (hρ x _ h3) h4) (toD_rep (hρ y _ h5) h6) h1 heq
        exact .of (.pure h hr hv)
      · cases he
    · cases he
  case unOp op t x =>
    split at he
    · rename_i dx hx
      obtain ⟨q, h1, h2⟩ := map_eq he
      cases h2
      obtain ⟨tx, h3, h4⟩ := bind_eq hx
      obtain ⟨v, hr, hv⟩ := run_unOp (P := P) (toD_rep (hρ x _ h3) h4) h1 w
      exact .of (.pure h hr (.d hv))
    · cases he
  case convert s t x =>
    split at he
    · rename_i si i dx hs ht hx
      obtain ⟨q, h1, h2⟩ := map_eq he
      cases h2
      obtain ⟨tx, h3, h4⟩ := bind_eq hx
      obtain ⟨v, hr, hv⟩ := run_cv2 (P := P) hT h (hT _ _ hs) (hT _ _ ht) (toD_rep (hρ x _ h3) h4) h1
      exact .of (.pure h hr (.d hv))
    · cases he
  case fieldAddr s x f =>
    split at he
    · rename_i fs sz by_ z id off hs hx
      obtain ⟨p, h1, h2⟩ := map_eq he
      cases h2
      exact .of (does_fieldO h (hT _ _ hs) rfl (o := p.1) (s := p.2) h1 (hρ x _ hx))
    · rename_i fs sz by_ z cs hs hx
      split at he
      · rename_i p hp
        split at he
        · rename_i hle
          cases he
          have hx' := hρ x _ hx
          cases hx' with
          | d hx' => exact .of (does_fieldP h (hT _ _ hs) rfl (o := p.1) (s := p.2) hp hx' hle)
        · cases he
      · cases he
    · cases he
  case indexAddr t x ix =>
    split at he
    · rename_i e sz by_ z vw id g sz' off n k j ht hx hix
      split at he
      · rename_i ie hie
        split at he
        · rename_i hc
          cases he
          obtain ⟨rfl, h0, hlt⟩ := hc
          have hi' := hρ ix _ hix
          cases hi' with
          | d hi' => exact .of (does_indexV h (hT _ _ ht) rfl (hT _ _ hie) (hρ x _ hx) hi' h0 hlt)
        · cases he
      · cases he
    · rename_i e sz by_ z vw tx k n hnv ht hx hix
      split at he
      · rename_i ie y hie hy
        split at he
        · rename_i hc
          cases he
          obtain ⟨xs, h3, h4⟩ := bind_eq hy
          have hi' := hρ ix _ hix
          cases hi' with
          | d hi' => exact .of (does_indexAddr h (hT _ _ ht) rfl (hT _ _ hie) (asSlice_rep (hρ x _ hx) h3) hi' hc.1 h4 hc.2)
        · cases he
      · cases he
    · cases he
  case extract x k =>
    split at he
    · rename_i xs hx
      obtain ⟨y, h1, h2⟩ := map_eq he
      cases h2
      have hx' := hρ x _ hx
      generalize hv : ρ x = v at hx'
      cases hx' with
      | @tup _ vs hl hg =>
        have hlt : k < vs.length := by rw [hl]; exact (List.getElem?_eq_some_iff.1 h1).1
        have h4 := hg k y h1
        have h3 : vs[k]? = some (vs.getD k undef) := by simp [List.getD, hlt]
        exact .of (.pure h (v := vs.getD k undef) (by generalize vs.getD k undef = q at h3; simp only [Instr.extract, hv]; simp [h3]) h4)
    · cases he
  case slice t x lo hi mx =>
    split at he
    · rename_i sz by_ z vw s ht hx
      split at he
      · rename_i l hh kk hcut
        cases he
        obtain ⟨h1, h2, h3, h4, h5⟩ := cut_ok hρ hcut
        have hx' := hρ x _ hx
        cases hx' with
        | d hx' =>
          have := does_cutS (P := P) h (hT _ _ ht) rfl hx' (lo := lo.map ρ) (hi := hi.map ρ) h1 (by rcases h2 with ⟨q1, q2, _⟩ | q; exact .inl ⟨q1, q2⟩; exact .inr q) h4 (by omega)
          exact .of this
      · cases he
    · rename_i e sz by_ z vw y ht hx
      split at he
      · rename_i ie xs hie hxs
        split at he
        · rename_i l hh kk hcut
          split at he
          · rename_i hall
            cases he
            obtain ⟨h1, h2, h3, h4, h5⟩ := cut_ok hρ hcut
            exact .of (does_cutD (P := P) h (hT _ _ ht) rfl (hT _ _ hie) (asSlice_rep (hρ x _ hx) hxs) (fun y hy => by simpa using (List.all_eq_true.1 hall) y hy) (lo := lo.map ρ) (hi := hi.map ρ) (mx := mx.map ρ) h1 h2 h3 h4 h5)
          · cases he
        · cases he
      · cases he
    · cases he
  case build t parts =>
    split at he
    · rename_i fs sz by_ zs vw ps ht hps
      obtain ⟨ds, h1, h2⟩ := map_eq he
      cases h2
      have hp := allP_rep hρ hps
      have := does_build (P := P) h (hT _ _ ht) rfl (vs := parts.map fun p => (p.1, ρ p.2)) (by rw [Array.toList_map]; exact hp) rfl h1
      exact .of this
    · cases he
  case makeFunc fn first caps =>
    split at he
    · rename_i f
      split at he
      · rename_i hf0
        obtain ⟨cs, h1, h2⟩ := bind_eq he
        split at h2
        · rename_i hall
          cases h2
          have hrv := allT_rep hρ h1
          have hl : RepL μ cs (caps.toList.map ρ) := by
            rw [List.all_eq_true] at hall
            clear h1 he
            generalize caps.toList.map ρ = l at hrv
            induction hrv with
            | nil => exact .nil
            | cons h0 t ih =>
              refine .cons h0 ?_ (ih fun y hy => hall y (List.mem_cons_of_mem _ hy))
              have := hall _ List.mem_cons_self
              cases h0 <;> first | rfl | exact absurd this (by simp [isPtr])
          have hf1 : first = #[] := Array.eq_empty_of_size_eq_zero hf0
          refine .of (.pure h (v := .func (.func f) #[] (caps.toList.map ρ).toArray) ?_ (.d (.fn hl)))
          subst hf1
          simp [Instr.makeFunc]
          rw [← Array.toList_map]
        · cases h2
      · cases he
    · cases he
  case buildSlice t n parts =>
    split at he
    · rename_i e sz by_ z ht
      split at he
      · rename_i ie xs hie hxs hd
        split at he
        · rename_i hc
          cases he
          obtain ⟨hn, hseq, hz, hall, hle⟩ := hc
          subst hn
          have hrv := allT_rep hρ hxs
          have := does_buildSlice (P := P) h (hT _ _ ht) rfl (hT _ _ hie) hz hrv (fun y hy => by simpa using (List.all_eq_true.1 hall) y hy) hle hd
          have hp : (((parts.toList.map (·.2)).map ρ).zipIdx 0).map (fun p => (p.2, p.1)) = (parts.map fun p => (p.1, ρ p.2)).toList := by
            rw [Array.toList_map, seqFrom_zip hseq, List.map_map]
            rfl
          rw [hp] at this
          rw [Array.toArray_toList] at this
          exact .of this
        · cases he
      · cases he
    · cases he
  case index t x ix =>
    split at he
    · rename_i sz by_ z s k n ht hx hix
      split at he
      · rename_i hlt
        split at he
        · rename_i h0
          cases he
          have hx' := hρ x _ hx
          have hi' := hρ ix _ hix
          cases hx' with
          | d hx' =>
            cases hi' with
            | d hi' =>
              generalize hv : ρ x = v at hx'
              generalize hvi : ρ ix = vi at hi'
              cases hx'
              cases hi'
              have hk := (hT _ _ ht).kind
              simp only [] at hk
              have h2 : n < (s.size : Int) := by omega
              refine .of (.pure h (v := .int .u8 (s[n.toNat].toNat : Int)) ?_ (.d (.int _ _)))
              simp [Instr.index, hv, hvi, run_underlying hk, asIntOf, h0, hlt]
        · cases he
      · cases he
    · cases he
  case call cl =>
    obtain ⟨callee, args, tys⟩ := cl
    cases callee <;> simp only [] at he <;> try (cases he; done)
    case builtin b =>
      have hbi := evBuiltin_ok (ty := ty) hT h hρ he
      simpa [execOp, resolve, invoke] using hbi _
end
end Go.Pm
