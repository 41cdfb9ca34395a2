/- Plain laws: what TableSorted's calls answer. -/
import Derived.Test.YtnkknmdpakebhaaPmLf
set_option linter.unusedSimpArgs false
set_option linter.unusedVariables false
set_option maxHeartbeats 4000000
namespace Go.Proofs.Ytnkknmdpakebhaa
open Go Go.Pm
attribute [local irreducible] WC WOps WOpsG
attribute [local go_sem] WOps WOp callOf gtmp gval gvalT evOp evBuiltin binT St.ev constT St.m envOf Go.Pm.look St.upd St.putO St.put St.set allT allP T.toD unD1 T.cells T.asSlice D.cells D.sz eqTy binD unD cvD cv2 fillD ldT ldD TyI.agg allD splice isSome' cut bnd resT resOf Done Option.all_some Option.all_none Option.getD_some Option.getD_none Option.bind_some Option.bind_none Option.map_some Option.map_none List.map List.map_cons List.map_nil List.cons_append List.nil_append List.append_nil List.take_succ_cons List.drop_succ_cons List.take_zero List.drop_zero List.take_nil List.drop_nil List.head?_cons List.length_cons List.length_nil List.getElem?_cons_zero List.getElem?_cons_succ List.getElem?_toArray List.all_cons List.all_nil ite_true ite_false if_true if_false Bool.not_false Bool.not_true decide_true decide_false and_true true_and and_self false_and and_false Bool.and_true Bool.true_and Bool.or_true Bool.true_or List.size_toArray seqFrom beq_self_eq_true BEq.rfl eq_self Nat.succ_ne_self false_or or_false Nat.zero_add Nat.add_zero Nat.not_lt_zero Nat.one_ne_zero tab2 tab3 tab4 tab5 tab9 tab22 tab24 tab25 tab27 tab30 tab54 tab57 tab78 tab85
theorem cntK_bounds {m : Int} (h0 : 0 ≤ m) (h1 : m ≤ 1000) : ∀ (ks : List ByteArray) (n : Int), (∀ x ∈ ks, x.size ≤ 4096) → 1 ≤ n → n ≤ m + 4097 → n ≤ cntK m n ks ∧ cntK m n ks ≤ m + 4097
  | [], n, _, h2, h3 => by rw [cntK]; exact ⟨by omega, h3⟩
  | k :: r, n, hk, h2, h3 => by
    rw [cntK]
    by_cases h : n ≤ m
    · have hs := hk k (by simp)
      have w1 : IntKind.i64.wrap (1 + (k.size : Int)) = 1 + k.size := wrap_small (by omega) (by omega)
      have w2 : IntKind.i64.wrap (n + (1 + (k.size : Int))) = n + (1 + k.size) := wrap_small (by omega) (by omega)
      rw [if_pos h, w1, w2]
      have ih := cntK_bounds h0 h1 r (n + (1 + k.size)) (fun x hx => hk x (by simp [hx])) (by omega) (by omega)
      omega
    · rw [if_neg h]; exact ⟨by omega, h3⟩
mutual
theorem cnt_bounds : ∀ (v : V) (m : Int), v.good → 0 ≤ m → m ≤ 1000 → 1 ≤ v.cnt m ∧ v.cnt m ≤ m + 4097 ∧ (v.cnt m ≤ m → (v.nodes : Int) ≤ v.cnt m)
  | .mk k i s ks es, m, hg, h0, h1 => by
    rw [V.good] at hg
    obtain ⟨g1, g2, g3, g4, g5, g6⟩ := hg
    obtain ⟨f1, f2, f3, f4⟩ := formed_facts g4
    have hs : s.size ≤ 4096 := by
      by_cases h : k = 4
      · exact g3 h
      · have := f1 h; omega
    have w1 : IntKind.i64.wrap (1 + (s.size : Int)) = 1 + s.size := wrap_small (by omega) (by omega)
    rw [V.cnt, w1, V.nodes]
    have hk := cntK_bounds h0 h1 ks (1 + s.size) f3 (by omega) (by omega)
    have hl := cntL_bounds es m (cntK m (1 + s.size) ks) g6 h0 h1 (by omega) (by omega)
    refine ⟨by omega, hl.2.1, fun h => ?_⟩
    have := hl.2.2 h
    omega
theorem cntL_bounds : ∀ (l : List V) (m n : Int), goodL l → 0 ≤ m → m ≤ 1000 → 1 ≤ n → n ≤ m + 4097 → n ≤ cntL m n l ∧ cntL m n l ≤ m + 4097 ∧ (cntL m n l ≤ m → n + nodesL l ≤ cntL m n l)
  | [], m, n, _, _, _, h2, h3 => by rw [cntL, nodesL]; exact ⟨by omega, h3, fun h => by omega⟩
  | v :: l, m, n, hg, h0, h1, h2, h3 => by
    rw [goodL] at hg
    rw [cntL, nodesL]
    by_cases h : n ≤ m
    · have w1 : IntKind.i64.wrap (m - n) = m - n := wrap_small (by omega) (by omega)
      rw [if_pos h, w1]
      have hv := cnt_bounds v (m - n) hg.1 (by omega) (by omega)
      have w2 : IntKind.i64.wrap (n + v.cnt (m - n)) = n + v.cnt (m - n) := wrap_small (by omega) (by omega)
      rw [w2]
      have hl := cntL_bounds l m (n + v.cnt (m - n)) hg.2 h0 h1 (by omega) (by omega)
      refine ⟨by omega, hl.2.1, fun q => ?_⟩
      have h5 := hl.2.2 q
      have h6 := hv.2.2 (by omega)
      omega
    · rw [if_neg h]
      exact ⟨by omega, h3, fun q => by omega⟩
end
theorem small_nodes {l : List V} (hs : smallB 40 l = true) (hg : goodL l) : nodesL l ≤ 40 * l.length := by
  induction l with
  | nil => simp [nodesL]
  | cons v r ih =>
    simp only [smallB, List.all_cons, Bool.and_eq_true, Bool.not_eq_true', decide_eq_false_iff_not] at hs
    rw [goodL] at hg
    have h1 := cnt_bounds v 40 hg.1 (by omega) (by omega)
    have h2 := h1.2.2 (by omega)
    have h3 := ih (by simpa [smallB] using hs.2) hg.2
    rw [nodesL, List.length_cons]
    omega
theorem nodesL_app (a b : List V) : nodesL (a ++ b) = nodesL a + nodesL b := by
  induction a with
  | nil => simp [nodesL]
  | cons v r ih => simp only [List.cons_append, nodesL, ih]; omega
theorem bytesL_app (a b : List V) : bytesL (a ++ b) = bytesL a + bytesL b := by
  induction a with
  | nil => simp [bytesL]
  | cons v r ih => simp only [List.cons_append, bytesL, ih]; omega
theorem nodesL_perm {a b : List V} (h : a.Perm b) : nodesL a = nodesL b := by
  induction h with
  | nil => rfl
  | cons x _ ih => simp only [nodesL, ih]
  | swap x y l => simp only [nodesL]; omega
  | trans _ _ h1 h2 => exact h1.trans h2
theorem bytesL_perm {a b : List V} (h : a.Perm b) : bytesL a = bytesL b := by
  induction h with
  | nil => rfl
  | cons x _ ih => simp only [bytesL, ih]
  | swap x y l => simp only [bytesL]; omega
  | trans _ _ h1 h2 => exact h1.trans h2
theorem depthL_le {d : Nat} : ∀ {l : List V}, (∀ v ∈ l, v.depth ≤ d) → depthL l ≤ d
  | [], _ => by simp [depthL]
  | v :: r, h => by
    rw [depthL]
    have h1 := h v (by simp)
    have h2 := depthL_le (l := r) (fun w hw => h w (by simp [hw]))
    omega
theorem depth_mem : ∀ {l : List V} {v : V}, v ∈ l → v.depth ≤ depthL l
  | [], v, h => by simp at h
  | w :: r, v, h => by
    rw [depthL]
    rcases List.mem_cons.1 h with e | h
    · subst e; omega
    · have := depth_mem h; omega
theorem headI_flat {gs : List (List Int)} (h : ∀ g ∈ gs, g ≠ []) : headI gs = gs.flatten.headD 0 := by
  cases gs with
  | nil => rfl
  | cons g r =>
    cases g with
    | nil => exact absurd rfl (h [] (by simp))
    | cons x q => rfl
theorem lastI_flat {gs : List (List Int)} (h : ∀ g ∈ gs, g ≠ []) : lastI gs = gs.flatten.getLastD 0 := by
  rcases List.eq_nil_or_concat gs with h0 | ⟨gi, gl, h0⟩
  · subst h0; rfl
  · rw [List.concat_eq_append] at h0
    have hgl := h gl (by rw [h0]; simp)
    rcases List.eq_nil_or_concat gl with h1 | ⟨gq, xl, h1⟩
    · exact absurd h1 hgl
    rw [List.concat_eq_append] at h1
    subst h1
    subst h0
    unfold lastI
    simp
theorem flatMap_one (f : List Int → V) : ∀ gs : List (List Int), gs.flatMap (fun g => [f g]) = gs.map f
  | [] => rfl
  | a :: r => by rw [List.flatMap_cons, flatMap_one f r]; rfl
/-- What all of TableSorted's calls are about. -/
structure Sorted (l S : List V) (gs : List (List Int)) : Prop where
  sort : applyRes [V.arr l, V.arr l] (sortByRes (V.arr l) (V.arr l)) = (V.arr S, 0)
  group : applyRes [V.arr l, V.arr l] (groupByRes (V.arr l) (V.arr l)) = (V.arr (gs.map fun g => V.arr (pickL l g)), 0)
  min : applyRes [V.arr l, V.arr l] (minByRes (V.arr l) (V.arr l)) = (S.headD V.zero, 0)
  max : applyRes [V.arr l, V.arr l] (maxByRes (V.arr l) (V.arr l)) = (S.getLastD V.zero, 0)
  uniq : applyRes [V.arr l, V.arr l] (uniqueByRes (V.arr l) (V.arr l)) = (V.arr (gs.flatMap fun g => pickL l (g.take 1)), 0)
  ulen : (gs.flatMap fun g => pickL l (g.take 1)).length = gs.length
  glen : gs.length ≤ l.length
  perm : S.Perm l
  flat : gs.flatMap (pickL l) = S
  valid : ∀ v ∈ l, v.valid = true
  adj : ∀ i (h : i + 1 < S.length), S[i].cmp S[i + 1] ≤ 0
  size : ∀ g ∈ gs, g.length ≤ l.length
  ne : ∀ g ∈ gs, g ≠ []
theorem uniq_nodes (l : List V) : ∀ gs : List (List Int), nodesL (gs.flatMap fun g => pickL l (g.take 1)) ≤ nodesL (gs.flatMap (pickL l)) ∧ bytesL (gs.flatMap fun g => pickL l (g.take 1)) ≤ bytesL (gs.flatMap (pickL l))
  | [] => by simp [nodesL, bytesL]
  | g :: r => by
    have ih := uniq_nodes l r
    have hsp : pickL l g = pickL l (g.take 1) ++ pickL l (g.drop 1) := by
      unfold pickL
      rw [← List.map_append, List.take_append_drop]
    rw [List.flatMap_cons, List.flatMap_cons, hsp, nodesL_app, nodesL_app, nodesL_app, bytesL_app, bytesL_app, bytesL_app]
    omega
theorem group_nodes (l : List V) : ∀ gs : List (List Int), nodesL (gs.map fun g => V.arr (pickL l g)) = gs.length + nodesL (gs.flatMap (pickL l)) ∧ bytesL (gs.map fun g => V.arr (pickL l g)) = bytesL (gs.flatMap (pickL l))
  | [] => by simp [nodesL, bytesL]
  | g :: r => by
    have ih := group_nodes l r
    rw [List.map_cons, List.flatMap_cons, nodesL, bytesL, nodesL_app, bytesL_app, arr_nodes, arr_bytes, List.length_cons]
    omega
theorem sorted_of {l : List V} (hl : l.length ≤ 12) (hs : smallB 40 l = true) (hv : (V.arr [V.arr l]).valid = true) : ∃ S gs, Sorted l S gs := by
  obtain ⟨a1, a2, a3, a4⟩ := valid_good hv
  rw [arr_good] at a1
  obtain ⟨_, a1⟩ := a1
  rw [goodL] at a1
  have hgl := (arr_good.1 a1.1).2
  rw [arr_depth, depthL, arr_depth] at a2
  rw [arr_nodes, nodesL, arr_nodes] at a3
  rw [arr_bytes, bytesL, arr_bytes] at a4
  have hdep : depthL l ≤ 30 := by omega
  have hbyt : bytesL l ≤ 65536 := by omega
  have hnod := small_nodes hs hgl
  have hgood := goodL_iff.1 hgl
  have hval : ∀ v ∈ l, v.valid = true := fun v hv => by
    have h1 := depth_mem hv
    have hn : ∀ {l : List V} {v : V}, v ∈ l → v.nodes ≤ nodesL l ∧ v.bytes ≤ bytesL l := by
      intro l
      induction l with
      | nil => intro v h; simp at h
      | cons w r ih =>
        intro v h
        rw [nodesL, bytesL]
        rcases List.mem_cons.1 h with e | h
        · subst e; omega
        · have := ih h; omega
    have h2 := hn hv
    exact good_valid (hgood v hv) (by omega) (by omega) (by omega)
  have hvv : (V.arr l).valid = true := good_valid (arr_good.2 ⟨by omega, hgl⟩) (by rw [arr_depth]; omega) (by rw [arr_nodes]; omega) (by rw [arr_bytes]; omega)
  have hall : [V.arr l, V.arr l].all V.valid = true := by simp [hvv]
  have he : (V.arr l).els = l := rfl
  have hO : ordO (V.arr l) (V.arr l) = isort (kc l) ((List.range l.length).map Int.ofNat) := rfl
  have hg : grpOf (V.arr l) (V.arr l) = (grp (kc l) (ordO (V.arr l) (V.arr l)), 0) := by
    unfold grpOf grpRes
    rw [if_neg (by simp [V.arr, V.kd]), if_neg (by simp)]
    rfl
  have hneg : ∀ a b, kc l b a = - kc l a b := fun a b => by unfold kc; exact cmp_neg_eq _ _
  have hadjO := isort_adj hneg ((List.range l.length).map Int.ofNat)
  have hperm := pick_perm l (kc l)
  have hlenO := ordO_length (V.arr l) (V.arr l)
  have hrange : ∀ x ∈ ordO (V.arr l) (V.arr l), 0 ≤ x ∧ x < (l.length : Int) := fun x hx => ordO_mem hx
  have hne := grp_ne (kc l) (ordO (V.arr l) (V.arr l))
  have hflat := grp_flat (kc l) (ordO (V.arr l) (V.arr l))
  rw [he] at hlenO
  rw [← hO] at hadjO hperm
  generalize ordO (V.arr l) (V.arr l) = O at *
  generalize hgs : grp (kc l) O = gs at *
  have hfl : gs.flatMap (pickL l) = pickL l O := by rw [pick_flat, hflat]
  have hnum := flat_num hne
  rw [hflat, hlenO] at hnum
  have hSmem : ∀ v ∈ pickL l O, v ∈ l := fun v h => hperm.mem_iff.1 h
  have hSg : goodL (pickL l O) := goodL_iff.2 (fun v h => hgood v (hSmem v h))
  have hSd : depthL (pickL l O) ≤ depthL l := depthL_le (fun v h => depth_mem (hSmem v h))
  have hSn := nodesL_perm hperm
  have hSb := bytesL_perm hperm
  have hSl : (pickL l O).length = l.length := by rw [pick_len, hlenO]
  have hgm : ∀ g ∈ gs, ∀ v ∈ pickL l g, v ∈ l := fun g hg v hv => hSmem v (by rw [← hfl]; exact List.mem_flatMap.2 ⟨g, hg, hv⟩)
  have hgsz : ∀ g ∈ gs, g.length ≤ l.length := fun g hg => by have := flat_len hg; rw [hflat, hlenO] at this; exact this
  have hhead : l.getD (headI gs).toNat V.zero = (pickL l O).headD V.zero ∨ gs = [] := by
    rw [headI_flat hne, hflat]
    cases O with
    | nil => right; simpa [grp] using hgs.symm
    | cons x r => left; rfl
  have hlast : l.getD (lastI gs).toNat V.zero = (pickL l O).getLastD V.zero ∨ gs = [] := by
    rw [lastI_flat hne, hflat]
    rcases List.eq_nil_or_concat O with h0 | ⟨q, x, h0⟩
    · right; rw [h0] at hgs; simpa [grp] using hgs.symm
    · left; rw [List.concat_eq_append] at h0; rw [h0]; simp [pickL]
  have hnil : gs = [] → pickL l O = [] := fun h => by rw [← hfl, h]; rfl
  refine ⟨pickL l O, gs, ?_, ?_, ?_, ?_, ?_, uniq_len l gs hne, hnum, hperm, hfl, hval, ?_, hgsz, hne⟩
  · unfold applyRes
    rw [if_pos hall]
    unfold sortByRes chosenRes
    rw [hg, if_neg (by simp), he]
    simp only [hfl]
    exact good_fit (arr_good.2 ⟨by omega, hSg⟩) (by rw [arr_depth]; omega) (by rw [arr_nodes]; omega) (by rw [arr_bytes]; omega)
  · unfold applyRes
    rw [if_pos hall]
    unfold groupByRes chosenRes
    rw [hg, if_neg (by simp), he]
    have hmp := flatMap_one (fun g => V.arr (pickL l g)) gs
    simp only [hmp]
    have hn := group_nodes l gs
    rw [hfl] at hn
    refine good_fit (arr_good.2 ⟨by simp; omega, goodL_iff.2 ?_⟩) ?_ (by rw [arr_nodes]; omega) (by rw [arr_bytes]; omega)
    · intro v hv
      obtain ⟨g, hg, rfl⟩ := List.mem_map.1 hv
      exact arr_good.2 ⟨by rw [pick_len]; have := hgsz g hg; omega, goodL_iff.2 (fun w hw => hgood w (hgm g hg w hw))⟩
    · rw [arr_depth]
      have : depthL (gs.map fun g => V.arr (pickL l g)) ≤ 1 + depthL l := depthL_le (fun v hv => by
        obtain ⟨g, hg, rfl⟩ := List.mem_map.1 hv
        rw [arr_depth]
        have := depthL_le (l := pickL l g) (fun w hw => depth_mem (hgm g hg w hw))
        omega)
      omega
  · unfold applyRes
    rw [if_pos hall]
    unfold minByRes
    rw [hg, he]
    by_cases hgn : gs = []
    · rw [if_pos (.inr hgn), hnil hgn]; rfl
    · rw [if_neg (by simp [hgn]), hhead.resolve_right hgn]
  · unfold applyRes
    rw [if_pos hall]
    unfold maxByRes
    rw [hg, he]
    by_cases hgn : gs = []
    · rw [if_pos (.inr hgn), hnil hgn]; rfl
    · rw [if_neg (by simp [hgn]), hlast.resolve_right hgn]
  · unfold applyRes
    rw [if_pos hall]
    unfold uniqueByRes chosenRes
    rw [hg, if_neg (by simp), he]
    simp only []
    have hn := uniq_nodes l gs
    rw [hfl] at hn
    have hum : ∀ v ∈ gs.flatMap (fun g => pickL l (g.take 1)), v ∈ l := fun v hv => by
      obtain ⟨g, hg, hv⟩ := List.mem_flatMap.1 hv
      refine hgm g hg v ?_
      obtain ⟨x, hx, rfl⟩ := List.mem_map.1 hv
      exact List.mem_map.2 ⟨x, List.mem_of_mem_take hx, rfl⟩
    refine good_fit (arr_good.2 ⟨by rw [uniq_len l gs hne]; omega, goodL_iff.2 (fun v hv => hgood v (hum v hv))⟩) ?_ (by rw [arr_nodes]; omega) (by rw [arr_bytes]; omega)
    rw [arr_depth]
    have := depthL_le (fun v hv => depth_mem (hum v hv))
    omega
  · intro i h
    have h' : i + 1 < O.length := by rwa [pick_len] at h
    have := hadjO.get h'
    unfold kc at this
    simpa [pickL] using this
end Go.Proofs.Ytnkknmdpakebhaa
