/- The abstract machine 'Pm', part N: a region that draws its order: where the operations that meet are ordered, every order gives the same. -/
import Derived.Test.YtnkknmdpakebhaaPmM
import Derived.Orders
set_option linter.unusedSimpArgs false
set_option linter.unusedVariables false
namespace Go.Pm
open Go.RowKit

/-! ### What an operation looks at -/
def clsOp : Op → Nat
  | .load .. => 1
  | .store .. => 2
  | .alloc _ | .box .. | .buildSlice .. => 3
  | .call cl => match cl.callee with
    | .builtin .append => 4
    | _ => 0
  | _ => 0
def idsOf : Option T → List Nat
  | some (.obj id _ _) => [id]
  | _ => []
def sup (ρ : Operand → Option T) (d : Nat) : Op → List Nat
  | .load _ a | .store _ a _ => idsOf (ρ a)
  | .alloc _ | .box .. | .buildSlice .. => [d]
  | .call cl => match cl.callee with
    | .builtin .append => match cl.args.toList with
      | s :: _ => match ρ s with
        | some (.own id _) => [id]
        | _ => [d]
      | [] => []
    | _ => []
  | _ => []

theorem allT_congr {ρ ρ' : Operand → Option T} : ∀ {l : List Operand}, (∀ y ∈ l, ρ y = ρ' y) → allT ρ l = allT ρ' l
  | [], _ => rfl
  | y :: l, h => by
    unfold allT
    rw [h y List.mem_cons_self, allT_congr fun z hz => h z (List.mem_cons_of_mem _ hz)]
theorem allP_congr {ρ ρ' : Operand → Option T} : ∀ {l : List (Nat × Operand)}, (∀ p ∈ l, ρ p.2 = ρ' p.2) → allP ρ l = allP ρ' l
  | [], _ => rfl
  | (k, y) :: l, h => by
    unfold allP
    rw [h (k, y) List.mem_cons_self, allP_congr fun z hz => h z (List.mem_cons_of_mem _ hz)]
theorem bnd_congr {ρ ρ' : Operand → Option T} {d : Nat} {o : Option Operand} (h : ∀ y, o = some y → ρ y = ρ' y) : bnd ρ d o = bnd ρ' d o := by
  cases o with
  | none => rfl
  | some y => simp only [bnd, h y rfl]
theorem evBuiltin_ρ {tab : Tab} {ρ ρ' : Operand → Option T} {m : Mem} {d : Nat} {b : Builtin} {args : List Operand} {tys : List Nat} (h : ∀ y ∈ args, ρ y = ρ' y) : evBuiltin tab ρ m d b args tys = evBuiltin tab ρ' m d b args tys := by
  unfold evBuiltin
  split
  · rename_i x t
    rw [h x (by simp)]
  · rename_i s x t t'
    rw [h s (by simp), h x (by simp)]
  · rename_i t x y
    rw [h x (by simp), h y (by simp)]
  · rename_i t x y
    rw [h x (by simp), h y (by simp)]
  · rfl
theorem evOp_ρ {tab : Tab} {ρ ρ' : Operand → Option T} {m : Mem} {d : Nat} {op : Op} (h : ∀ y ∈ op.operands, ρ y = ρ' y) : evOp tab ρ m d op = evOp tab ρ' m d op := by
  cases op <;> simp only [Op.operands] at h <;> simp only [evOp] <;> try rfl
  case move x => rw [h x (by simp)]
  case assign x => rw [h x (by simp)]
  case pick c a b => rw [h c (by simp), h a (by simp), h b (by simp)]
  case box e x => rw [h x (by simp)]
  case load t a => rw [h a (by simp)]
  case store t a x => rw [h a (by simp), h x (by simp)]
  case nilCheck x => rw [h x (by simp)]
  case binOp op t x y t' => rw [h x (by simp), h y (by simp)]
  case unOp op t x => rw [h x (by simp)]
  case convert s t x => rw [h x (by simp)]
  case fieldAddr s x f => rw [h x (by simp)]
  case indexAddr t x ix => rw [h x (by simp), h ix (by simp)]
  case extract x k => rw [h x (by simp)]
  case index t x ix => rw [h x (by simp), h ix (by simp)]
  case makeFunc fn first caps =>
    rw [allT_congr (ρ := ρ) (ρ' := ρ') fun y hy => h y (by simp; exact .inr (by simpa using hy))]
  case buildSlice t n parts =>
    rw [allT_congr (ρ := ρ) (ρ' := ρ') fun y hy => h y (by simpa using hy)]
  case build t parts =>
    rw [allP_congr (ρ := ρ) (ρ' := ρ') fun p hp => h p.2 (by simp; exact ⟨p.1, by simpa using hp⟩)]
  case slice t x lo hi mx =>
    have hc : ∀ len mx', (∀ y, mx' = some y → mx = some y) → cut ρ len lo hi mx' = cut ρ' len lo hi mx' := by
      intro len mx' hm
      unfold cut
      rw [bnd_congr (ρ := ρ) (ρ' := ρ') fun y hy => h y (by subst hy; simp), bnd_congr (ρ := ρ) (ρ' := ρ') fun y hy => h y (by subst hy; simp), bnd_congr (ρ := ρ) (ρ' := ρ') (o := mx') fun y hy => h y (by rw [hm y hy]; simp)]
    rw [h x (by simp)]
    simp only [hc _ none (fun y q => by cases q), hc _ mx (fun y q => q)]
  case call cl =>
    obtain ⟨callee, args, tys⟩ := cl
    cases callee <;> simp only [] <;> try rfl
    exact evBuiltin_ρ fun y hy => h y (by simp [Call.operands]; simpa using hy)
theorem sup_ρ {ρ ρ' : Operand → Option T} {d : Nat} {op : Op} (h : ∀ y ∈ op.operands, ρ y = ρ' y) : sup ρ d op = sup ρ' d op := by
  cases op <;> simp only [Op.operands] at h <;> simp only [sup] <;> try rfl
  case load t a => rw [h a (by simp)]
  case store t a x => rw [h a (by simp)]
  case call cl =>
    obtain ⟨callee, args, tys⟩ := cl
    cases callee <;> simp only [] <;> try rfl
    rename_i b
    cases b <;> simp only [] <;> try rfl
    split
    · rename_i s r hs
      rw [h s (by simp [Call.operands]; rw [← Array.mem_toList_iff, hs]; simp)]
    · rfl
theorem evOp_m {tab : Tab} {ρ : Operand → Option T} {m m' : Mem} {d : Nat} {op : Op} (h : ∀ id ∈ sup ρ d op, m id = m' id) : evOp tab ρ m d op = evOp tab ρ m' d op := by
  cases op <;> simp only [sup] at h <;> simp only [evOp] <;> try rfl
  case alloc e => rw [h d (by simp)]
  case box e x => rw [h d (by simp)]
  case load t a =>
    split
    · rfl
    · rename_i i id g off ht ha
      rw [ha] at h
      rw [h id (by simp [idsOf])]
    · rfl
  case store t a x =>
    split
    · rename_i i id g off ys ht ha hx
      rw [ha] at h
      rw [h id (by simp [idsOf])]
    · rfl
  case buildSlice t n parts => rw [h d (by simp)]
  case call cl =>
    obtain ⟨callee, args, tys⟩ := cl
    cases callee <;> simp only [] at h ⊢ <;> try rfl
    rename_i b
    unfold evBuiltin
    split
    · rfl
    · rename_i s x t t' hs ht
      rw [hs] at h
      simp only [] at h
      split
      · split
        · rename_i e sz by_ z id xs ys h1 h2 h3
          rw [h2] at h
          rw [h id (by simp)]
        · rename_i e sz by_ z ys h1 h2 h3
          rw [h2] at h
          rw [h d (by simp)]
        · rfl
      · rfl
    · rfl
    · rfl
    · rfl
/-- What an operation changes, and what it found there. -/
theorem evOp_u {tab : Tab} {ρ : Operand → Option T} {m : Mem} {d : Nat} {op : Op} {out : Option T} {id : Nat} {o : Own} (h : evOp tab ρ m d op = some (out, some (id, o))) :
    (clsOp op = 2 ∧ id ∈ sup ρ d op ∧ ∃ g cs, m id = some (.box g cs)) ∨ (clsOp op = 3 ∧ id = d ∧ m d = none) ∨
    (clsOp op = 4 ∧ ((∃ e s n, m id = some (.tok e s n)) ∨ (id = d ∧ m d = none)) ∧ id ∈ sup ρ d op) := by
  cases op <;> simp only [evOp] at h <;> try (cases h; done)
  case move x => obtain ⟨a, _, h2⟩ := map_eq h; cases h2
  case assign x => obtain ⟨a, _, h2⟩ := map_eq h; cases h2
  case pick =>
    split at h
    · obtain ⟨a, _, h2⟩ := map_eq h; cases h2
    · cases h
  case alloc e =>
    split at h
    · rename_i i hi hd; cases h; exact .inr (.inl ⟨rfl, rfl, hd⟩)
    · cases h
  case box e x =>
    split at h
    · rename_i i hi hd; cases h; exact .inr (.inl ⟨rfl, rfl, hd⟩)
    · cases h
  case load t a =>
    split at h
    · obtain ⟨a, _, h2⟩ := map_eq h; cases h2
    · split at h
      · split at h
        · obtain ⟨a, _, h2⟩ := map_eq h; cases h2
        · cases h
      · cases h
    · cases h
  case store t a x =>
    split at h
    · rename_i i id' g off ys ht ha hx
      split at h
      · rename_i cs hm
        split at h
        · cases h; exact .inl ⟨rfl, by simp [sup, ha, idsOf], _, cs, hm⟩
        · cases h
      · cases h
    · cases h
  case nilCheck x => split at h <;> cases h
  case binOp op t x y t' =>
    split at h
    · split at h
      · obtain ⟨a, _, h2⟩ := map_eq h; cases h2
      · cases h
    · cases h
  case unOp op t x =>
    split at h
    · obtain ⟨a, _, h2⟩ := map_eq h; cases h2
    · cases h
  case convert s t x =>
    split at h
    · obtain ⟨a, _, h2⟩ := map_eq h; cases h2
    · cases h
  case fieldAddr s x f =>
    split at h
    · obtain ⟨a, _, h2⟩ := map_eq h; cases h2
    · split at h
      · split at h <;> cases h
      · cases h
    · cases h
  case indexAddr t x ix =>
    split at h
    · split at h
      · split at h <;> cases h
      · cases h
    · split at h
      · split at h <;> cases h
      · cases h
    · cases h
  case build t parts =>
    split at h
    · obtain ⟨a, _, h2⟩ := map_eq h; cases h2
    · cases h
  case slice t x lo hi mx =>
    split at h
    · split at h <;> cases h
    · split at h
      · split at h
        · split at h <;> cases h
        · cases h
      · cases h
    · cases h
  case extract x k =>
    split at h
    · obtain ⟨a, _, h2⟩ := map_eq h; cases h2
    · cases h
  case makeFunc fn first caps =>
    split at h
    · split at h
      · obtain ⟨a, _, h2⟩ := bind_eq h
        split at h2 <;> cases h2
      · cases h
    · cases h
  case buildSlice t n parts =>
    split at h
    · split at h
      · rename_i hd
        split at h
        · cases h; exact .inr (.inl ⟨rfl, rfl, hd⟩)
        · cases h
      · cases h
    · cases h
  case index t x ix =>
    split at h
    · split at h
      · split at h <;> cases h
      · cases h
    · cases h
  case call cl =>
    obtain ⟨callee, args, tys⟩ := cl
    cases callee <;> simp only [] at h <;> try (cases h; done)
    rename_i b
    unfold evBuiltin at h
    split at h
    · split at h
      · cases h
      · cases h
      · obtain ⟨a, _, h2⟩ := map_eq h; cases h2
      · cases h
    · rename_i s x t t' hs ht
      refine .inr (.inr ⟨rfl, ?_⟩)
      split at h
      · split at h
        · rename_i e sz by_ z id' xs ys h1 h2 h3
          split at h
          · rename_i ie e' sz' n hie hm
            split at h
            · cases h
            · split at h
              · cases h; exact ⟨.inl ⟨_, _, _, hm⟩, by simp [sup, hs, h2]⟩
              · cases h
          · cases h
        · rename_i e sz by_ z ys h1 h2 h3
          split at h
          · rename_i ie hie hd
            split at h
            · cases h
            · split at h
              · cases h; exact ⟨.inr ⟨rfl, hd⟩, by simp [sup, hs, h2]⟩
              · cases h
          · cases h
        · cases h
      · cases h
    · split at h <;> cases h
    · split at h <;> cases h
    · cases h
end Go.Pm
