/- Plain facts on trees whose root is not greater than what is below it. -/
import Derived.Sort.LoopGhostIn

namespace Hm
set_option linter.unusedVariables false
set_option linter.unusedSimpArgs false
inductive HT (α : Type) where
  | leaf : HT α
  | node (x : α) (l r : HT α) : HT α
def HT.toL {α : Type} : HT α → List α
  | .leaf => []
  | .node x l r => x :: (l.toL ++ r.toL)
def HT.ord {α : Type} (lt : α → α → Bool) : HT α → Prop
  | .leaf => True
  | .node x l r => (∀ y ∈ l.toL ++ r.toL, lt y x = false) ∧ l.ord lt ∧ r.ord lt
/-- An order: what is less is not less the other way round; not to be less goes on. -/
structure WO {α : Type} (lt : α → α → Bool) : Prop where
  asym : ∀ a b, lt a b = true → lt b a = false
  ntr : ∀ a b c, lt a b = false → lt b c = false → lt a c = false
theorem HT.ord_root {α : Type} {lt : α → α → Bool} (h : WO lt) {x : α} {l r : HT α} (ho : (HT.node x l r).ord lt) : ∀ y ∈ (HT.node x l r).toL, lt y x = false := by
  intro y hy
  rcases List.mem_cons.1 hy with rfl | hy
  · cases hb : lt y y with
    | false => rfl
    | true => have := h.asym y y hb; rw [hb] at this; cases this
  · exact ho.1 y hy
/-- One part of a meld. -/
theorem HT.meld_one {α : Type} {lt : α → α → Bool} (h : WO lt) {x y : α} {l r bl br t : HT α} (ha : (HT.node x l r).ord lt) (hb : (HT.node y bl br).ord lt) (hxy : lt y x = false) (ht : t.ord lt) (hp : t.toL.Perm (r.toL ++ (HT.node y bl br).toL)) :
    ((HT.node x l t).ord lt ∧ (HT.node x l t).toL.Perm ((HT.node x l r).toL ++ (HT.node y bl br).toL)) ∧ ((HT.node x t l).ord lt ∧ (HT.node x t l).toL.Perm ((HT.node x l r).toL ++ (HT.node y bl br).toL)) := by
  have key : ∀ z ∈ t.toL, lt z x = false := by
    intro z hz
    rcases List.mem_append.1 (hp.mem_iff.1 hz) with h1 | h1
    · exact ha.1 z (List.mem_append_right _ h1)
    · exact h.ntr z y x (HT.ord_root h hb z h1) hxy
  have pm : (x :: (l.toL ++ t.toL)).Perm ((x :: (l.toL ++ r.toL)) ++ (HT.node y bl br).toL) := by
    rw [List.cons_append, List.append_assoc]
    exact List.Perm.cons _ (List.Perm.append_left _ hp)
  refine ⟨⟨⟨fun z hz => ?_, ha.2.1, ht⟩, pm⟩, ⟨fun z hz => ?_, ht, ha.2.1⟩, ?_⟩
  · rcases List.mem_append.1 hz with h1 | h1
    · exact ha.1 z (List.mem_append_left _ h1)
    · exact key z h1
  · rcases List.mem_append.1 hz with h1 | h1
    · exact key z h1
    · exact ha.1 z (List.mem_append_left _ h1)
  · exact (List.Perm.cons _ List.perm_append_comm).trans pm
def HT.sw {α : Type} (lt : α → α → Bool) : HT α → HT α → Nat
  | .node x _ _, .node y _ _ => if lt y x = true then 1 else 0
  | _, _ => 0
theorem HT.sw_le {α : Type} (lt : α → α → Bool) (a b : HT α) : HT.sw lt a b ≤ 1 := by
  unfold HT.sw; split
  · split <;> omega
  · omega
/-- Numbers in order. -/
def Srt : List Int → Prop := List.Pairwise (· ≤ ·)
def ins (x : Int) : List Int → List Int
  | [] => [x]
  | y :: l => if x < y then x :: y :: l else y :: ins x l
theorem ins_perm (x : Int) (l : List Int) : (ins x l).Perm (x :: l) := by
  induction l with
  | nil => exact List.Perm.refl _
  | cons y l ih =>
    unfold ins
    split
    · exact List.Perm.refl _
    · exact (List.Perm.cons _ ih).trans (List.Perm.swap _ _ _)
theorem ins_srt {x : Int} {l : List Int} (h : Srt l) : Srt (ins x l) := by
  induction l with
  | nil => unfold ins Srt; simp
  | cons y l ih =>
    obtain ⟨h1, h2⟩ := List.pairwise_cons.1 h
    unfold ins
    split
    · refine List.pairwise_cons.2 ⟨fun z hz => ?_, h⟩
      rcases List.mem_cons.1 hz with rfl | hz
      · omega
      · have := h1 z hz; omega
    · refine List.pairwise_cons.2 ⟨fun z hz => ?_, ih h2⟩
      rcases List.mem_cons.1 ((ins_perm x l).mem_iff.1 hz) with rfl | hz
      · omega
      · exact h1 z hz
theorem srt_eq : ∀ {l m : List Int}, Srt l → Srt m → l.Perm m → l = m
  | [], m, _, _, h => (List.Perm.nil_eq h)
  | x :: l, [], _, _, h => absurd h.length_eq (by simp)
  | x :: l, y :: m, h1, h2, h => by
    obtain ⟨a1, a2⟩ := List.pairwise_cons.1 h1
    obtain ⟨b1, b2⟩ := List.pairwise_cons.1 h2
    have e : x = y := by
      have c1 : y ≤ x := by
        rcases List.mem_cons.1 (h.mem_iff.1 (List.mem_cons_self)) with e | e
        · omega
        · exact b1 x e
      have c2 : x ≤ y := by
        rcases List.mem_cons.1 (h.mem_iff.2 (List.mem_cons_self)) with e | e
        · omega
        · exact a1 y e
      omega
    subst e
    rw [srt_eq a2 b2 ((List.perm_cons x).1 h)]
theorem ltI_wo : WO (fun a b : Int => decide (a < b)) where
  asym := fun a b h => by simp only [decide_eq_true_eq] at h; exact decide_eq_false (by omega)
  ntr := fun a b c h1 h2 => by simp only [decide_eq_false_iff_not] at h1 h2; exact decide_eq_false (by omega)
/-- The least one that was taken is the first one. -/
theorem srt_take {x y : Int} {l m : List Int} (h : Srt (x :: l)) (hp : (y :: m).Perm (x :: l)) (hm : ∀ z ∈ m, decide (z < y) = false) : y = x ∧ m.Perm l := by
  obtain ⟨h1, h2⟩ := List.pairwise_cons.1 h
  have e : y = x := by
    have c1 : x ≤ y := by
      rcases List.mem_cons.1 (hp.mem_iff.1 (List.mem_cons_self)) with e | e
      · omega
      · exact h1 y e
    have c2 : y ≤ x := by
      rcases List.mem_cons.1 (hp.mem_iff.2 (List.mem_cons_self)) with e | e
      · omega
      · have := hm x e; simp only [decide_eq_false_iff_not] at this; omega
    omega
  subst e
  exact ⟨rfl, (List.perm_cons y).1 hp⟩
theorem srt_filter {l : List Int} (h : Srt l) (p : Int → Bool) : Srt (l.filter p) := List.Pairwise.filter p h
end Hm
