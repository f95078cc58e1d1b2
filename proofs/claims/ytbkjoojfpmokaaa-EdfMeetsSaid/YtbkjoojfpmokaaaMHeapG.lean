/- Plain facts on sorted rows over any order: for heaps of jobs. -/
import Derived.Sort.LoopGhostIn

namespace Hg
/-- Two of a row that are not less than each other are one. -/
def Anti {α : Type} (lt : α → α → Bool) (l : List α) : Prop := ∀ a ∈ l, ∀ b ∈ l, lt a b = false → lt b a = false → a = b
def SrtG {α : Type} (lt : α → α → Bool) : List α → Prop := List.Pairwise (fun a b => lt b a = false)
def insG {α : Type} (lt : α → α → Bool) (x : α) : List α → List α
  | [] => [x]
  | y :: l => if lt x y = true then x :: y :: l else y :: insG lt x l
theorem Anti.perm {α : Type} {lt : α → α → Bool} {l m : List α} (h : Anti lt l) (hp : l.Perm m) : Anti lt m := fun a ha b hb => h a (hp.mem_iff.2 ha) b (hp.mem_iff.2 hb)
theorem Anti.tail {α : Type} {lt : α → α → Bool} {x : α} {l : List α} (h : Anti lt (x :: l)) : Anti lt l := fun a ha b hb => h a (List.mem_cons_of_mem _ ha) b (List.mem_cons_of_mem _ hb)
theorem Anti.filter {α : Type} {lt : α → α → Bool} {l : List α} (h : Anti lt l) (p : α → Bool) : Anti lt (l.filter p) := fun a ha b hb => h a (List.mem_filter.1 ha).1 b (List.mem_filter.1 hb).1
theorem insG_perm {α : Type} (lt : α → α → Bool) (x : α) (l : List α) : (insG lt x l).Perm (x :: l) := by
  induction l with
  | nil => exact List.Perm.refl _
  | cons y l ih =>
    unfold insG
    split
    · exact List.Perm.refl _
    · exact (List.Perm.cons _ ih).trans (List.Perm.swap _ _ _)
theorem insG_len {α : Type} (lt : α → α → Bool) (x : α) (l : List α) : (insG lt x l).length = l.length + 1 := by rw [(insG_perm lt x l).length_eq]; simp
theorem insG_srt {α : Type} {lt : α → α → Bool} (ha : ∀ a b, lt a b = true → lt b a = false) (hn : ∀ a b c, lt a b = false → lt b c = false → lt a c = false) {x : α} {l : List α} (h : SrtG lt l) : SrtG lt (insG lt x l) := by
  induction l with
  | nil => unfold insG SrtG; simp
  | cons y l ih =>
    obtain ⟨h1, h2⟩ := List.pairwise_cons.1 h
    unfold insG
    split
    · rename_i hxy
      refine List.pairwise_cons.2 ⟨fun z hz => ?_, h⟩
      rcases List.mem_cons.1 hz with rfl | hz
      · exact ha _ _ hxy
      · exact hn _ _ _ (h1 z hz) (ha _ _ hxy)
    · rename_i hxy
      refine List.pairwise_cons.2 ⟨fun z hz => ?_, ih h2⟩
      rcases List.mem_cons.1 ((insG_perm lt x l).mem_iff.1 hz) with rfl | hz
      · exact Bool.eq_false_iff.2 hxy
      · exact h1 z hz
theorem srtG_eq {α : Type} {lt : α → α → Bool} (hirr : ∀ a, lt a a = false) : ∀ {l m : List α}, Anti lt l → SrtG lt l → SrtG lt m → l.Perm m → l = m
  | [], m, _, _, _, h => (List.Perm.nil_eq h)
  | x :: l, [], _, _, _, h => absurd h.length_eq (by simp)
  | x :: l, y :: m, hA, h1, h2, h => by
    obtain ⟨a1, a2⟩ := List.pairwise_cons.1 h1
    obtain ⟨b1, b2⟩ := List.pairwise_cons.1 h2
    have hy : y ∈ x :: l := h.mem_iff.2 List.mem_cons_self
    have e : x = y := by
      refine hA x List.mem_cons_self y hy ?_ ?_
      · rcases List.mem_cons.1 (h.mem_iff.1 (List.mem_cons_self (a := x))) with e | e
        · subst e; exact hirr _
        · exact b1 x e
      · rcases List.mem_cons.1 hy with e | e
        · subst e; exact hirr _
        · exact a1 y e
    subst e
    rw [srtG_eq hirr hA.tail a2 b2 ((List.perm_cons x).1 h)]
/-- The least one that was taken is the first one. -/
theorem srtG_take {α : Type} {lt : α → α → Bool} (hirr : ∀ a, lt a a = false) {x y : α} {l m : List α} (hA : Anti lt (x :: l)) (h : SrtG lt (x :: l)) (hp : (y :: m).Perm (x :: l)) (hm : ∀ z ∈ m, lt z y = false) : y = x ∧ m.Perm l := by
  obtain ⟨h1, h2⟩ := List.pairwise_cons.1 h
  have hy : y ∈ x :: l := hp.mem_iff.1 List.mem_cons_self
  have e : y = x := by
    refine hA y hy x List.mem_cons_self ?_ ?_
    · rcases List.mem_cons.1 hy with e | e
      · subst e; exact hirr _
      · exact h1 y e
    · rcases List.mem_cons.1 (hp.mem_iff.2 (List.mem_cons_self (a := x))) with e | e
      · subst e; exact hirr _
      · exact hm x e
  subst e
  exact ⟨rfl, (List.perm_cons y).1 hp⟩
theorem srtG_filter {α : Type} {lt : α → α → Bool} {l : List α} (h : SrtG lt l) (p : α → Bool) : SrtG lt (l.filter p) := List.Pairwise.filter p h
end Hg
