/- Plain facts: work that comes due ahead of the busy length's end tells of all times. -/
import Derived.Test.YthkagoomlmgcdaaMDead2
import Derived.Test.YthkagoomlmgcdaaMBusy

namespace Hm
set_option linter.unusedVariables false
set_option linter.unusedSimpArgs false
theorem of_le_work {l : List Tk} (h : ∀ t ∈ l, t.ok) {x : Int} (hx : 0 ≤ x) : of l x ≤ work l x := by
  induction l with
  | nil => simp [of, work]
  | cons t l ih =>
    obtain ⟨_, _, h2, h3, h4, _⟩ := h t (by simp)
    have := many_le_jobs (t := t) (x := x) (by omega) (by omega) hx
    have := mul_le (show 0 ≤ t.c by omega) this
    have := ih (fun s hs => h s (by simp [hs]))
    simp only [of, work]
    omega
theorem many_split {t : Tk} (h : t.ok) {L x : Int} (hL : 0 ≤ L) : many t x ≤ jobs t L + many t (x - L) := by
  obtain ⟨_, _, h2, h3, h4, _⟩ := h
  have a := many_next (t := t) (x := x - L) (by omega)
  have b := jobs_up (t := t) (x := L) (by omega)
  have c := jobs_nonneg (t := t) (x := L) (by omega) hL
  have d := many_nonneg (t := t) (x := x - L) (by omega)
  rw [many_le_iff (by omega) (by omega), Int.mul_add]
  omega
theorem of_split {l : List Tk} (h : ∀ t ∈ l, t.ok) {L x : Int} (hL : 0 ≤ L) : of l x ≤ work l L + of l (x - L) := by
  induction l with
  | nil => simp [of, work]
  | cons t l ih =>
    obtain ⟨_, _, h2, h3, h4, _⟩ := h t (by simp)
    have a := mul_le (show 0 ≤ t.c by omega) (many_split (h t (by simp)) (x := x) hL)
    rw [Int.mul_add] at a
    have := ih (fun s hs => h s (by simp [hs]))
    simp only [of, work]
    omega
theorem fits_all {l : List Tk} (h : ∀ t ∈ l, t.ok) {L : Int} (hL : 1 ≤ L) (hw : work l L = L) (hy : ∀ y, 1 ≤ y → y < L → of l y ≤ y) : ∀ (n : Nat) (x : Int), x.toNat ≤ n → 0 ≤ x → of l x ≤ x := by
  intro n
  induction n with
  | zero => intro x hn h0; have : x = 0 := by omega
            subst this; rw [of_zero h]; omega
  | succ n ih =>
    intro x hn h0
    by_cases h1 : x = 0
    · subst h1; rw [of_zero h]; omega
    by_cases h2 : x < L
    · exact hy x (by omega) h2
    · have a := of_split h (L := L) (x := x) (by omega)
      have b := ih (x - L) (by omega) (by omega)
      omega
theorem before_lt {l : List Tk} (h : ∀ t ∈ l, t.ok) {x : Int} (hp : 0 < before l x) : before l x < x := by
  rcases bef_mem 0 l x with h1 | ⟨t, ht, h1, h2⟩
  · unfold before at hp; omega
  · obtain ⟨_, _, h3, h4, h5, _⟩ := h t ht
    have := (last_lt (t := t) (x := x) (by omega) h1).2
    unfold before; omega
theorem before_ge (l : List Tk) (x : Int) : 0 ≤ before l x := bef_ge 0 l x
theorem of_before {l : List Tk} (h : ∀ t ∈ l, t.ok) {x y : Int} (h1 : before l x ≤ y) (h2 : y < x) : of l y = of l (before l x) := by
  have hm := of_mono h h1
  by_cases hlt : of l (before l x) < of l y
  · obtain ⟨t, ht, hc⟩ := (of_lt_iff h h1).1 hlt
    obtain ⟨_, _, h3, h4, h5, _⟩ := h t ht
    have a := many_mono (t := t) (x := y) (y := x - 1) (by omega) (by omega)
    have b := many_nonneg (t := t) (x := before l x) (by omega)
    have c : last t x ≤ before l x := bef_ge_mem ht (by omega)
    have d := (many_le_iff (t := t) (x := before l x) (n := many t (x - 1) - 1) (by omega) (by omega)).1 (by omega)
    unfold last at c
    omega
  · omega
theorem many_less {s t : Tk} {x : Int} (hs : 0 < s.t) (ht : 0 < t.t) (hd : s.d ≤ t.d) (hp : s.t ≤ t.t) : many t x ≤ many s x := by
  have a := many_next (t := s) (x := x) hs
  have b := many_nonneg (t := s) (x := x) hs
  rw [many_le_iff ht b]
  have := Int.mul_le_mul_of_nonneg_right hp b
  omega
end Hm
