/- Plain facts: of tasks that fit, released no sooner than a period behind the last time, no job is late. -/
import Derived.Test.YtbkjoojfpmokaaaMDead2

namespace Hm
set_option linter.unusedVariables false
set_option linter.unusedSimpArgs false
/-- A task's last job: when it was released, how much of it is left, when it is due; when the next one may be released. -/
structure X where
  t : Tk
  rel : Int
  left : Int
  due : Int
  next : Int
/-- What is known of each job. -/
def X.ok (now : Int) (x : X) : Prop := x.t.ok ∧ 0 ≤ x.left ∧ (0 < x.left → x.due ≤ x.next ∧ now ≤ x.due)
/-- What there is to do by a time e: what is left of jobs that are due, and all that may come. -/
def todoX (e now : Int) : List X → Int
  | [] => 0
  | x :: l => (if x.due ≤ e then x.left else 0) + x.t.c * many x.t (e - max now x.next) + todoX e now l
def lateX (now : Int) (l : List X) : Prop := ∃ x ∈ l, 0 < x.left ∧ x.due ≤ now
theorem todoX_append (e now : Int) (l m : List X) : todoX e now (l ++ m) = todoX e now l + todoX e now m := by
  induction l with
  | nil => simp [todoX]
  | cons x l ih => simp only [List.cons_append, todoX, ih]; omega
theorem many_back {t : Tk} {y : Int} (ht : 0 < t.t) (h : t.d ≤ y) : many t (y - t.t) + 1 ≤ many t y := by
  have h1 := (many_last (t := t) (x := y) ht h).2.1
  have h3 := (many_last (t := t) (x := y) ht h).2.2
  have e : t.t * (many t y - 1) = t.t * many t y - t.t := by rw [Int.mul_sub, Int.mul_one]
  have := (many_le_iff (t := t) (x := y - t.t) (n := many t y - 1) ht (by omega)).2 (by omega)
  omega
/-- A release: what there is to do does not grow. -/
theorem release_le {x : X} {e now c wait : Int} (hok : x.t.ok) (hl : 0 ≤ x.left) (hn : x.next ≤ now) (hc0 : 0 ≤ c) (hc : c ≤ x.t.c) (hw : 0 ≤ wait) :
    (if now + x.t.d ≤ e then c else 0) + x.t.c * many x.t (e - max now (now + x.t.t + wait)) ≤ (if x.due ≤ e then x.left else 0) + x.t.c * many x.t (e - max now x.next) := by
  obtain ⟨_, _, h2, h3, h4, h5, _, _⟩ := hok
  have hpos : 0 ≤ (if x.due ≤ e then x.left else 0) := by split <;> omega
  have m1 : max now x.next = now := by omega
  have m2 : max now (now + x.t.t + wait) = now + x.t.t + wait := by omega
  rw [m1, m2]
  have hm := many_mono (t := x.t) (x := e - (now + x.t.t + wait)) (y := (e - now) - x.t.t) (by omega) (by omega)
  by_cases hd : now + x.t.d ≤ e
  · rw [if_pos hd]
    have hb := many_back (t := x.t) (y := e - now) (by omega) (by omega)
    have := mul_le (show 0 ≤ x.t.c by omega) (show many x.t (e - (now + x.t.t + wait)) + 1 ≤ many x.t (e - now) by omega)
    rw [Int.mul_add, Int.mul_one] at this
    omega
  · rw [if_neg hd]
    have hm2 := many_mono (t := x.t) (x := e - (now + x.t.t + wait)) (y := e - now) (by omega) (by omega)
    have := mul_le (show 0 ≤ x.t.c by omega) hm2
    omega
theorem todoX_nonneg {e now : Int} {l : List X} (h : ∀ x ∈ l, x.t.ok ∧ 0 ≤ x.left) : 0 ≤ todoX e now l := by
  induction l with
  | nil => simp [todoX]
  | cons x l ih =>
    obtain ⟨⟨_, _, h2, h3, h4, _⟩, h6⟩ := h x (by simp)
    have := ih (fun y hy => h y (by simp [hy]))
    have h7 := Int.mul_nonneg (show 0 ≤ x.t.c by omega) (many_nonneg (t := x.t) (x := e - max now x.next) (by omega))
    simp only [todoX]; split <;> omega
/-- Nothing is to do by now: nobody is late. -/
theorem todoX_late {e : Int} {l : List X} (h : ∀ x ∈ l, x.t.ok ∧ 0 ≤ x.left) (ht : todoX e e l ≤ 0) : ¬ lateX e l := by
  rintro ⟨x, hx, h1, h2⟩
  obtain ⟨a, b, rfl⟩ := List.append_of_mem hx
  rw [todoX_append] at ht
  have k1 := todoX_nonneg (e := e) (now := e) (l := a) (fun y hy => h y (by simp [hy]))
  have k2 := todoX_nonneg (e := e) (now := e) (l := b) (fun y hy => h y (by simp [hy]))
  obtain ⟨⟨_, _, h3, h4, h5, _⟩, _⟩ := h x (by simp)
  have h7 := Int.mul_nonneg (show 0 ≤ x.t.c by omega) (many_nonneg (t := x.t) (x := e - max e x.next) (by omega))
  simp only [todoX] at ht
  rw [if_pos h2] at ht; omega
/-- Where no job that is due by e is left, what may come is no more than the work of all. -/
theorem todoX_none {e now : Int} {l : List X} (hl : ∀ x ∈ l, x.due ≤ e → x.left ≤ 0) (hok : ∀ x ∈ l, x.t.ok) : todoX e now l ≤ of (l.map X.t) (e - now) := by
  induction l with
  | nil => simp [todoX, of]
  | cons x l ih =>
    have ih := ih (fun y hy => hl y (by simp [hy])) (fun y hy => hok y (by simp [hy]))
    obtain ⟨_, _, h2, h3, h4, h5, _, _⟩ := hok x (by simp)
    have hm := many_mono (t := x.t) (x := e - max now x.next) (y := e - now) (by omega) (by omega)
    have := mul_le (show 0 ≤ x.t.c by omega) hm
    have h6 : (if x.due ≤ e then x.left else 0) ≤ 0 := by
      split
      · exact hl x (by simp) ‹_›
      · omega
    simp only [List.map_cons, todoX, of]; omega
theorem todoX_start {e : Int} {l : List X} (hl : ∀ x ∈ l, x.left = 0) (hok : ∀ x ∈ l, x.t.ok) : todoX e 0 l ≤ of (l.map X.t) e := by
  have := todoX_none (e := e) (now := 0) (l := l) (fun x hx _ => by have := hl x hx; omega) hok
  simpa using this
/-- One piece of work is done, of a job whose deadline is the earliest, if there is any. -/
def DoesX (l m : List X) : Prop := (m = l ∧ ∀ x ∈ l, ¬ 0 < x.left) ∨ ∃ a x b, l = a ++ x :: b ∧ m = a ++ ⟨x.t, x.rel, x.left - 1, x.due, x.next⟩ :: b ∧ 0 < x.left ∧ ∀ y ∈ l, 0 < y.left → x.due ≤ y.due
theorem doesX_todo {e now : Int} {l m : List X} (h : DoesX l m) : todoX e now m ≤ todoX e now l ∧ ((∃ x ∈ l, 0 < x.left ∧ x.due ≤ e) → todoX e now m = todoX e now l - 1) := by
  rcases h with ⟨rfl, hn⟩ | ⟨a, x, b, rfl, rfl, hx, hb⟩
  · exact ⟨Int.le_refl _, fun ⟨x, hx, h1, _⟩ => absurd h1 (hn x hx)⟩
  · simp only [todoX_append, todoX]
    refine ⟨by split <;> omega, fun ⟨y, hy, h1, h2⟩ => ?_⟩
    have := hb y hy h1
    rw [if_pos (by omega), if_pos (by omega)]; omega
/-- All next releases lie behind now: a time later the same is to do. -/
theorem todoX_later {e now : Int} {l : List X} (h : ∀ x ∈ l, now < x.next) : todoX e (now + 1) l = todoX e now l := by
  induction l with
  | nil => rfl
  | cons x l ih =>
    have h1 := h x (by simp)
    have e1 : max (now + 1) x.next = x.next := by omega
    have e2 : max now x.next = x.next := by omega
    simp only [todoX]; rw [ih (fun y hy => h y (by simp [hy])), e1, e2]
/-- What is known at a time ahead of the releases. -/
def Inv (now : Int) (l : List X) : Prop := (∀ x ∈ l, x.t.ok ∧ 0 ≤ x.left ∧ (0 < x.left → x.due ≤ x.next)) ∧ (∀ y, 0 ≤ y → of (l.map X.t) y ≤ y) ∧ ∀ e, now ≤ e → todoX e now l ≤ e - now
theorem Inv.not_late {now : Int} {l : List X} (h : Inv now l) : ¬ lateX now l := todoX_late (fun x hx => ⟨(h.1 x hx).1, (h.1 x hx).2.1⟩) (by have := h.2.2 now (Int.le_refl _); omega)
theorem Inv.start {l : List X} (hl : ∀ x ∈ l, x.left = 0) (hok : ∀ x ∈ l, x.t.ok) (hf : ∀ y, 0 ≤ y → of (l.map X.t) y ≤ y) : Inv 0 l :=
  ⟨fun x hx => ⟨hok x hx, by have := hl x hx; omega, fun h => by have := hl x hx; omega⟩, hf, fun e he => by have := todoX_start (e := e) hl hok; have := hf e he; omega⟩
/-- Ahead of its next release a job is done. -/
theorem Inv.done {now : Int} {l : List X} (h : Inv now l) {x : X} (hx : x ∈ l) (hn : x.next ≤ now) : x.left = 0 := by
  obtain ⟨_, h1, h2⟩ := h.1 x hx
  by_cases hp : 0 < x.left
  · have := h2 hp
    exact absurd ⟨x, hx, hp, by omega⟩ h.not_late
  · omega
/-- A release of one task. -/
theorem Inv.release {now c wait : Int} {a b : List X} {x : X} (h : Inv now (a ++ x :: b)) (hn : x.next ≤ now) (hc0 : 0 < c) (hc : c ≤ x.t.c) (hw : 0 ≤ wait) : Inv now (a ++ ⟨x.t, now, c, now + x.t.d, now + x.t.t + wait⟩ :: b) := by
  obtain ⟨h1, h2, h3⟩ := h
  have hx := h1 x (by simp)
  obtain ⟨_, _, g2, g3, g4, g5, _, _⟩ := id hx.1
  refine ⟨fun y hy => ?_, ?_, fun e he => ?_⟩
  · rcases List.mem_append.1 hy with hy | hy
    · exact h1 y (by simp [hy])
    · rcases List.mem_cons.1 hy with rfl | hy
      · exact ⟨hx.1, by simp only; omega, fun _ => by simp only; omega⟩
      · exact h1 y (by simp [hy])
  · simpa using h2
  · have := h3 e he
    rw [todoX_append] at this ⊢
    have hr := release_le (x := x) (e := e) (now := now) (c := c) (wait := wait) hx.1 hx.2.1 hn (by omega) hc hw
    simp only [todoX] at this ⊢
    omega
/-- A slot: one piece of work is done, and time goes on. -/
theorem Inv.slot {now : Int} {l m : List X} (h : Inv now l) (hd : DoesX l m) (hn : ∀ x ∈ l, now < x.next) : Inv (now + 1) m := by
  obtain ⟨h1, h2, h3⟩ := h
  have hmt : m.map X.t = l.map X.t := by
    rcases hd with ⟨rfl, _⟩ | ⟨a, x, b, rfl, rfl, _, _⟩
    · rfl
    · simp
  refine ⟨fun y hy => ?_, by rw [hmt]; exact h2, fun e he => ?_⟩
  · rcases hd with ⟨rfl, _⟩ | ⟨a, x, b, rfl, rfl, hp, _⟩
    · exact h1 y hy
    · have hx := h1 x (by simp)
      rcases List.mem_append.1 hy with hy | hy
      · exact h1 y (by simp [hy])
      · rcases List.mem_cons.1 hy with rfl | hy
        · exact ⟨hx.1, by simp only; omega, fun _ => hx.2.2 hp⟩
        · exact h1 y (by simp [hy])
  · have a := h3 e (by omega)
    obtain ⟨b, c⟩ := doesX_todo (e := e) (now := now + 1) hd
    rw [todoX_later hn] at b c
    by_cases hx : ∃ x ∈ l, 0 < x.left ∧ x.due ≤ e
    · have := c hx; omega
    · have d := todoX_none (e := e) (now := now + 1) (l := l) (fun x g1 g2 => Int.not_lt.1 fun g3 => hx ⟨x, g1, g3, g2⟩) (fun x hx => (h1 x hx).1)
      rw [todoX_later hn] at d
      have := h2 (e - (now + 1)) (by omega)
      omega
end Hm
