/- Plain facts on a processor that always does the work whose deadline is the earliest, all tasks released at once and then each period. -/
import Derived.Test.YthiepacmdlgajaaMQpa

namespace Hm
set_option linter.unusedVariables false
set_option linter.unusedSimpArgs false
/-- A task's job: how much of it is left, when it is due. -/
structure J where
  t : Tk
  left : Int
  due : Int
def J.rel (now : Int) (x : J) : J := if now % x.t.t = 0 then ⟨x.t, x.t.c, now + x.t.d⟩ else x
/-- One piece of work is done, of a job whose deadline is the earliest, if there is any. -/
def Does (l m : List J) : Prop := (m = l ∧ ∀ x ∈ l, ¬ 0 < x.left) ∨ ∃ a x b, l = a ++ x :: b ∧ m = a ++ ⟨x.t, x.left - 1, x.due⟩ :: b ∧ 0 < x.left ∧ ∀ y ∈ l, 0 < y.left → x.due ≤ y.due
def late (now : Int) (l : List J) : Prop := ∃ x ∈ l, 0 < x.left ∧ x.due ≤ now
theorem jobs_rel {t : Tk} {now : Int} (ht : 0 < t.t) (h0 : 0 ≤ now) (h : now % t.t = 0) : now = t.t * jobs t now ∧ jobs t (now + 1) = jobs t now + 1 := by
  obtain ⟨a, rfl⟩ := Int.dvd_of_emod_eq_zero h
  have e : jobs t (t.t * a) = a := by unfold jobs; exact quo_eq ht (by omega) (by omega)
  have e2 : jobs t (t.t * a + 1) = a + 1 := by
    unfold jobs
    have e3 : t.t * (a + 1) = t.t * a + t.t := by rw [Int.mul_add, Int.mul_one]
    exact quo_eq ht (by omega) (by omega)
  rw [e, e2]; exact ⟨rfl, rfl⟩
theorem jobs_not {t : Tk} {now : Int} (ht : 0 < t.t) (h : ¬ now % t.t = 0) : jobs t (now + 1) = jobs t now := by
  have h1 := Int.mul_ediv_add_emod now t.t
  have h2 := Int.emod_nonneg now (show t.t ≠ 0 by omega)
  have h3 := Int.emod_lt_of_pos now ht
  have e3 : t.t * (now / t.t + 1) = t.t * (now / t.t) + t.t := by rw [Int.mul_add, Int.mul_one]
  have e : jobs t now = now / t.t + 1 := by unfold jobs; exact quo_eq ht (by omega) (by omega)
  have e2 : jobs t (now + 1) = now / t.t + 1 := by unfold jobs; exact quo_eq ht (by omega) (by omega)
  rw [e, e2]
/-- How many jobs from a time on are due by another. -/
def fut (t : Tk) (now e : Int) : Int := if many t e - jobs t now < 0 then 0 else many t e - jobs t now
/-- What there is to do by a time e: what is left of jobs that are due, and all that comes. -/
def todo (e now : Int) : List J → Int
  | [] => 0
  | x :: l => (if x.due ≤ e then x.left else 0) + x.t.c * fut x.t now e + todo e now l
theorem todo_append (e now : Int) (l m : List J) : todo e now (l ++ m) = todo e now l + todo e now m := by
  induction l with
  | nil => simp [todo]
  | cons x l ih => simp only [List.cons_append, todo, ih]; omega
theorem fut_nonneg (t : Tk) (now e : Int) : 0 ≤ fut t now e := by unfold fut; split <;> omega
theorem todo_rel {e now : Int} (h0 : 0 ≤ now) {l : List J} (hok : ∀ x ∈ l, x.t.ok) (hl : ∀ x ∈ l, 0 ≤ x.left) : todo e (now + 1) (l.map (J.rel now)) ≤ todo e now l := by
  induction l with
  | nil => simp [todo]
  | cons x l ih =>
    have ih := ih (fun y hy => hok y (by simp [hy])) (fun y hy => hl y (by simp [hy]))
    obtain ⟨_, _, h2, h3, h4, h5, _, _⟩ := hok x (by simp)
    have hx := hl x (by simp)
    have ht : 0 < x.t.t := by omega
    simp only [List.map_cons, todo]
    have key : (if (x.rel now).due ≤ e then (x.rel now).left else 0) + (x.rel now).t.c * fut (x.rel now).t (now + 1) e ≤ (if x.due ≤ e then x.left else 0) + x.t.c * fut x.t now e := by
      have hpos : 0 ≤ (if x.due ≤ e then x.left else 0) := by split <;> omega
      by_cases hr : now % x.t.t = 0
      · obtain ⟨r1, r2⟩ := jobs_rel ht h0 hr
        have er : x.rel now = ⟨x.t, x.t.c, now + x.t.d⟩ := by unfold J.rel; rw [if_pos hr]
        rw [er]; simp only
        by_cases hd : now + x.t.d ≤ e
        · rw [if_pos hd]
          have hm : ¬ many x.t e ≤ jobs x.t now := fun h => by
            have := (many_le_iff ht (jobs_nonneg ht h0)).1 h
            omega
          have f1 : fut x.t now e = fut x.t (now + 1) e + 1 := by unfold fut; rw [r2]; split <;> split <;> omega
          rw [f1, Int.mul_add, Int.mul_one]; omega
        · rw [if_neg hd]
          have f1 : fut x.t (now + 1) e ≤ fut x.t now e := by unfold fut; rw [r2]; split <;> split <;> omega
          have := mul_le (show 0 ≤ x.t.c by omega) f1; omega
      · have er : x.rel now = x := by unfold J.rel; rw [if_neg hr]
        rw [er]
        have f1 : fut x.t (now + 1) e = fut x.t now e := by unfold fut; rw [jobs_not ht hr]
        rw [f1]; omega
    omega
theorem todo_none {e now : Int} {l : List J} (hl : ∀ x ∈ l, x.due ≤ e → x.left ≤ 0) (hok : ∀ x ∈ l, x.t.ok) (h0 : 0 ≤ now) : todo e now l ≤ of (l.map J.t) (e - now) := by
  induction l with
  | nil => simp [todo, of]
  | cons x l ih =>
    have ih := ih (fun y hy => hl y (by simp [hy])) (fun y hy => hok y (by simp [hy]))
    obtain ⟨_, _, h2, h3, h4, h5, _, _⟩ := id (hok x (by simp))
    have hs := many_split (hok x (by simp)) (L := now) (x := e) h0
    have hn := many_nonneg (t := x.t) (x := e - now) (by omega)
    have f1 : fut x.t now e ≤ many x.t (e - now) := by unfold fut; split <;> omega
    have := mul_le (show 0 ≤ x.t.c by omega) f1
    have h6 : (if x.due ≤ e then x.left else 0) ≤ 0 := by
      split
      · exact hl x (by simp) ‹_›
      · omega
    simp only [List.map_cons, todo, of]; omega
theorem does_todo {e now : Int} {l m : List J} (h : Does l m) (hl : ∀ x ∈ l, 0 ≤ x.left) : todo e now m ≤ todo e now l ∧ ((∃ x ∈ l, 0 < x.left ∧ x.due ≤ e) → todo e now m = todo e now l - 1) := by
  rcases h with ⟨rfl, hn⟩ | ⟨a, x, b, rfl, rfl, hx, hb⟩
  · exact ⟨Int.le_refl _, fun ⟨x, hx, h1, _⟩ => absurd h1 (hn x hx)⟩
  · simp only [todo_append, todo]
    refine ⟨by split <;> omega, fun ⟨y, hy, h1, h2⟩ => ?_⟩
    have := hb y hy h1
    rw [if_pos (by omega), if_pos (by omega)]; omega
theorem todo_step {e now : Int} (h0 : 0 ≤ now) (hne : now < e) {l m : List J} (hok : ∀ x ∈ l, x.t.ok) (hl : ∀ x ∈ l, 0 ≤ x.left) (hd : Does (l.map (J.rel now)) m) (hf : ∀ y, 0 ≤ y → y ≤ e → of (l.map J.t) y ≤ y) (ht : todo e now l ≤ e - now) : todo e (now + 1) m ≤ e - (now + 1) := by
  have hl2 : ∀ x ∈ l.map (J.rel now), 0 ≤ x.left := by
    intro x hx
    obtain ⟨y, hy, rfl⟩ := List.mem_map.1 hx
    obtain ⟨_, _, h2, _⟩ := hok y hy
    have := hl y hy
    unfold J.rel; split <;> (try simp only) <;> omega
  have a := todo_rel h0 hok hl (e := e)
  obtain ⟨b, c⟩ := does_todo (e := e) (now := now + 1) hd hl2
  by_cases hx : ∃ x ∈ l.map (J.rel now), 0 < x.left ∧ x.due ≤ e
  · have := c hx; omega
  · have hokm : ∀ x ∈ l.map (J.rel now), x.t.ok := by
      intro x hx
      obtain ⟨y, hy, rfl⟩ := List.mem_map.1 hx
      have := hok y hy
      unfold J.rel; split <;> exact this
    have hmt : (l.map (J.rel now)).map J.t = l.map J.t := by
      rw [List.map_map]; apply List.map_congr_left; intro y _; simp only [Function.comp_def]; unfold J.rel; split <;> rfl
    have d := todo_none (e := e) (now := now + 1) (l := l.map (J.rel now)) (fun x h1 h2 => Int.not_lt.1 fun h3 => hx ⟨x, h1, h3, h2⟩) hokm (by omega)
    rw [hmt] at d
    have := hf (e - (now + 1)) (by omega) (by omega)
    omega
theorem todo_late {e : Int} {l : List J} (hl : ∀ x ∈ l, 0 ≤ x.left) (hok : ∀ x ∈ l, x.t.ok) (ht : todo e e l ≤ 0) : ¬ late e l := by
  rintro ⟨x, hx, h1, h2⟩
  have key : ∀ l : List J, (∀ x ∈ l, 0 ≤ x.left) → (∀ x ∈ l, x.t.ok) → 0 ≤ todo e e l := by
    intro l
    induction l with
    | nil => intro _ _; simp [todo]
    | cons x l ih =>
      intro hl hok
      have := ih (fun y hy => hl y (by simp [hy])) (fun y hy => hok y (by simp [hy]))
      obtain ⟨_, _, h2, _⟩ := hok x (by simp)
      have h3 := hl x (by simp)
      have h4 := Int.mul_nonneg (show 0 ≤ x.t.c by omega) (fut_nonneg x.t e e)
      simp only [todo]; split <;> omega
  obtain ⟨a, b, rfl⟩ := List.append_of_mem hx
  rw [todo_append] at ht
  have k1 := key a (fun y hy => hl y (by simp [hy])) (fun y hy => hok y (by simp [hy]))
  have k2 := key b (fun y hy => hl y (by simp [hy])) (fun y hy => hok y (by simp [hy]))
  obtain ⟨_, _, h3, _⟩ := hok x (by simp)
  have h4 := Int.mul_nonneg (show 0 ≤ x.t.c by omega) (fut_nonneg x.t e e)
  simp only [todo] at ht
  rw [if_pos h2] at ht; omega
theorem todo_start {e : Int} (he : 0 ≤ e) {l : List J} (hl : ∀ x ∈ l, x.left = 0) (hok : ∀ x ∈ l, x.t.ok) : todo e 0 l ≤ of (l.map J.t) e := by
  have := todo_none (e := e) (now := 0) (l := l) (fun x hx _ => by have := hl x hx; omega) hok (by omega)
  simpa using this
/-- What is known of each job, at a time. -/
def J.at (now : Int) (x : J) : Prop := 0 ≤ x.left ∧ x.left ≤ x.t.c ∧ (0 < x.left → x.due = x.t.t * (jobs x.t now - 1) + x.t.d)
/-- How much work was done. -/
def did (now : Int) : List J → Int
  | [] => 0
  | x :: l => (x.t.c * jobs x.t now - x.left) + did now l
theorem did_append (now : Int) (l m : List J) : did now (l ++ m) = did now l + did now m := by
  induction l with
  | nil => simp [did]
  | cons x l ih => simp only [List.cons_append, did, ih]; omega
theorem rel_at {now : Int} (h0 : 0 ≤ now) {x : J} (hok : x.t.ok) (h : x.at now) (hl : ¬ (0 < x.left ∧ x.due ≤ now)) : (x.rel now).at (now + 1) ∧ (x.rel now).t.c * jobs (x.rel now).t (now + 1) - (x.rel now).left = x.t.c * jobs x.t now - x.left := by
  obtain ⟨_, _, h2, h3, h4, h5, _, _⟩ := hok
  obtain ⟨a1, a2, a3⟩ := h
  have ht : 0 < x.t.t := by omega
  by_cases hr : now % x.t.t = 0
  · obtain ⟨r1, r2⟩ := jobs_rel ht h0 hr
    have er : x.rel now = ⟨x.t, x.t.c, now + x.t.d⟩ := by unfold J.rel; rw [if_pos hr]
    have hz : x.left = 0 := by
      by_cases hp : 0 < x.left
      · have := a3 hp
        have e : x.t.t * (jobs x.t now - 1) = x.t.t * jobs x.t now - x.t.t := by rw [Int.mul_sub, Int.mul_one]
        exact absurd ⟨hp, by omega⟩ hl
      · omega
    rw [er]; unfold J.at; simp only
    rw [r2, hz, Int.mul_add, Int.mul_one]
    have e : x.t.t * (jobs x.t now + 1 - 1) = x.t.t * jobs x.t now := by rw [Int.add_sub_cancel]
    exact ⟨⟨by omega, by omega, fun _ => by rw [e]; omega⟩, by omega⟩
  · have er : x.rel now = x := by unfold J.rel; rw [if_neg hr]
    rw [er]; unfold J.at; rw [jobs_not ht hr]
    exact ⟨⟨a1, a2, a3⟩, rfl⟩
theorem did_rel {now : Int} (h0 : 0 ≤ now) {l : List J} (hok : ∀ x ∈ l, x.t.ok) (ha : ∀ x ∈ l, x.at now) (hl : ¬ late now l) : did (now + 1) (l.map (J.rel now)) = did now l ∧ ∀ x ∈ l.map (J.rel now), x.at (now + 1) := by
  induction l with
  | nil => simp [did]
  | cons x l ih =>
    obtain ⟨b1, b2⟩ := ih (fun y hy => hok y (by simp [hy])) (fun y hy => ha y (by simp [hy])) (fun ⟨y, hy, h⟩ => hl ⟨y, by simp [hy], h⟩)
    obtain ⟨c1, c2⟩ := rel_at h0 (hok x (by simp)) (ha x (by simp)) (fun h => hl ⟨x, by simp, h⟩)
    simp only [List.map_cons, did]
    refine ⟨by omega, fun y hy => ?_⟩
    rcases List.mem_cons.1 hy with rfl | hy
    · exact c1
    · exact b2 y hy
theorem does_did {now : Int} {l m : List J} (h : Does l m) (ha : ∀ x ∈ l, x.at now) : did now m ≤ did now l + 1 ∧ (∀ x ∈ m, x.at now) ∧ m.map J.t = l.map J.t := by
  rcases h with ⟨rfl, hn⟩ | ⟨a, x, b, rfl, rfl, hx, hb⟩
  · exact ⟨by omega, ha, rfl⟩
  · simp only [did_append, did]
    refine ⟨by omega, fun y hy => ?_, by simp⟩
    rcases List.mem_append.1 hy with h | h
    · exact ha y (by simp [h])
    · rcases List.mem_cons.1 h with rfl | h
      · obtain ⟨a1, a2, a3⟩ := ha x (by simp)
        exact ⟨by simp only; omega, by simp only; omega, fun _ => a3 hx⟩
      · exact ha y (by simp [h])
theorem did_of {now : Int} (h0 : 0 ≤ now) {l : List J} (hok : ∀ x ∈ l, x.t.ok) (ha : ∀ x ∈ l, x.at now) (hl : ¬ late now l) : of (l.map J.t) now ≤ did now l := by
  induction l with
  | nil => simp [did, of]
  | cons x l ih =>
    have ih := ih (fun y hy => hok y (by simp [hy])) (fun y hy => ha y (by simp [hy])) (fun ⟨y, hy, h⟩ => hl ⟨y, by simp [hy], h⟩)
    obtain ⟨_, _, h2, h3, h4, h5, _, _⟩ := hok x (by simp)
    obtain ⟨a1, a2, a3⟩ := ha x (by simp)
    have ht : 0 < x.t.t := by omega
    have key : x.t.c * many x.t now ≤ x.t.c * jobs x.t now - x.left := by
      by_cases hp : 0 < x.left
      · have e := a3 hp
        have hd : ¬ x.due ≤ now := fun h => hl ⟨x, by simp, hp, h⟩
        have hj : 0 ≤ jobs x.t now - 1 := by
          have := jobs_nonneg (t := x.t) ht h0
          by_cases hz : jobs x.t now = 0
          · rw [hz] at e; simp at e; omega
          · omega
        have hm := (many_le_iff ht hj (x := now)).2 (by omega)
        have := mul_le (show 0 ≤ x.t.c by omega) hm
        rw [Int.mul_sub, Int.mul_one] at this
        omega
      · have hm := many_le_jobs (t := x.t) (x := now) ht (by omega) h0
        have := mul_le (show 0 ≤ x.t.c by omega) hm
        omega
    simp only [List.map_cons, did, of]; omega
/-- A run up to a time without lateness. -/
inductive Ran : Int → List J → List J → Prop
  | start (l : List J) : Ran 0 l l
  | step {now : Int} {l m n : List J} : Ran now l m → ¬ late now m → Does (m.map (J.rel now)) n → Ran (now + 1) l n
theorem ran_inv {now : Int} {l m : List J} (h : Ran now l m) (hok : ∀ x ∈ l, x.t.ok) (h0 : ∀ x ∈ l, x.left = 0) : 0 ≤ now ∧ (∀ x ∈ m, x.t.ok) ∧ (∀ x ∈ m, x.at now) ∧ m.map J.t = l.map J.t ∧ did now m ≤ now ∧ (∀ e, now ≤ e → (∀ y, 0 ≤ y → y ≤ e → of (l.map J.t) y ≤ y) → todo e now m ≤ e - now) := by
  induction h with
  | start l =>
    refine ⟨by omega, hok, fun x hx => ?_, rfl, ?_, fun e he hf => ?_⟩
    · obtain ⟨_, _, h2, _⟩ := hok x hx
      have := h0 x hx
      exact ⟨by omega, by omega, fun h => by omega⟩
    · have : ∀ l : List J, (∀ x ∈ l, x.t.ok) → (∀ x ∈ l, x.left = 0) → did 0 l = 0 := by
        intro l
        induction l with
        | nil => intro _ _; rfl
        | cons x l ih =>
          intro hok h0
          obtain ⟨_, _, h2, h3, h4, _⟩ := hok x (by simp)
          simp only [did]
          rw [jobs_zero (by omega), h0 x (by simp), ih (fun y hy => hok y (by simp [hy])) (fun y hy => h0 y (by simp [hy]))]; simp
      rw [this l hok h0]; omega
    · have := todo_start he h0 hok
      have := hf e he (by omega)
      omega
  | @step now l m n hr hl hd ih =>
    obtain ⟨a1, a2, a3, a4, a5, a6⟩ := ih hok h0
    obtain ⟨b1, b2⟩ := did_rel a1 a2 a3 hl
    obtain ⟨c1, c2, c3⟩ := does_did hd b2
    have hmt : (m.map (J.rel now)).map J.t = m.map J.t := by
      rw [List.map_map]; apply List.map_congr_left; intro y _; simp only [Function.comp_def]; unfold J.rel; split <;> rfl
    rw [hmt, a4] at c3
    refine ⟨by omega, ?_, c2, c3, by omega, fun e he hf => ?_⟩
    · intro x hx
      have : x.t ∈ n.map J.t := List.mem_map.2 ⟨x, hx, rfl⟩
      rw [c3] at this
      obtain ⟨y, hy, e⟩ := List.mem_map.1 this
      rw [← e]; exact hok y hy
    · exact todo_step a1 (by omega) a2 (fun x hx => (a3 x hx).1) hd (by rw [a4]; exact hf) (a6 e (by omega) hf)
/-- The first lateness comes just when there is first too much work. -/
theorem ran_late {now : Int} {l m : List J} (h : Ran now l m) (hok : ∀ x ∈ l, x.t.ok) (h0 : ∀ x ∈ l, x.left = 0) : (¬ late now m → of (l.map J.t) now ≤ now) ∧ ((∀ y, 0 ≤ y → y ≤ now → of (l.map J.t) y ≤ y) → ¬ late now m) := by
  obtain ⟨a1, a2, a3, a4, a5, a6⟩ := ran_inv h hok h0
  refine ⟨fun hl => ?_, fun hf => ?_⟩
  · have := did_of a1 a2 a3 hl
    rw [a4] at this; omega
  · have := a6 now (Int.le_refl _) hf
    exact todo_late (fun x hx => (a3 x hx).1) a2 (by omega)
end Hm
