/- JudgeFits, the plain part: whatever ops are asked, those alone done that may be: the set fits in each of its modes, at each step. -/
import Derived.Test.YthkagoomlmgcdaaPJudgeFitsx15
import Derived.Test.YthkagoomlmgcdaaMGrowZ
import Derived.Test.YthkagoomlmgcdaaMRangeX
import Derived.Test.YthkagoomlmgcdaaMDem
import Derived.Test.YthkagoomlmgcdaaMWork
import Derived.Test.YthkagoomlmgcdaaMDead
import Derived.Test.YthkagoomlmgcdaaMLcm
import Derived.Test.YthkagoomlmgcdaaMBusy
import Derived.Test.YthkagoomlmgcdaaMDead2
import Derived.Test.YthkagoomlmgcdaaMQpa

namespace Go.Proofs.Ythkagoomlmgcdaa.Pure
open Go.RowKit Go.Proofs.Ythkagoomlmgcdaa.PJudgeFits Go.Proofs.YthkagoomlmgcdaaW.PrintWords Go.Proofs.YthkagoomlmgcdaaW.PrintLast Go.Proofs.YthkagoomlmgcdaaW.PrintMore
set_option linter.unusedVariables false
set_option linter.unusedSimpArgs false

theorem gcd_loop (k : Nat) : ∀ a b : Int, -9223372036854775807 ≤ a → a ≤ 9223372036854775807 → -9223372036854775807 ≤ b → b ≤ 9223372036854775807 → b.natAbs < k → param_Gcd.l0 k a b = some ((Int.gcd a b : Nat) : Int) := by
 induction k with
 | zero => intro a b _ _ _ _ h; omega
 | succ k ih =>
  intro a b ha1 ha2 hb1 hb2 hk
  simp only [param_Gcd.l0]
  by_cases h : b = 0
  ·subst h
   rw [if_pos rfl, Int.gcd_zero_right, w64 (by omega) (by omega)]
   unfold mx
   congr 1
   split <;> omega
  ·rw [if_neg h]
   have e : (Int.tmod a b).natAbs = a.natAbs % b.natAbs := Int.natAbs_tmod a b
   have hl : a.natAbs % b.natAbs < b.natAbs := Nat.mod_lt _ (by omega)
   rw [ih b (Int.tmod a b) hb1 hb2 (by omega) (by omega) (by omega)]
   congr 2
   rw [Int.gcd_eq_natAbs_gcd_natAbs, Int.gcd_eq_natAbs_gcd_natAbs, e, Nat.gcd_comm a.natAbs b.natAbs, Nat.gcd_rec b.natAbs a.natAbs, Nat.gcd_comm]
theorem Gcd_is (k : Nat) {a b : Int} (ha1 : -9223372036854775807 ≤ a) (ha2 : a ≤ 9223372036854775807) (hb1 : -9223372036854775807 ≤ b) (hb2 : b ≤ 9223372036854775807) (hk : b.natAbs < k) : param_Gcd.f k a b = some ((Int.gcd a b : Nat) : Int) :=
 gcd_loop k a b ha1 ha2 hb1 hb2 hk

theorem per_go (k : Nat) (hk : 2147483648 < k) (l : List S31) : ∀ (m : Nat), 0 < m → m ≤ 1048576 → (∀ s ∈ l, (tk s).ok) →
  period.go k l (m : Int) = some (if Hm.perFrom m (l.map fun s => s.f3.toNat) ≤ 1048576 then ((Hm.perFrom m (l.map fun s => s.f3.toNat) : Nat) : Int) else 0, if Hm.perFrom m (l.map fun s => s.f3.toNat) ≤ 1048576 then 0 else 16) := by
 induction l with
 | nil => intro m h0 h1 _; simp [period.go, Hm.perFrom, h1]
 | cons s l ih =>
  intro m h0 h1 hok
  obtain ⟨_, _, h2, h3, h4, h5, _, _⟩ := hok s (by simp)
  simp only [tk] at h2 h3 h4 h5
  obtain ⟨t, ht⟩ : ∃ t : Nat, s.f3 = (t : Int) := ⟨s.f3.toNat, by omega⟩
  unfold period.go
  rw [ht, Gcd_is k (by omega) (by omega) (by omega) (by omega) (by omega)]
  simp only [Option.bind_some]
  have hg : Int.gcd (m : Int) (t : Int) = Nat.gcd m t := by simp [Int.gcd_eq_natAbs_gcd_natAbs]
  rw [hg]
  have hgp : 0 < Nat.gcd m t := Nat.gcd_pos_of_pos_left t h0
  rw [if_neg (by omega)]
  have e1 : Int.tdiv (t : Int) ((Nat.gcd m t : Nat) : Int) = ((t / Nat.gcd m t : Nat) : Int) := by rw [Int.tdiv_eq_ediv_of_nonneg (by omega)]; exact (Int.natCast_ediv t (Nat.gcd m t)).symm
  have hq : t / Nat.gcd m t ≤ t := Nat.div_le_self _ _
  rw [e1, w64 (n := ((t / Nat.gcd m t : Nat) : Int)) (by have := Int.natCast_nonneg (t / Nat.gcd m t); omega) (by have : ((t / Nat.gcd m t : Nat) : Int) ≤ (t : Int) := Int.ofNat_le.2 hq; omega)]
  have e2 : (m : Int) * ((t / Nat.gcd m t : Nat) : Int) = ((Nat.lcm m t : Nat) : Int) := by rw [← Hm.mul_quo_gcd (m := m) (t := t) (by omega)]; simp
  have hlcm : Nat.lcm m t ≤ 1048576 * 2147483648 := by
   rw [← Hm.mul_quo_gcd (m := m) (t := t) (by omega)]
   exact Nat.mul_le_mul h1 (by omega)
  rw [e2, w64 (by omega) (by omega)]
  have e3 : (s :: l).map (fun s => s.f3.toNat) = t :: l.map (fun s => s.f3.toNat) := by simp [ht]
  rw [e3]
  rw [show Hm.perFrom m (t :: l.map fun s => s.f3.toNat) = Hm.perFrom (Nat.lcm m t) (l.map fun s => s.f3.toNat) from rfl]
  have hlp : 0 < Nat.lcm m t := Nat.lcm_pos h0 (by omega)
  by_cases hle : Nat.lcm m t ≤ 1048576
  ·rw [if_pos (by omega)]
   exact ih (Nat.lcm m t) hlp hle (fun x hx => hok x (by simp [hx]))
  ·have hbig : ¬ Hm.perFrom (Nat.lcm m t) (l.map fun s => s.f3.toNat) ≤ 1048576 := by
    have hpos : 0 < Hm.perFrom (Nat.lcm m t) (l.map fun s => s.f3.toNat) := Hm.perFrom_pos hlp (fun x hx => by
     obtain ⟨y, hy, rfl⟩ := List.mem_map.1 hx
     obtain ⟨_, _, g2, g3, g4, _⟩ := hok y (by simp [hy])
     simp only [tk] at g2 g3 g4
     omega)
    have := Nat.le_of_dvd hpos (Hm.perFrom_start (Nat.lcm m t) (l.map fun s => s.f3.toNat))
    omega
   rw [if_neg (by omega), if_neg hbig, if_neg hbig]
theorem per_map (l : List S31) : Hm.per (l.map tk) = Hm.perFrom 1 (l.map fun s => s.f3.toNat) := by
 unfold Hm.per; rw [List.map_map]; rfl
theorem Period_ok {l : List S31} (k : Nat) (h : okL l) (hk : 2147483648 < k) (hp : Hm.per (l.map tk) ≤ 1048576) : param_Period.f k l = some ((Hm.per (l.map tk) : Int), 0) := by
 unfold param_Period.f
 rw [row_yes h]; simp only [Option.bind_some, if_true]
 have e := per_go k hk l 1 (by omega) (by omega) h.2
 rw [← per_map] at e
 rw [if_pos hp, if_pos hp] at e
 exact e
theorem Period_over {l : List S31} (k : Nat) (h : okL l) (hk : 2147483648 < k) (hp : ¬ Hm.per (l.map tk) ≤ 1048576) : param_Period.f k l = some (0, 16) := by
 unfold param_Period.f
 rw [row_yes h]; simp only [Option.bind_some, if_true]
 have e := per_go k hk l 1 (by omega) (by omega) h.2
 rw [← per_map] at e
 rw [if_neg hp, if_neg hp] at e
 exact e
theorem Period_arg {l : List S31} (k : Nat) (h : ¬ okL l) : param_Period.f k l = some (0, 1) := by
 unfold param_Period.f
 rw [row_no h]; rfl

theorem load_loop {p : Int} (h0 : 0 < p) (h1 : p ≤ 1048576) (suf : List S31) : ∀ (pre : List S31) (k : Nat) (acc : Int), okL (pre ++ suf) → suf.length < k → 0 ≤ acc → acc ≤ (pre.length : Int) * 1048576 →
  param_Load.l0 k p acc (pre ++ suf) ((pre ++ suf).length : Int) (pre.length : Int) = some (acc + Hm.loadN (suf.map tk) p, p, 0) := by
 induction suf with
 | nil =>
  intro pre k acc _ hk _ _
  obtain ⟨k, rfl⟩ := some_k hk
  simp only [param_Load.l0, List.append_nil, List.map_nil, Hm.loadN]
  rw [if_neg (by omega)]; simp
 | cons s suf ih =>
  intro pre k acc hok hk ha hb
  obtain ⟨k, rfl⟩ := some_k (show 0 < k by omega)
  have hs : (tk s).ok := hok.2 s (by simp)
  have hw := Hm.load_le hs (p := p) (by omega)
  have hlen := hok.1
  simp only [List.length_append, List.length_cons] at hlen hk
  have hc : (tk s).c = s.f1 := rfl
  have ht : (tk s).t = s.f3 := rfl
  rw [hc, ht] at hw
  obtain ⟨_, _, h2, h3, h4, h5, _, _⟩ := hs
  simp only [tk] at h2 h3 h4 h5
  have i1 : ((pre ++ s :: suf).length : Int) = (pre.length : Int) + ((suf.length : Int) + 1) := by simp
  have i2 := ih (pre ++ [s]) k (acc + s.f1 * (p / s.f3)) (by simpa using hok) (by omega) (by omega) (by simp only [List.length_append, List.length_singleton]; omega)
  simp only [List.append_assoc, List.cons_append, List.nil_append] at i2
  have i3 : ((pre ++ [s]).length : Int) = (pre.length : Int) + 1 := by simp
  rw [i3] at i2
  have hq := Int.ediv_nonneg (show 0 ≤ p by omega) (show 0 ≤ s.f3 by omega)
  have hq2 := Int.ediv_le_self s.f3 (show 0 ≤ p by omega)
  simp only [param_Load.l0]
  rw [if_pos (by omega), if_pos (by omega), if_pos (by omega), rd_mid, if_neg (by omega), Int.tdiv_eq_ediv_of_nonneg (by omega), w64 (n := p / s.f3) (by omega) (by omega)]
  rw [w64 (n := s.f1 * (p / s.f3)) (by omega) (by omega), w64 (n := acc + s.f1 * (p / s.f3)) (by omega) (by omega), w64 (n := (pre.length : Int) + 1) (by omega) (by omega), i2]
  simp only [List.map_cons, Hm.loadN, hc, ht]
  congr 2; omega
theorem Load_ok {l : List S31} (k : Nat) (h : okL l) (hk : 2147483648 < k) (hp : Hm.per (l.map tk) ≤ 1048576) : param_Load.f k l = some (Hm.loadN (l.map tk) (Hm.per (l.map tk) : Int), (Hm.per (l.map tk) : Int), 0) := by
 unfold param_Load.f
 rw [Period_ok k h hk hp]; simp only [Option.bind_some]
 have hpos := Hm.per_pos (okL_map h)
 have hl := h.1
 have := load_loop (p := (Hm.per (l.map tk) : Int)) (by omega) (by omega) l [] k 0 (by simpa using h) (by omega) (by omega) (by simp)
 simpa using this
theorem Load_over {l : List S31} (k : Nat) (h : okL l) (hk : 2147483648 < k) (hp : ¬ Hm.per (l.map tk) ≤ 1048576) : param_Load.f k l = some (0, 0, 16) := by
 unfold param_Load.f
 rw [Period_over k h hk hp]; rfl
theorem Load_arg {l : List S31} (k : Nat) (h : ¬ okL l) : param_Load.f k l = some (0, 0, 1) := by
 unfold param_Load.f
 rw [Period_arg k h]; rfl

theorem Over_ok {l : List S31} (k : Nat) (h : okL l) (hk : 2147483648 < k) (hp : Hm.per (l.map tk) ≤ 1048576) : param_Over.f k l = some (decide (Hm.loadN (l.map tk) (Hm.per (l.map tk) : Int) > (Hm.per (l.map tk) : Int)), 0) := by
 unfold param_Over.f; rw [Load_ok k h hk hp]; rfl
theorem right_fits {l : List S31} (k : Nat) (h : okL l) (hk : 2147483648 < k) (hp : Hm.per (l.map tk) ≤ 1048576) (hf : Hm.loadN (l.map tk) (Hm.per (l.map tk) : Int) ≤ (Hm.per (l.map tk) : Int)) : busy_right.f k l = some 0 := by
 unfold busy_right.f; rw [Over_ok k h hk hp]; simp only [Option.bind_some, if_true]
 rw [if_neg (by simp; omega)]
theorem right_over {l : List S31} (k : Nat) (h : okL l) (hk : 2147483648 < k) (hp : Hm.per (l.map tk) ≤ 1048576) (hf : Hm.loadN (l.map tk) (Hm.per (l.map tk) : Int) > (Hm.per (l.map tk) : Int)) : busy_right.f k l = some 17 := by
 unfold busy_right.f; rw [Over_ok k h hk hp]; simp only [Option.bind_some, if_true]
 rw [if_pos (by simp; omega)]
theorem right_long {l : List S31} (k : Nat) (h : okL l) (hk : 2147483648 < k) (hp : ¬ Hm.per (l.map tk) ≤ 1048576) : busy_right.f k l = some 16 := by
 unfold busy_right.f param_Over.f; rw [Load_over k h hk hp]; rfl
theorem right_arg {l : List S31} (k : Nat) (h : ¬ okL l) : busy_right.f k l = some 1 := by
 unfold busy_right.f param_Over.f; rw [Load_arg k h]; rfl
theorem lastV_cons {x : Int} {xs : List Int} (h : xs ≠ []) : lastV (x :: xs) = lastV xs := by
 unfold lastV; cases xs with
 | nil => exact absurd rfl h
 | cons y ys => rfl
theorem sumF_is {l : List S31} (h : okL l) : sumF l = Hm.sumC (l.map tk) := by
 have key : ∀ (pre suf : List S31), l = pre ++ suf → sumF pre = Hm.sumC (pre.map tk) := by
  intro pre
  generalize hn : pre.length = n
  induction n generalizing pre with
  | zero => intro suf _; have : pre = [] := List.length_eq_zero_iff.1 hn; subst this; rfl
  | succ n ih =>
   intro suf e
   obtain ⟨p, s, rfl⟩ : ∃ p s, pre = p ++ [s] := ⟨pre.dropLast, pre.getLast (by intro h; simp [h] at hn), (List.dropLast_concat_getLast _).symm⟩
   have h1 := ih p (by simpa using hn) (s :: suf) (by simpa using e)
   have h2 : ∀ t ∈ (p ++ [s]).map tk, t.ok := fun t ht => by
    obtain ⟨y, hy, rfl⟩ := List.mem_map.1 ht; exact h.2 y (by rw [e]; exact List.mem_append_left _ hy)
   have h3 := Hm.sumC_le h2
   have hlen := h.1
   rw [e] at hlen
   simp only [List.length_append, List.length_map, List.length_cons, List.length_nil] at hlen h3
   have e2 : Hm.sumC ((p ++ [s]).map tk) = Hm.sumC (p.map tk) + s.f1 := by rw [List.map_append, Hm.sumC_append]; simp [Hm.sumC, tk]
   rw [sumF_snoc, h1, e2, w64 (by omega) (by omega)]
 exact key l [] (by simp)
theorem steps_fix {l : List S31} (hok : okL l) {P : Int} (hP1 : P ≤ 1099511627776) (hP : Hm.work (l.map tk) P ≤ P) : ∀ (k : Nat) (x : Int), (P - x).toNat < k → 0 ≤ x → x ≤ P → x ≤ Hm.work (l.map tk) x →
  ∃ xs, stepsL l k x = some xs ∧ xs ≠ [] ∧ Hm.work (l.map tk) (lastV xs) = lastV xs ∧ x ≤ lastV xs ∧ lastV xs ≤ P ∧ ∀ y, x ≤ y → y < lastV xs → y < Hm.work (l.map tk) y := by
 intro k
 induction k with
 | zero => intro x h; omega
 | succ k ih =>
  intro x hk h0 h1 h2
  have hv := workV_yes hok h0 (show x ≤ 1099511627776 by omega)
  have hm := Hm.work_mono (okL_map hok) h1
  unfold stepsL
  rw [hv]
  by_cases he : Hm.work (l.map tk) x = x
  ·rw [if_pos he]
   exact ⟨[x], rfl, by simp, he, Int.le_refl _, h1, fun y hy1 hy2 => by have e : lastV [x] = x := rfl; omega⟩
  ·rw [if_neg he]
   obtain ⟨xs, e1, e2, e3, e4, e5, e6⟩ := ih (Hm.work (l.map tk) x) (by omega) (by omega) (by omega) (Hm.work_mono (okL_map hok) h2)
   rw [e1]
   refine ⟨x :: xs, rfl, by simp, ?_⟩
   rw [lastV_cons e2]
   refine ⟨e3, by omega, e5, fun y hy1 hy2 => ?_⟩
   by_cases hy : Hm.work (l.map tk) x ≤ y
   ·exact e6 y hy hy2
   ·have := Hm.work_mono (okL_map hok) hy1; omega
/-- The length, where tasks fit. -/
theorem Length_fits {l : List S31} (k : Nat) (h : okL l) (hk : 2147483648 < k) (hl : l ≠ []) (hp : Hm.per (l.map tk) ≤ 1048576) (hf : Hm.loadN (l.map tk) (Hm.per (l.map tk) : Int) ≤ (Hm.per (l.map tk) : Int)) :
  ∃ n, busy_Length.f k l = some (n, 0) ∧ Hm.work (l.map tk) n = n ∧ 1 ≤ n ∧ n ≤ (Hm.per (l.map tk) : Int) ∧ ∀ y, 1 ≤ y → y < n → y < Hm.work (l.map tk) y := by
 have hpos := Hm.per_pos (okL_map h)
 have hlen := List.length_pos_iff.2 hl
 have hS := Hm.sumC_le (okL_map h)
 rw [List.length_map] at hS
 have h16 := h.1
 have hW := Hm.work_load (okL_map h) (p := (Hm.per (l.map tk) : Int)) (fun t ht => Hm.per_dvd (okL_map h) ht)
 have h1 := Hm.work_one (okL_map h)
 have hm1 := Hm.work_mono (okL_map h) (show (1 : Int) ≤ (Hm.per (l.map tk) : Int) by omega)
 have hm2 := Hm.work_mono (okL_map h) (show (1 : Int) ≤ Hm.sumC (l.map tk) by omega)
 obtain ⟨xs, e1, e2, e3, e4, e5, e6⟩ := steps_fix h (P := (Hm.per (l.map tk) : Int)) (by omega) (by omega) k (Hm.sumC (l.map tk)) (by omega) (by omega) (by omega) (by omega)
 refine ⟨lastV xs, ?_, e3, by omega, e5, fun y hy1 hy2 => ?_⟩
 ·unfold busy_Length.f
  rw [right_fits k h hk hp hf]; simp only [Option.bind_some, if_true]
  rw [if_neg hl, sumF_is h, e1]; rfl
 ·by_cases hy : Hm.sumC (l.map tk) ≤ y
  ·exact e6 y hy hy2
  ·have := Hm.work_mono (okL_map h) hy1; omega
theorem Length_none (k : Nat) (hk : 2147483648 < k) : busy_Length.f k [] = some (0, 0) := by
 have h : okL [] := ⟨by simp, by simp⟩
 unfold busy_Length.f
 rw [right_fits k h hk (by simp [Hm.per, Hm.perFrom]) (by simp [Hm.per, Hm.perFrom, Hm.loadN])]; rfl
theorem Length_over {l : List S31} (k : Nat) (h : okL l) (hk : 2147483648 < k) (hp : Hm.per (l.map tk) ≤ 1048576) (hf : Hm.loadN (l.map tk) (Hm.per (l.map tk) : Int) > (Hm.per (l.map tk) : Int)) : busy_Length.f k l = some (0, 17) := by
 unfold busy_Length.f
 rw [right_over k h hk hp hf]; rfl

theorem beforeV_yes {l : List S31} {x : Int} (hok : okL l) (h0 : 0 ≤ x) (h1 : x ≤ 1099511627776) : beforeV l x = (Hm.before (l.map tk) x, decide (Hm.before (l.map tk) x > 0)) := by
 unfold beforeV; rw [if_pos (mayB_ok.2 ⟨hok, h0, h1⟩)]
theorem ofV_ok {l : List S31} {y : Int} (hok : okL l) (h0 : 0 ≤ y) (h1 : y ≤ 1099511627776) : ofV l y = Hm.of (l.map tk) y := by
 unfold ofV; rw [if_pos (mayB_ok.2 ⟨hok, h0, h1⟩)]
theorem of_least {l : List S31} (hok : okL l) {y : Int} (h : y < leastV l) : Hm.of (l.map tk) y = 0 := by
 unfold leastV at h
 rw [if_pos ((rowB_ok l).2 hok)] at h
 have key : ∀ s ∈ l, y < s.f2 := by
  intro s hs
  cases l with
  | nil => simp at hs
  | cons a r =>
   have := Hm.minL_le_mem (m := a.f2) (l := (a :: r).map fun t => t.f2) (x := s.f2) (List.mem_map.2 ⟨s, hs, rfl⟩)
   simp only at h
   omega
 clear h hok
 induction l with
 | nil => rfl
 | cons s l ih =>
  simp only [List.map_cons, Hm.of]
  rw [Hm.many_lo (show y < (tk s).d from key s (by simp)), ih (fun a ha => key a (by simp [ha]))]; simp
/-- A path from a time on. -/
def PathOk (l : List S31) (L : Int) (p : Int × Bool) (xs : List (Int × Int)) : Prop :=
 (p.2 = false ↔ xs = []) ∧ (∀ q ∈ xs, q.2 = Hm.of (l.map tk) q.1 ∧ 1 ≤ q.1 ∧ q.1 ≤ p.1) ∧
 (∀ i (h : i + 1 < xs.length), xs[i + 1].1 < xs[i].1 ∧ xs[i].2 ≤ xs[i].1) ∧ ((∀ q ∈ xs, q.2 ≤ q.1) → ∀ y, 1 ≤ y → y < L → Hm.of (l.map tk) y ≤ y)
theorem path_walk {l : List S31} (hok : okL l) {L : Int} (hL : L ≤ 1099511627776) : ∀ (c : Nat) (p : Int × Bool), 0 < c → (p.2 = true → 1 ≤ p.1 ∧ p.1 < L ∧ p.1.toNat < c) →
  (p.2 = true → Hm.of (l.map tk) p.1 ≤ p.1 → ∀ y, p.1 ≤ y → y < L → Hm.of (l.map tk) y ≤ y) → (p.2 = false → ∀ y, 1 ≤ y → y < L → Hm.of (l.map tk) y ≤ y) →
  ∃ xs, pathGo l (leastV l) c p = some xs ∧ xs.length ≤ c ∧ PathOk l L p xs := by
 have hm := okL_map hok
 intro c
 induction c with
 | zero => intro p h; omega
 | succ c ih =>
  intro p _ h1 h2 h3
  obtain ⟨x, is⟩ := p
  unfold pathGo
  cases is with
  | false => exact ⟨[], by simp, by simp, by simp, by simp, by simp, fun _ => h3 rfl⟩
  | true =>
   obtain ⟨g1, g2, g3⟩ := h1 rfl
   simp only at g1 g2 g3 h2
   replace h2 := h2 trivial
   rw [if_pos rfl]
   simp only
   rw [ofV_ok hok (by omega) (by omega)]
   by_cases hs : Hm.of (l.map tk) x > x ∨ Hm.of (l.map tk) x ≤ leastV l
   ·rw [if_pos hs]
    refine ⟨_, rfl, by simp, by simp, by simp; omega, by simp, fun hq => ?_⟩
    have hq1 : Hm.of (l.map tk) x ≤ x := hq (x, _) (by simp)
    rcases hs with hs | hs
    ·omega
    ·intro y hy1 hy2
     by_cases hyx : x ≤ y
     ·exact h2 hq1 y hyx hy2
     ·by_cases hyl : y < leastV l
      ·rw [of_least hok hyl]; omega
      ·have := Hm.of_mono hm (show y ≤ x by omega); omega
   ·rw [if_neg hs]
    have hw : Hm.of (l.map tk) x ≤ x := by omega
    have hge := Hm.of_nonneg hm (show 0 ≤ x by omega)
    have fin : ∀ p' : Int × Bool, (p'.2 = true → 1 ≤ p'.1 ∧ p'.1 < x) → (p'.2 = true → Hm.of (l.map tk) p'.1 ≤ p'.1 → ∀ y, p'.1 ≤ y → y < L → Hm.of (l.map tk) y ≤ y) → (p'.2 = false → ∀ y, 1 ≤ y → y < L → Hm.of (l.map tk) y ≤ y) →
      ∃ xs, (pathGo l (leastV l) c p').map ((x, Hm.of (l.map tk) x) :: ·) = some xs ∧ xs.length ≤ c + 1 ∧ PathOk l L (x, true) xs := by
     intro p' k1 k2 k3
     obtain ⟨xs, e, e0, e1, e2, e3, e4⟩ := ih p' (by omega) (fun hp => by have := k1 hp; omega) k2 k3
     refine ⟨_, by rw [e]; rfl, by simp; omega, by simp, ?_, ?_, ?_⟩
     ·intro q hq
      rcases List.mem_cons.1 hq with rfl | hq
      ·exact ⟨rfl, g1, Int.le_refl _⟩
      ·have := e2 q hq
       have hp : p'.2 = true := by
        cases hb : p'.2 with
        | true => rfl
        | false => rw [e1.1 hb] at hq; simp at hq
       have := k1 hp
       exact ⟨by omega, by omega, by simp only; omega⟩
     ·intro i hi
      cases i with
      | zero =>
       cases xs with
       | nil => simp at hi
       | cons q xs =>
        have hp : p'.2 = true := by
         cases hb : p'.2 with
         | true => rfl
         | false => have := e1.1 hb; simp at this
        have := k1 hp
        have := e2 q (by simp)
        simp only [List.getElem_cons_succ, List.getElem_cons_zero]
        omega
      | succ i => exact e3 i (by simp at hi; omega)
     ·intro hq; exact e4 (fun q hq' => hq q (by simp [hq']))
    by_cases hlt : Hm.of (l.map tk) x < x
    ·rw [if_pos hlt]
     have hle : 0 ≤ leastV l := by
      unfold leastV; split
      ·cases l with
       | nil => simp
       | cons a r =>
        simp only
        rcases Hm.minL_mem a.f2 ((a :: r).map fun t => t.f2) with h | h
        ·rw [h]; have := hok.2 a (by simp); obtain ⟨_, _, _, h4, _⟩ := this; simp only [tk] at *; omega
        ·obtain ⟨b, hb, hb2⟩ := List.mem_map.1 h
         have := hok.2 b hb; obtain ⟨_, _, _, h4, _⟩ := this; simp only [tk] at *; omega
      ·omega
     refine fin _ (fun _ => ⟨by simp only; omega, hlt⟩) (fun _ _ y hy1 hy2 => ?_) (fun h => by simp at h)
     simp only at hy1
     by_cases hyx : x ≤ y
     ·exact h2 hw y hyx hy2
     ·have := Hm.of_mono hm (show y ≤ x by omega); omega
    ·rw [if_neg hlt, beforeV_yes hok (by omega) (by omega)]
     have hb := Hm.before_ge (l.map tk) x
     refine fin _ (fun h => ?_) (fun _ hq y hy1 hy2 => ?_) (fun h y hy1 hy2 => ?_)
     ·simp only [decide_eq_true_eq] at h ⊢
      exact ⟨by omega, Hm.before_lt hm (by omega)⟩
     ·simp only at hq hy1
      by_cases hyx : x ≤ y
      ·exact h2 hw y hyx hy2
      ·rw [Hm.of_before hm hy1 (by omega)]; omega
     ·simp only [decide_eq_false_iff_not] at h
      by_cases hyx : x ≤ y
      ·exact h2 hw y hyx hy2
      ·rw [Hm.of_before hm (x := x) (by omega) (by omega), show Hm.before (l.map tk) x = 0 by omega, Hm.of_zero hm]; omega
/-- Tasks fit. -/
def fitL (l : List S31) : Prop := Hm.loadN (l.map tk) (Hm.per (l.map tk) : Int) ≤ (Hm.per (l.map tk) : Int) ∧ ∀ y, 0 ≤ y → Hm.of (l.map tk) y ≤ y
theorem path_from {l : List S31} (hok : okL l) {L : Int} (hL0 : 0 ≤ L) (hL : L ≤ 1099511627776) (c : Nat) (hc : L.toNat < c) :
  ∃ xs, pathGo l (leastV l) c (beforeV l L) = some xs ∧ xs.length ≤ c ∧ PathOk l L (beforeV l L) xs := by
 have hm := okL_map hok
 have hb := Hm.before_ge (l.map tk) L
 rw [beforeV_yes hok hL0 hL]
 refine path_walk hok hL c _ (by omega) (fun h => ?_) (fun _ hq y hy1 hy2 => ?_) (fun h y hy1 hy2 => ?_)
 ·simp only [decide_eq_true_eq] at h ⊢
  have := Hm.before_lt hm (x := L) (by omega)
  omega
 ·simp only at hq hy1
  rw [Hm.of_before hm hy1 (by omega)]; omega
 ·simp only [decide_eq_false_iff_not] at h
  rw [Hm.of_before hm (x := L) (by omega) (by omega), show Hm.before (l.map tk) L = 0 by omega, Hm.of_zero hm]; omega
/-- What a path tells of tasks whose load is not above 1. -/
theorem path_res {l : List S31} (hok : okL l) (hp : Hm.per (l.map tk) ≤ 1048576) (hf : Hm.loadN (l.map tk) (Hm.per (l.map tk) : Int) ≤ (Hm.per (l.map tk) : Int)) (k : Nat) (hk : 2147500000 < k) :
  ∃ L xs, busy_Length.f k l = some (L, 0) ∧ 0 ≤ L ∧ L ≤ (Hm.per (l.map tk) : Int) ∧ pathGo l (leastV l) k (beforeV l L) = some xs ∧ xs.length ≤ 1048577 ∧ PathOk l L (beforeV l L) xs ∧ (xs.all (fun p => decide (p.2 ≤ p.1)) = true ↔ fitL l) ∧ (∀ y, 1 ≤ y → y < L → Hm.of (l.map tk) y ≤ y) = fitL l := by
 have hm := okL_map hok
 by_cases hl : l = []
 ·subst hl
  obtain ⟨xs, e1, e2, e3⟩ := path_from (l := []) hok (L := 0) (by omega) (by omega) 1 (by omega)
  have hx : xs = [] := e3.1.1 (by rw [beforeV_yes hok (by omega) (by omega)]; rfl)
  subst hx
  have hfit : fitL [] := ⟨hf, fun y hy => by simpa [Hm.of] using hy⟩
  refine ⟨0, [], Length_none k (by omega), by omega, by omega, ?_, by simp, e3, by simp [hfit], ?_⟩
  ·exact pathGo_le (by omega) e1
  ·simp only [hfit, eq_iff_iff, iff_true]; intro y _ _; omega
 ·obtain ⟨L, a1, a2, a3, a4, a5⟩ := Length_fits k hok (by omega) hl hp hf
  obtain ⟨xs, e1, e2, e3⟩ := path_from hok (L := L) (by omega) (by omega) 1048577 (by omega)
  have hall : (∀ y, 1 ≤ y → y < L → Hm.of (l.map tk) y ≤ y) ↔ fitL l := ⟨fun h => ⟨hf, fun y hy => Hm.fits_all hm a3 a2 h y.toNat y (Nat.le_refl _) hy⟩, fun h y h1 h2 => h.2 y (by omega)⟩
  refine ⟨L, xs, a1, by omega, a4, pathGo_le (by omega) e1, e2, e3, ⟨fun h => hall.1 (e3.2.2.2 (by simpa using h)), fun h => ?_⟩, propext hall⟩
  simp only [List.all_eq_true, decide_eq_true_eq]
  intro q hq
  have := e3.2.1 q hq
  rw [this.1]; exact h.2 _ (by omega)
theorem Test_yes {l : List S31} (hok : okL l) (hp : Hm.per (l.map tk) ≤ 1048576) (k : Nat) (hk : 2147500000 < k) (h : fitL l) : qpa_Test.f k l = some 0 := by
 obtain ⟨L, xs, a1, a2, a3, a4, a5, a6, a7, _⟩ := path_res hok hp h.1 k hk
 unfold qpa_Test.f
 rw [a1]; simp only [Option.bind_some, if_true]
 rw [a4]; simp only [Option.bind_some]
 rw [if_pos (a7.2 h)]
theorem Test_not {l : List S31} (hok : okL l) (hp : Hm.per (l.map tk) ≤ 1048576) (k : Nat) (hk : 2147500000 < k) (h : ¬ fitL l) : qpa_Test.f k l = some 17 := by
 unfold qpa_Test.f
 by_cases hf : Hm.loadN (l.map tk) (Hm.per (l.map tk) : Int) ≤ (Hm.per (l.map tk) : Int)
 ·obtain ⟨L, xs, a1, a2, a3, a4, a5, a6, a7, _⟩ := path_res hok hp hf k hk
  rw [a1]; simp only [Option.bind_some, if_true]
  rw [a4]; simp only [Option.bind_some]
  rw [if_neg (fun h' => h (a7.1 h'))]
 ·rw [Length_over k hok (by omega) hp (by omega)]; rfl

/-- the first of some times that are so -/
theorem first_int {p : Int → Prop} : ∀ (n : Nat) (y : Int), 1 ≤ y → y.toNat ≤ n → p y → ∃ m, 1 ≤ m ∧ m ≤ y ∧ p m ∧ ∀ z, 1 ≤ z → z < m → ¬ p z := by
 intro n
 induction n with
 | zero => intro y h1 h2; omega
 | succ n ih =>
  intro y h1 h2 hp
  by_cases h : ∃ z, 1 ≤ z ∧ z < y ∧ p z
  ·obtain ⟨z, z1, z2, z3⟩ := h
   obtain ⟨m, m1, m2, m3, m4⟩ := ih z z1 (by omega) z3
   exact ⟨m, m1, by omega, m3, m4⟩
  ·exact ⟨y, h1, Int.le_refl _, hp, fun z z1 z2 z3 => h ⟨z, z1, z2, z3⟩⟩
/-- What does not fit, though its load is not above 1, has a first time of too much work, within the busy length. -/
theorem miss_first {l : List S31} (hok : okL l) (hp : Hm.per (l.map tk) ≤ 1048576) (hf : Hm.loadN (l.map tk) (Hm.per (l.map tk) : Int) ≤ (Hm.per (l.map tk) : Int)) (h : ¬ fitL l) (k : Nat) (hk : 2147500000 < k) :
  ∃ L m, busy_Length.f k l = some (L, 0) ∧ L ≤ (Hm.per (l.map tk) : Int) ∧ 1 ≤ m ∧ m < L ∧ m < Hm.of (l.map tk) m ∧ ∀ z, 1 ≤ z → z < m → Hm.of (l.map tk) z ≤ z := by
 obtain ⟨L, xs, a1, a2, a3, a4, a5, a6, a7, a8⟩ := path_res hok hp hf k hk
 have h2 : ¬ ∀ y, 1 ≤ y → y < L → Hm.of (l.map tk) y ≤ y := by rw [a8]; exact h
 have h3 : ∃ y, 1 ≤ y ∧ y < L ∧ y < Hm.of (l.map tk) y := by
  refine Classical.byContradiction fun hn => h2 fun y h4 h5 => ?_
  refine Classical.byContradiction fun h6 => hn ⟨y, h4, h5, by omega⟩
 obtain ⟨y, y1, y2, y3⟩ := h3
 obtain ⟨m, m1, m2, m3, m4⟩ := first_int (p := fun y => y < Hm.of (l.map tk) y) y.toNat y y1 (Nat.le_refl _) y3
 exact ⟨L, m, a1, a3, m1, by omega, m3, fun z z1 z2 => Int.not_lt.1 (m4 z z1 z2)⟩

theorem rrow_loop (suf : List S31) : ∀ (pre : List S31) (k : Nat), (∀ s ∈ suf, (tk s).ok) → ((pre ++ suf).length : Int) ≤ 16 → suf.length < k → r09_Row.l0 k (pre ++ suf) (pre.length : Int) = some true := by
 induction suf with
 | nil =>
  intro pre k _ hlen hk
  obtain ⟨k, rfl⟩ := some_k hk
  simp only [r09_Row.l0, List.append_nil] at hlen ⊢
  rw [if_neg (by omega), decide_eq_true hlen]
 | cons s suf ih =>
  intro pre k hok hlen hk
  obtain ⟨k, rfl⟩ := some_k (show 0 < k by omega)
  have i1 : ((pre ++ s :: suf).length : Int) = (pre.length : Int) + ((suf.length : Int) + 1) := by simp
  have i2 := ih (pre ++ [s]) k (fun x hx => hok x (by simp [hx])) (by simpa using hlen) (by simp at hk; omega)
  simp only [List.append_assoc, List.cons_append, List.nil_append] at i2
  rw [show ((pre ++ [s]).length : Int) = (pre.length : Int) + 1 from by simp] at i2
  simp only [r09_Row.l0]
  rw [if_pos (by omega), if_pos (by omega), rd_mid, rcheck_is, (taskB_ok s).2 (hok s (by simp))]
  simp only [Option.bind_some, if_true]
  rw [w64 (by omega) (by omega)]
  exact i2
theorem rrow_yes {l : List S31} (k : Nat) (h : okL l) (hk : 16 < k) : r09_Row.f k l = some true := by
 have hl := h.1
 have := rrow_loop l [] k h.2 (by simp; omega) (by omega)
 exact this
theorem rgcd_is : ∀ (k : Nat) (a b : Int), 0 ≤ a → 0 ≤ b → b ≤ 9223372036854775807 → a ≤ 9223372036854775807 → b.toNat < k → r09_Gcd.f k a b = some ((Int.gcd a b : Nat) : Int) := by
 intro k
 induction k with
 | zero => intro a b _ _ _ _ h; omega
 | succ k ih =>
  intro a b ha hb hb2 ha2 hk
  unfold r09_Gcd.f
  rw [if_neg (by omega), if_neg (by omega)]
  by_cases h : b = 0
  ·subst h; rw [if_pos rfl, Int.gcd_zero_right]; congr 1; omega
  ·rw [if_neg h]
   have e : (Int.tmod a b).natAbs = a.natAbs % b.natAbs := Int.natAbs_tmod a b
   have h1 := Int.tmod_nonneg b ha
   have h2 := Int.tmod_lt_of_pos a (show 0 < b by omega)
   rw [ih b (Int.tmod a b) hb h1 (by omega) (by omega) (by omega)]
   simp only [Option.bind_some]
   congr 2
   rw [Int.gcd_eq_natAbs_gcd_natAbs, Int.gcd_eq_natAbs_gcd_natAbs, e, Nat.gcd_comm a.natAbs b.natAbs, Nat.gcd_rec b.natAbs a.natAbs, Nat.gcd_comm]
theorem rper_loop (k0 : Nat) (hk0 : 2147483648 ≤ k0) (suf : List S31) : ∀ (pre : List S31) (k m : Nat), k0 + suf.length < k → (pre ++ suf).length ≤ 16 → 0 < m → m ≤ 1048576 → (∀ s ∈ suf, (tk s).ok) →
  Hm.perFrom m (suf.map fun s => s.f3.toNat) ≤ 1048576 → r09_Period.l0 k (pre ++ suf) (m : Int) (pre.length : Int) = some (((Hm.perFrom m (suf.map fun s => s.f3.toNat) : Nat) : Int), 0) := by
 induction suf with
 | nil =>
  intro pre k m hk hlen h0 h1 _ _
  obtain ⟨k, rfl⟩ := some_k (show 0 < k by omega)
  simp only [r09_Period.l0, List.append_nil, List.map_nil, Hm.perFrom]
  rw [if_neg (by omega)]
 | cons s suf ih =>
  intro pre k m hk hlen h0 h1 hok hp
  obtain ⟨k, rfl⟩ := some_k (show 0 < k by omega)
  obtain ⟨_, _, h2, h3, h4, h5, _, _⟩ := hok s (by simp)
  simp only [tk] at h2 h3 h4 h5
  obtain ⟨t, ht⟩ : ∃ t : Nat, s.f3 = (t : Int) := ⟨s.f3.toNat, by omega⟩
  have hg : Int.gcd (m : Int) (t : Int) = Nat.gcd m t := by simp [Int.gcd_eq_natAbs_gcd_natAbs]
  have hgp : 0 < Nat.gcd m t := Nat.gcd_pos_of_pos_left t h0
  have e3 : (s :: suf).map (fun s => s.f3.toNat) = t :: suf.map (fun s => s.f3.toNat) := by simp [ht]
  rw [e3] at hp ⊢
  rw [show Hm.perFrom m (t :: suf.map fun s => s.f3.toNat) = Hm.perFrom (Nat.lcm m t) (suf.map fun s => s.f3.toNat) from rfl] at hp ⊢
  have hlp : 0 < Nat.lcm m t := Nat.lcm_pos h0 (by omega)
  have hpos : 0 < Hm.perFrom (Nat.lcm m t) (suf.map fun s => s.f3.toNat) := Hm.perFrom_pos hlp (fun x hx => by
   obtain ⟨y, hy, rfl⟩ := List.mem_map.1 hx
   obtain ⟨_, _, g2, g3, g4, _⟩ := hok y (by simp [hy])
   simp only [tk] at g2 g3 g4
   omega)
  have hle : Nat.lcm m t ≤ 1048576 := Nat.le_trans (Nat.le_of_dvd hpos (Hm.perFrom_start (Nat.lcm m t) (suf.map fun s => s.f3.toNat))) hp
  have hlen' := hlen
  simp only [List.length_append, List.length_cons] at hlen' hk
  have i1 : ((pre ++ s :: suf).length : Int) = (pre.length : Int) + ((suf.length : Int) + 1) := by simp
  have i2 := ih (pre ++ [s]) k (Nat.lcm m t) (by omega) (by simp; omega) hlp hle (fun x hx => hok x (by simp [hx])) hp
  simp only [List.append_assoc, List.cons_append, List.nil_append] at i2
  rw [show ((pre ++ [s]).length : Int) = (pre.length : Int) + 1 from by simp] at i2
  have e1 : Int.tdiv (m : Int) ((Nat.gcd m t : Nat) : Int) = ((m / Nat.gcd m t : Nat) : Int) := by rw [Int.tdiv_eq_ediv_of_nonneg (by omega)]; exact (Int.natCast_ediv m (Nat.gcd m t)).symm
  have hq : m / Nat.gcd m t ≤ m := Nat.div_le_self _ _
  have e2 : ((m / Nat.gcd m t : Nat) : Int) * (t : Int) = ((Nat.lcm m t : Nat) : Int) := by
   rw [← Int.natCast_mul]; congr 1
   unfold Nat.lcm
   rw [Nat.mul_comm, ← Nat.mul_div_assoc t (Nat.gcd_dvd_left m t), Nat.mul_comm]
  simp only [r09_Period.l0]
  rw [if_pos (by omega), if_pos (by omega), rd_mid, ht, rgcd_is k _ _ (by omega) (by omega) (by omega) (by omega) (by omega), hg]
  simp only [Option.bind_some]
  rw [if_neg (by omega), e1, w64 (n := ((m / Nat.gcd m t : Nat) : Int)) (by have := Int.natCast_nonneg (m / Nat.gcd m t); omega) (by have : ((m / Nat.gcd m t : Nat) : Int) ≤ (m : Int) := Int.ofNat_le.2 hq; omega), e2, w64 (n := ((Nat.lcm m t : Nat) : Int)) (by omega) (by omega), if_neg (by omega), w64 (by omega) (by omega)]
  exact i2
theorem rPeriod_ok {l : List S31} (k : Nat) (h : okL l) (hk : 2147483700 < k) (hp : Hm.per (l.map tk) ≤ 1048576) : r09_Period.f k l = some ((Hm.per (l.map tk) : Int), 0) := by
 have e0 : Hm.per (l.map tk) = Hm.perFrom 1 (l.map fun s => s.f3.toNat) := by unfold Hm.per; rw [List.map_map]; rfl
 have hl := h.1
 have := rper_loop 2147483648 (by omega) l [] k 1 (by omega) (by simpa using hl) (by omega) (by omega) h.2 (by rw [← e0]; exact hp)
 unfold r09_Period.f
 rw [rrow_yes k h (by omega)]; simp only [Option.bind_some, if_true]
 rw [e0]; exact this
theorem rload_loop {p : Int} (h0 : 0 < p) (h1 : p ≤ 1048576) (suf : List S31) : ∀ (pre : List S31) (k : Nat) (acc : Int), okL (pre ++ suf) → suf.length < k → 0 ≤ acc → acc ≤ (pre.length : Int) * 1048576 →
  r09_Load.l0 k (pre ++ suf) p acc (pre.length : Int) = some (acc + Hm.loadN (suf.map tk) p, p, 0) := by
 induction suf with
 | nil =>
  intro pre k acc _ hk _ _
  obtain ⟨k, rfl⟩ := some_k hk
  simp only [r09_Load.l0, List.append_nil, List.map_nil, Hm.loadN]
  rw [if_neg (by omega)]; simp
 | cons s suf ih =>
  intro pre k acc hok hk ha hb
  obtain ⟨k, rfl⟩ := some_k (show 0 < k by omega)
  have hs : (tk s).ok := hok.2 s (by simp)
  have hw := Hm.load_le hs (p := p) (by omega)
  have hlen := hok.1
  simp only [List.length_append, List.length_cons] at hlen hk
  have hc : (tk s).c = s.f1 := rfl
  have ht : (tk s).t = s.f3 := rfl
  rw [hc, ht] at hw
  obtain ⟨_, _, h2, h3, h4, h5, _, _⟩ := hs
  simp only [tk] at h2 h3 h4 h5
  have i1 : ((pre ++ s :: suf).length : Int) = (pre.length : Int) + ((suf.length : Int) + 1) := by simp
  have i2 := ih (pre ++ [s]) k (acc + s.f1 * (p / s.f3)) (by simpa using hok) (by omega) (by omega) (by simp only [List.length_append, List.length_singleton]; omega)
  simp only [List.append_assoc, List.cons_append, List.nil_append] at i2
  have i3 : ((pre ++ [s]).length : Int) = (pre.length : Int) + 1 := by simp
  rw [i3] at i2
  have hq := Int.ediv_nonneg (show 0 ≤ p by omega) (show 0 ≤ s.f3 by omega)
  have hq2 := Int.ediv_le_self s.f3 (show 0 ≤ p by omega)
  simp only [r09_Load.l0]
  rw [if_pos (by omega), if_pos (by omega), rd_mid, if_neg (by omega), Int.tdiv_eq_ediv_of_nonneg (by omega), w64 (n := p / s.f3) (by omega) (by omega)]
  rw [w64 (n := s.f1 * (p / s.f3)) (by omega) (by omega), w64 (n := acc + s.f1 * (p / s.f3)) (by omega) (by omega), w64 (n := (pre.length : Int) + 1) (by omega) (by omega), i2]
  simp only [List.map_cons, Hm.loadN, hc, ht]
  congr 2; omega
theorem rLoad_ok {l : List S31} (k : Nat) (h : okL l) (hk : 2147483700 < k) (hp : Hm.per (l.map tk) ≤ 1048576) : r09_Load.f k l = some (Hm.loadN (l.map tk) (Hm.per (l.map tk) : Int), (Hm.per (l.map tk) : Int), 0) := by
 unfold r09_Load.f
 rw [rPeriod_ok k h hk hp]; simp only [Option.bind_some, if_true]
 have hpos := Hm.per_pos (okL_map h)
 have hl := h.1
 have := rload_loop (p := (Hm.per (l.map tk) : Int)) (by omega) (by omega) l [] k 0 (by simpa using h) (by omega) (by omega) (by simp)
 simpa using this

theorem rrowall_loop (suf : List S31) : ∀ (pre : List S31) (k : Nat), (pre ++ suf).length ≤ 1000000000000000000 → suf.length < k → r09_Row.l0 k (pre ++ suf) (pre.length : Int) = some (suf.all taskB && decide ((pre ++ suf).length ≤ 16)) := by
 induction suf with
 | nil =>
  intro pre k hlen hk
  obtain ⟨k, rfl⟩ := some_k hk
  simp only [r09_Row.l0, List.append_nil] at hlen ⊢
  rw [if_neg (by omega)]
  simp only [List.all_nil, Bool.true_and]
  congr 1
  by_cases h : pre.length ≤ 16
  ·rw [decide_eq_true h, decide_eq_true (by omega)]
  ·rw [decide_eq_false h, decide_eq_false (by omega)]
 | cons s suf ih =>
  intro pre k hlen hk
  obtain ⟨k, rfl⟩ := some_k (show 0 < k by omega)
  have i1 : ((pre ++ s :: suf).length : Int) = (pre.length : Int) + ((suf.length : Int) + 1) := by simp
  have i2 := ih (pre ++ [s]) k (by simpa using hlen) (by simp at hk; omega)
  simp only [List.append_assoc, List.cons_append, List.nil_append] at i2
  rw [show ((pre ++ [s]).length : Int) = (pre.length : Int) + 1 from by simp] at i2
  simp only [r09_Row.l0]
  rw [if_pos (by omega), if_pos (by omega), rd_mid, rcheck_is]
  simp only [Option.bind_some, List.all_cons]
  cases taskB s with
  | false => rfl
  | true =>
   simp only [if_true, Bool.true_and]
   rw [w64 (by omega) (by omega)]
   exact i2
theorem rrow_all (k : Nat) (l : List S31) (hl : l.length ≤ 1000000000000000000) (hk : l.length < k) : r09_Row.f k l = some (rowB l) := by
 have := rrowall_loop l [] k (by simpa using hl) hk
 unfold r09_Row.f rowB
 rw [Bool.and_comm]
 exact this

theorem check_yes {s : S31} (h : (tk s).ok) : r09_Check.f s.f0 s.f1 s.f2 s.f3 s.f4 = some true := by
 obtain ⟨h1, h2, h3, h4, h5, h6, h7, h8⟩ := h
 simp only [tk] at h1 h2 h3 h4 h5 h6 h7 h8
 unfold r09_Check.f
 rw [if_pos (by omega), if_pos (by omega), if_pos (by omega), if_pos (by omega), if_pos (by omega), if_pos (by omega), if_pos (by omega), decide_eq_true h8]
theorem rOne_yes {s : S31} {x : Int} (h : (tk s).ok) (h0 : 0 ≤ x) (h1 : x ≤ 1099511627776) : r10_One.f s.f0 s.f1 s.f2 s.f3 s.f4 x = some (s.f1 * Hm.many (tk s) x) := by
 unfold r10_One.f r10_time.f
 rw [check_yes h, if_pos (by omega), decide_eq_true (by omega)]
 simp only [Option.bind_some, if_true]
 have hw := Hm.work_le h h0
 obtain ⟨_, _, h2, h3, h4, h5, _, _⟩ := h
 simp only [tk] at h2 h3 h4 h5
 by_cases hx : x < s.f2
 ·rw [if_pos hx, Hm.many_lo (show x < (tk s).d from hx), Int.mul_zero]
 ·have hm : Hm.many (tk s) x = (x - s.f2) / s.f3 + 1 := Hm.many_hi (show (tk s).d ≤ x by show s.f2 ≤ x; omega)
  have hc : (tk s).c = s.f1 := rfl
  rw [hc, hm] at hw
  have hq := Int.ediv_nonneg (show 0 ≤ x - s.f2 by omega) (show 0 ≤ s.f3 by omega)
  have hq2 := Int.ediv_le_self s.f3 (show 0 ≤ x - s.f2 by omega)
  rw [if_neg hx, if_neg (by omega), w64 (n := x - s.f2) (by omega) (by omega), Int.tdiv_eq_ediv_of_nonneg (by omega), w64 (n := (x - s.f2) / s.f3) (by omega) (by omega), w64 (n := (x - s.f2) / s.f3 + 1) (by omega) (by omega), w64 (by omega) (by omega), hm]

theorem rtime_is (x : Int) : r10_time.f x = some (decide (0 ≤ x) && decide (x ≤ 1099511627776)) := by
 unfold r10_time.f
 by_cases h : 0 ≤ x
 ·rw [if_pos h, decide_eq_true h]; rfl
 ·rw [if_neg h, decide_eq_false h]; rfl

theorem rone_no {s : S31} {x : Int} (h : ¬ ((tk s).ok ∧ 0 ≤ x ∧ x ≤ 1099511627776)) : r10_One.f s.f0 s.f1 s.f2 s.f3 s.f4 x = some 0 := by
 unfold r10_One.f
 rw [rcheck_is, rtime_is]
 simp only [Option.bind_some]
 by_cases h1 : taskB s = true
 ·rw [if_pos h1, if_neg]
  intro h2
  simp only [Bool.and_eq_true, decide_eq_true_eq] at h2
  exact h ⟨(taskB_ok s).1 h1, h2⟩
 ·rw [if_neg h1]
theorem rof_loop {x : Int} (h0 : 0 ≤ x) (h1 : x ≤ 1099511627776) (suf : List S31) : ∀ (pre : List S31) (k : Nat) (acc : Int), okL (pre ++ suf) → suf.length < k → 0 ≤ acc → acc ≤ (pre.length : Int) * 2000000000000 →
  r10_Of.l0 k (pre ++ suf) x true acc (pre.length : Int) = some (acc + Hm.of (suf.map tk) x) := by
 induction suf with
 | nil =>
  intro pre k acc _ hk _ _
  obtain ⟨k, rfl⟩ := some_k hk
  simp only [r10_Of.l0, List.append_nil, List.map_nil, Hm.of]
  rw [if_neg (by omega)]; simp
 | cons s suf ih =>
  intro pre k acc hok hk ha hb
  obtain ⟨k, rfl⟩ := some_k (show 0 < k by omega)
  have hs : (tk s).ok := hok.2 s (by simp)
  have hw := Hm.work_le hs h0
  have hlen := hok.1
  simp only [List.length_append, List.length_cons] at hlen hk
  have hc : (tk s).c = s.f1 := rfl
  rw [hc] at hw
  have i1 : ((pre ++ s :: suf).length : Int) = (pre.length : Int) + ((suf.length : Int) + 1) := by simp
  have i2 := ih (pre ++ [s]) k (acc + s.f1 * Hm.many (tk s) x) (by simpa using hok) (by omega) (by omega) (by simp only [List.length_append, List.length_singleton]; omega)
  simp only [List.append_assoc, List.cons_append, List.nil_append] at i2
  rw [show ((pre ++ [s]).length : Int) = (pre.length : Int) + 1 from by simp] at i2
  simp only [r10_Of.l0]
  rw [if_pos (by omega), if_pos trivial, if_pos (by omega), rd_mid, rOne_yes hs h0 h1]
  simp only [Option.bind_some]
  rw [w64 (n := acc + s.f1 * Hm.many (tk s) x) (by omega) (by omega), w64 (n := (pre.length : Int) + 1) (by omega) (by omega), i2]
  simp only [List.map_cons, Hm.of, hc]
  congr 1; omega
theorem rof_zero {l : List S31} {x : Int} (hx : ¬ (0 ≤ x ∧ x ≤ 1099511627776)) (suf : List S31) : ∀ (pre : List S31) (k : Nat), l = pre ++ suf → l.length ≤ 1000000000000000000 → suf.length < k →
  r10_Of.l0 k l x true 0 (pre.length : Int) = some 0 := by
 induction suf with
 | nil =>
  intro pre k e hl hk
  obtain ⟨k, rfl⟩ := some_k hk
  have e' : l.length = pre.length := by rw [e]; simp
  simp only [r10_Of.l0]
  rw [if_neg (by omega)]
 | cons s suf ih =>
  intro pre k e hl hk
  obtain ⟨k, rfl⟩ := some_k (show 0 < k by omega)
  have i1 : (l.length : Int) = (pre.length : Int) + ((suf.length : Int) + 1) := by rw [e]; simp
  have i2 := ih (pre ++ [s]) k (by simpa using e) hl (by simp at hk; omega)
  rw [show ((pre ++ [s]).length : Int) = (pre.length : Int) + 1 from by simp] at i2
  simp only [r10_Of.l0]
  rw [if_pos (by omega), if_pos trivial, if_pos (by omega), show rd_T31 l (pre.length : Int) = s from by rw [e, rd_mid], rone_no (fun h => hx h.2)]
  simp only [Option.bind_some]
  rw [w64 (n := 0 + 0) (by omega) (by omega), w64 (n := (pre.length : Int) + 1) (by omega) (by omega)]
  exact i2
theorem rOf_all (k : Nat) (l : List S31) (x : Int) (hl : l.length ≤ 1000000000000000000) (hk : l.length + 20 < k) : r10_Of.f k l x = some (ofV l x) := by
 unfold r10_Of.f ofV
 rw [rrow_all k l hl (by omega)]; simp only [Option.bind_some]
 by_cases hr : rowB l = true
 ·have hok := (rowB_ok l).1 hr
  rw [hr]
  by_cases hx : 0 ≤ x ∧ x ≤ 1099511627776
  ·rw [if_pos (mayB_ok.2 ⟨hok, hx.1, hx.2⟩)]
   have := rof_loop hx.1 hx.2 l [] k 0 (by simpa using hok) (by omega) (by omega) (by simp)
   simpa using this
  ·rw [if_neg (fun h => hx (mayB_ok.1 h).2)]
   exact rof_zero hx l [] k (by simp) hl (by omega)
 ·rw [if_neg (fun h => hr ((rowB_ok l).2 (mayB_ok.1 h).1)), Bool.eq_false_iff.2 hr]
  obtain ⟨k, rfl⟩ := some_k (show 0 < k by omega)
  simp only [r10_Of.l0]
  split
  ·rfl
  ·rfl

theorem rmiss_none {l : List S31} (hok : okL l) {P a b : Int} (hP : P ≤ 1048576) (d : Nat) : ∀ (k : Nat) (t : Int), t + d = P + 1 → 1 ≤ t → d + 40 < k → (∀ y, t ≤ y → y ≤ P → Hm.of (l.map tk) y ≤ y) →
  r12_Miss.l0 k l t a P b = some (0, 0) := by
 have hlen := hok.1
 induction d with
 | zero =>
  intro k t hd h1 hk hy
  obtain ⟨k, rfl⟩ := some_k (show 0 < k by omega)
  simp only [r12_Miss.l0]
  rw [if_neg (by omega)]
 | succ d ih =>
  intro k t hd h1 hk hy
  obtain ⟨k, rfl⟩ := some_k (show 0 < k by omega)
  have := hy t (Int.le_refl _) (by omega)
  simp only [r12_Miss.l0]
  rw [if_pos (by omega), rOf_all k l t (by omega) (by omega), ofV_ok hok (by omega) (by omega)]
  simp only [Option.bind_some]
  rw [if_neg (by omega), w64 (by omega) (by omega)]
  exact ih k (t + 1) (by omega) (by omega) (by omega) (fun y h2 h3 => hy y (by omega) h3)
theorem rmiss_at {l : List S31} (hok : okL l) {P a b m : Int} (hP : P ≤ 1048576) (hm : m ≤ P) (hx : m < Hm.of (l.map tk) m) (d : Nat) : ∀ (k : Nat) (t : Int), t + d = m → 1 ≤ t → d + 40 < k → (∀ y, t ≤ y → y < m → Hm.of (l.map tk) y ≤ y) →
  r12_Miss.l0 k l t a P b = some (m, 0) := by
 have hlen := hok.1
 induction d with
 | zero =>
  intro k t hd h1 hk hy
  obtain ⟨k, rfl⟩ := some_k (show 0 < k by omega)
  have : t = m := by omega
  subst this
  simp only [r12_Miss.l0]
  rw [if_pos (by omega), rOf_all k l t (by omega) (by omega), ofV_ok hok (by omega) (by omega)]
  simp only [Option.bind_some]
  rw [if_pos (by omega)]
 | succ d ih =>
  intro k t hd h1 hk hy
  obtain ⟨k, rfl⟩ := some_k (show 0 < k by omega)
  have := hy t (Int.le_refl _) (by omega)
  simp only [r12_Miss.l0]
  rw [if_pos (by omega), rOf_all k l t (by omega) (by omega), ofV_ok hok (by omega) (by omega)]
  simp only [Option.bind_some]
  rw [if_neg (by omega), w64 (by omega) (by omega)]
  exact ih k (t + 1) (by omega) (by omega) (by omega) (fun y h2 h3 => hy y (by omega) h3)
theorem rMiss_fits {l : List S31} (hok : okL l) (hp : Hm.per (l.map tk) ≤ 1048576) (k : Nat) (hk : 2151000000 < k) (h : fitL l) : r12_Miss.f k l = some (0, 0) := by
 have hpos := Hm.per_pos (okL_map hok)
 unfold r12_Miss.f
 rw [rLoad_ok k hok (by omega) hp]; simp only [Option.bind_some, if_true]
 obtain ⟨k, rfl⟩ := some_k (show 0 < k by omega)
 simp only [r12_Miss.j0]
 have := h.1
 rw [if_neg (by simp; omega)]
 exact rmiss_none hok (by omega) (Hm.per (l.map tk)) k 1 (by omega) (by omega) (by omega) (fun y h1 _ => h.2 y (by omega))
theorem rMiss_over {l : List S31} (hok : okL l) (hp : Hm.per (l.map tk) ≤ 1048576) (k : Nat) (hk : 2151000000 < k) (hf : ¬ Hm.loadN (l.map tk) (Hm.per (l.map tk) : Int) ≤ (Hm.per (l.map tk) : Int)) : r12_Miss.f k l = some (0, 0) := by
 unfold r12_Miss.f
 rw [rLoad_ok k hok (by omega) hp]; simp only [Option.bind_some, if_true]
 obtain ⟨k, rfl⟩ := some_k (show 0 < k by omega)
 simp only [r12_Miss.j0]
 rw [if_pos (by simp; omega)]
theorem rMiss_at {l : List S31} (hok : okL l) (hp : Hm.per (l.map tk) ≤ 1048576) (k : Nat) (hk : 2151000000 < k) (hf : Hm.loadN (l.map tk) (Hm.per (l.map tk) : Int) ≤ (Hm.per (l.map tk) : Int)) {m : Int} (h1 : 1 ≤ m) (h2 : m ≤ (Hm.per (l.map tk) : Int)) (h3 : m < Hm.of (l.map tk) m) (h4 : ∀ z, 1 ≤ z → z < m → Hm.of (l.map tk) z ≤ z) : r12_Miss.f k l = some (m, 0) := by
 unfold r12_Miss.f
 rw [rLoad_ok k hok (by omega) hp]; simp only [Option.bind_some, if_true]
 obtain ⟨k, rfl⟩ := some_k (show 0 < k by omega)
 simp only [r12_Miss.j0]
 rw [if_neg (by simp; omega)]
 exact rmiss_at hok (by omega) h2 h3 (m - 1).toNat k 1 (by omega) (by omega) (by omega) h4
theorem rTest_yes {l : List S31} (hok : okL l) (hp : Hm.per (l.map tk) ≤ 1048576) (k : Nat) (hk : 2151000000 < k) (h : fitL l) : r12_Test.f k l = some 0 := by
 have := h.1
 unfold r12_Test.f
 rw [rLoad_ok k hok (by omega) hp]; simp only [Option.bind_some, if_true]
 rw [rMiss_fits hok hp k hk h]; simp only [Option.bind_some]
 rw [if_neg (by omega), if_neg (by omega)]
theorem rTest_not {l : List S31} (hok : okL l) (hp : Hm.per (l.map tk) ≤ 1048576) (k : Nat) (hk : 2151000000 < k) (h : ¬ fitL l) : r12_Test.f k l = some 17 := by
 unfold r12_Test.f
 rw [rLoad_ok k hok (by omega) hp]; simp only [Option.bind_some, if_true]
 by_cases hf : Hm.loadN (l.map tk) (Hm.per (l.map tk) : Int) ≤ (Hm.per (l.map tk) : Int)
 ·obtain ⟨L, m, a1, a2, a3, a4, a5, a6⟩ := miss_first hok hp hf h k (by omega)
  rw [rMiss_at hok hp k hk hf a3 (by omega) a5 a6]; simp only [Option.bind_some]
  rw [if_neg (by omega), if_pos (by omega)]
 ·rw [rMiss_over hok hp k hk hf]; simp only [Option.bind_some]
  rw [if_pos (by omega)]

theorem Length_long {l : List S31} (k : Nat) (h : okL l) (hk : 2147483648 < k) (hp : ¬ Hm.per (l.map tk) ≤ 1048576) : busy_Length.f k l = some (0, 16) := by
 unfold busy_Length.f
 rw [right_long k h hk hp]; rfl
theorem Length_arg {l : List S31} (k : Nat) (h : ¬ okL l) : busy_Length.f k l = some (0, 1) := by
 unfold busy_Length.f
 rw [right_arg k h]; rfl

theorem Test_long {l : List S31} (hok : okL l) (hp : ¬ Hm.per (l.map tk) ≤ 1048576) (k : Nat) (hk : 2147500000 < k) : qpa_Test.f k l = some 16 := by
 unfold qpa_Test.f
 rw [Length_long k hok (by omega) hp]; rfl
theorem Test_arg {l : List S31} (hok : ¬ okL l) (k : Nat) : qpa_Test.f k l = some 1 := by
 unfold qpa_Test.f
 rw [Length_arg k hok]; rfl

theorem rper_over (k0 : Nat) (hk0 : 2147483648 ≤ k0) (suf : List S31) : ∀ (pre : List S31) (k m : Nat), k0 + suf.length < k → (pre ++ suf).length ≤ 16 → 0 < m → m ≤ 1048576 → (∀ s ∈ suf, (tk s).ok) →
  ¬ Hm.perFrom m (suf.map fun s => s.f3.toNat) ≤ 1048576 → r09_Period.l0 k (pre ++ suf) (m : Int) (pre.length : Int) = some (0, 16) := by
 induction suf with
 | nil =>
  intro pre k m hk hlen h0 h1 _ hp
  exact absurd h1 hp
 | cons s suf ih =>
  intro pre k m hk hlen h0 h1 hok hp
  obtain ⟨k, rfl⟩ := some_k (show 0 < k by omega)
  obtain ⟨_, _, h2, h3, h4, h5, _, _⟩ := hok s (by simp)
  simp only [tk] at h2 h3 h4 h5
  obtain ⟨t, ht⟩ : ∃ t : Nat, s.f3 = (t : Int) := ⟨s.f3.toNat, by omega⟩
  have hg : Int.gcd (m : Int) (t : Int) = Nat.gcd m t := by simp [Int.gcd_eq_natAbs_gcd_natAbs]
  have hgp : 0 < Nat.gcd m t := Nat.gcd_pos_of_pos_left t h0
  have e3 : (s :: suf).map (fun s => s.f3.toNat) = t :: suf.map (fun s => s.f3.toNat) := by simp [ht]
  rw [e3] at hp
  rw [show Hm.perFrom m (t :: suf.map fun s => s.f3.toNat) = Hm.perFrom (Nat.lcm m t) (suf.map fun s => s.f3.toNat) from rfl] at hp
  have hlp : 0 < Nat.lcm m t := Nat.lcm_pos h0 (by omega)
  have hlen' := hlen
  simp only [List.length_append, List.length_cons] at hlen' hk
  have i1 : ((pre ++ s :: suf).length : Int) = (pre.length : Int) + ((suf.length : Int) + 1) := by simp
  have e1 : Int.tdiv (m : Int) ((Nat.gcd m t : Nat) : Int) = ((m / Nat.gcd m t : Nat) : Int) := by rw [Int.tdiv_eq_ediv_of_nonneg (by omega)]; exact (Int.natCast_ediv m (Nat.gcd m t)).symm
  have hq : m / Nat.gcd m t ≤ m := Nat.div_le_self _ _
  have e2 : ((m / Nat.gcd m t : Nat) : Int) * (t : Int) = ((Nat.lcm m t : Nat) : Int) := by
   rw [← Int.natCast_mul]; congr 1
   unfold Nat.lcm
   rw [Nat.mul_comm, ← Nat.mul_div_assoc t (Nat.gcd_dvd_left m t), Nat.mul_comm]
  have hlcm : Nat.lcm m t ≤ 1048576 * 2147483648 := by
   rw [← Hm.mul_quo_gcd (m := m) (t := t) (by omega)]
   exact Nat.mul_le_mul h1 (by have := Nat.div_le_self t (Nat.gcd m t); omega)
  simp only [r09_Period.l0]
  rw [if_pos (by omega), if_pos (by omega), rd_mid, ht, rgcd_is k _ _ (by omega) (by omega) (by omega) (by omega) (by omega), hg]
  simp only [Option.bind_some]
  rw [if_neg (by omega), e1, w64 (n := ((m / Nat.gcd m t : Nat) : Int)) (by have := Int.natCast_nonneg (m / Nat.gcd m t); omega) (by have : ((m / Nat.gcd m t : Nat) : Int) ≤ (m : Int) := Int.ofNat_le.2 hq; omega), e2, w64 (n := ((Nat.lcm m t : Nat) : Int)) (by omega) (by omega)]
  by_cases hle : Nat.lcm m t ≤ 1048576
  ·rw [if_neg (by omega), w64 (by omega) (by omega)]
   have i2 := ih (pre ++ [s]) k (Nat.lcm m t) (by omega) (by simp; omega) hlp hle (fun x hx => hok x (by simp [hx])) hp
   simp only [List.append_assoc, List.cons_append, List.nil_append] at i2
   rw [show ((pre ++ [s]).length : Int) = (pre.length : Int) + 1 from by simp] at i2
   exact i2
  ·rw [if_pos (by omega)]
theorem rPeriod_over {l : List S31} (k : Nat) (h : okL l) (hk : 2147483700 < k) (hp : ¬ Hm.per (l.map tk) ≤ 1048576) : r09_Period.f k l = some (0, 16) := by
 have e0 : Hm.per (l.map tk) = Hm.perFrom 1 (l.map fun s => s.f3.toNat) := by unfold Hm.per; rw [List.map_map]; rfl
 have hl := h.1
 have := rper_over 2147483648 (by omega) l [] k 1 (by omega) (by simpa using hl) (by omega) (by omega) h.2 (by rw [← e0]; exact hp)
 unfold r09_Period.f
 rw [rrow_yes k h (by omega)]; simp only [Option.bind_some, if_true]
 exact this
theorem rPeriod_arg {l : List S31} (k : Nat) (h : ¬ okL l) (hl : l.length ≤ 1000000000000000000) (hk : l.length < k) : r09_Period.f k l = some (0, 1) := by
 unfold r09_Period.f
 rw [rrow_all k l hl hk, Bool.eq_false_iff.2 (fun e => h ((rowB_ok l).1 e))]; rfl
theorem rLoad_over {l : List S31} (k : Nat) (h : okL l) (hk : 2147483700 < k) (hp : ¬ Hm.per (l.map tk) ≤ 1048576) : r09_Load.f k l = some (0, 0, 16) := by
 unfold r09_Load.f
 rw [rPeriod_over k h hk hp]; rfl
theorem rLoad_arg {l : List S31} (k : Nat) (h : ¬ okL l) (hl : l.length ≤ 1000000000000000000) (hk : l.length < k) : r09_Load.f k l = some (0, 0, 1) := by
 unfold r09_Load.f
 rw [rPeriod_arg k h hl hk]; rfl

theorem rTest_long {l : List S31} (hok : okL l) (hp : ¬ Hm.per (l.map tk) ≤ 1048576) (k : Nat) (hk : 2151000000 < k) : r12_Test.f k l = some 16 := by
 unfold r12_Test.f
 rw [rLoad_over k hok (by omega) hp]; rfl
theorem rTest_arg {l : List S31} (hok : ¬ okL l) (hl : l.length ≤ 1000000) (k : Nat) (hk : 2151000000 < k) : r12_Test.f k l = some 1 := by
 unfold r12_Test.f
 rw [rLoad_arg k hok (by omega) (by omega)]; rfl
theorem Test_same (l : List S31) (hl : l.length ≤ 1000000) (k : Nat) (hk : 2151000000 < k) : ∃ e, qpa_Test.f k l = some e ∧ r12_Test.f k l = some e ∧ (e = 0 ∨ e = 1 ∨ e = 16 ∨ e = 17) := by
 by_cases hok : okL l
 ·by_cases hp : Hm.per (l.map tk) ≤ 1048576
  ·by_cases h : fitL l
   ·exact ⟨0, Test_yes hok hp k (by omega) h, rTest_yes hok hp k hk h, by omega⟩
   ·exact ⟨17, Test_not hok hp k (by omega) h, rTest_not hok hp k hk h, by omega⟩
  ·exact ⟨16, Test_long hok hp k (by omega), rTest_long hok hp k hk, by omega⟩
 ·exact ⟨1, Test_arg hok k, rTest_arg hok hl k hk, by omega⟩

theorem and_1 (n : Int) : bits .and .i64 n 1 = n % 2 := by
 have h127 : (BitVec.ofInt 64 1).toNat = 2 ^ 1 - 1 := by decide
 have key : (BitVec.ofInt 64 n &&& BitVec.ofInt 64 1).toNat = (n % ((2 ^ 64 : Nat) : Int)).toNat % 2 ^ 1 := by
  rw [BitVec.toNat_and, BitVec.toNat_ofInt, h127, Nat.and_two_pow_sub_one_eq_mod]
 show IntKind.i64.wrap ((BitVec.ofInt 64 n &&& BitVec.ofInt 64 1).toNat : Nat) = n % 2
 rw [key, IntKind.wrap_i64]
 omega

theorem rdR_mid (pre : List S60) (s : S60) (suf : List S60) : rd_T60 (pre ++ s :: suf) (pre.length : Int) = s := by
 simp [rd_T60]
theorem tasks_loop (l : List S60) (suf : List S60) : ∀ (pre : List S60) (k : Nat) (r : List S31), l = pre ++ suf → l.length ≤ 1000000 → r.length ≤ pre.length → suf.length < k → table_Tasks.l0 k r l (l.length : Int) (pre.length : Int) = some (r ++ suf.map (fun x => x.f0)) := by
 induction suf with
 | nil =>
  intro pre k r hl hlen hr hk
  obtain ⟨k, rfl⟩ := some_k hk
  simp only [table_Tasks.l0]
  subst hl
  rw [if_neg (by simp)]; simp
 | cons s suf ih =>
  intro pre k r hl hlen hr hk
  obtain ⟨k, rfl⟩ := some_k (show 0 < k by omega)
  have hll : l.length = pre.length + (suf.length + 1) := by subst hl; simp
  have hrd : rd_T60 l (pre.length : Int) = s := by subst hl; exact rdR_mid pre s suf
  simp only [List.length_cons] at hk
  simp only [table_Tasks.l0]
  have e : wrap64 ((pre.length : Int) + 1) = ((pre ++ [s]).length : Int) := by rw [w64 (by omega) (by omega)]; simp
  rw [if_pos (by omega), if_pos (by omega), if_pos (by omega), if_pos (by omega), hrd, e, ih (pre ++ [s]) k _ (by rw [hl]; simp) hlen (by simp; omega) (by omega)]
  simp
theorem Tasks_is (l : List S60) (m : Int) (hl : l.length ≤ 1000000) (k : Nat) (hk : 1000000 < k) : table_Tasks.f k l m = some (l.map (fun x => x.f0)) := by
 unfold table_Tasks.f
 simpa using tasks_loop l l [] k [] rfl hl (by simp) (by omega)
/-- The tasks of a mode. -/
def inL (m : Int) (l : List S60) : List S31 := (l.map (fun x => x.f0)).filter (fun x => !inOut m x)
theorem In_is (l : List S60) (m a : Int) (hl : l.length ≤ 1000000) (k : Nat) (hk : 1000000 < k) : table_In.f k l m a = some (inL a l) := by
 unfold table_In.f
 rw [Tasks_is l m hl k hk]; rfl
theorem bit_two (n : Int) : bits .and .i64 n 1 = 0 ∨ bits .and .i64 n 1 = 1 := by rw [and_1]; omega
theorem inOut_in {m : Int} (h0 : 0 ≤ m) (h1 : m < 4) (x : S31) : (!inOut m x) = true ↔ bits .and .i64 (shr .i64 x.f4 m) 1 = 1 := by
 unfold inOut
 rw [if_neg (by omega), if_neg (by omega)]
 rcases bit_two (shr .i64 x.f4 m) with h | h <;> rw [h] <;> simp
theorem inL_out {m : Int} (h : ¬ (0 ≤ m ∧ m ≤ 3)) (l : List S60) : inL m l = [] := by
 unfold inL
 rw [List.filter_eq_nil_iff]
 intro x _
 unfold inOut
 by_cases h0 : m < 0
 ·rw [if_pos h0]; simp
 ·rw [if_neg h0, if_pos (by omega)]; simp
theorem rin_loop (l : List S60) (m c : Int) (h0 : 0 ≤ m) (h1 : m ≤ 3) (suf : List S60) : ∀ (pre : List S60) (k : Nat) (r : List S31), l = pre ++ suf → l.length ≤ 1000000 → r.length ≤ pre.length → 2 * suf.length + 1 < k → r14_In.l0 k m r (pre.length : Int) l c = some (r ++ inL m suf) := by
 have hw : IntKind.u64.wrap m = m := by
  have : m = 0 ∨ m = 1 ∨ m = 2 ∨ m = 3 := by omega
  rcases this with rfl | rfl | rfl | rfl <;> decide
 induction suf with
 | nil =>
  intro pre k r hl hlen hr hk
  obtain ⟨k, rfl⟩ := some_k (show 0 < k by omega)
  obtain ⟨k, rfl⟩ := some_k (show 0 < k by simp at hk; omega)
  simp only [r14_In.l0]
  subst hl
  rw [if_neg (by simp)]
  simp [r14_In.j1, inL]
 | cons s suf ih =>
  intro pre k r hl hlen hr hk
  simp only [List.length_cons] at hk
  obtain ⟨k, rfl⟩ := some_k (show 0 < k by omega)
  obtain ⟨k, rfl⟩ := some_k (show 0 < k by omega)
  have hll : l.length = pre.length + (suf.length + 1) := by subst hl; simp
  have hrd : rd_T60 l (pre.length : Int) = s := by subst hl; exact rdR_mid pre s suf
  simp only [r14_In.l0]
  rw [if_pos (by omega), if_pos h0, decide_eq_true h1]
  simp only [r14_In.j1, if_true]
  rw [if_pos (by omega), if_pos (by omega), hw, if_pos h0, hrd]
  have e : wrap64 ((pre.length : Int) + 1) = ((pre ++ [s]).length : Int) := by rw [w64 (by omega) (by omega)]; simp
  rw [e]
  by_cases hb : (!inOut m s.f0) = true
  ·rw [if_pos ((inOut_in h0 (by omega) s.f0).1 hb), if_pos (by omega), ih (pre ++ [s]) k _ (by rw [hl]; simp) hlen (by simp; omega) (by omega)]
   unfold inL
   rw [List.map_cons, List.filter_cons_of_pos (p := fun x => !inOut m x) hb]
   simp
  ·rw [if_neg (fun q => hb ((inOut_in h0 (by omega) s.f0).2 q)), ih (pre ++ [s]) k _ (by rw [hl]; simp) hlen (by simp; omega) (by omega)]
   unfold inL
   rw [List.map_cons, List.filter_cons_of_neg (p := fun x => !inOut m x) hb]
theorem rIn_is (l : List S60) (m a : Int) (hl : l.length ≤ 1000000) (k : Nat) (hk : 2000010 < k) : r14_In.f k l m a = some (inL a l) := by
 unfold r14_In.f
 by_cases h : 0 ≤ a ∧ a ≤ 3
 ·simpa using rin_loop l a m h.1 h.2 l [] k [] rfl hl (by simp) (by omega)
 ·rw [inL_out h]
  obtain ⟨k, rfl⟩ := some_k (show 0 < k by omega)
  obtain ⟨k, rfl⟩ := some_k (show 0 < k by omega)
  simp only [r14_In.l0]
  by_cases c : (0 : Int) < (l.length : Int)
  ·rw [if_pos c]
   by_cases h0 : a ≥ 0
   ·rw [if_pos h0, decide_eq_false (show ¬ a ≤ 3 by omega)]
    simp only [r14_In.j1, Bool.false_eq_true, if_false]
   ·rw [if_neg h0]
    simp only [r14_In.j1, Bool.false_eq_true, if_false]
  ·rw [if_neg c]
   simp only [r14_In.j1, Bool.false_eq_true, if_false]

theorem and_7 (n : Int) : bits .and .i64 n 7 = n % 8 := by
 have h127 : (BitVec.ofInt 64 7).toNat = 2 ^ 3 - 1 := by decide
 have key : (BitVec.ofInt 64 n &&& BitVec.ofInt 64 7).toNat = (n % ((2 ^ 64 : Nat) : Int)).toNat % 2 ^ 3 := by
  rw [BitVec.toNat_and, BitVec.toNat_ofInt, h127, Nat.and_two_pow_sub_one_eq_mod]
 show IntKind.i64.wrap ((BitVec.ofInt 64 n &&& BitVec.ofInt 64 7).toNat : Nat) = n % 8
 rw [key, IntKind.wrap_i64]
 omega

theorem and_15 (n : Int) : bits .and .i64 n 15 = n % 16 := by
 have h127 : (BitVec.ofInt 64 15).toNat = 2 ^ 4 - 1 := by decide
 have key : (BitVec.ofInt 64 n &&& BitVec.ofInt 64 15).toNat = (n % ((2 ^ 64 : Nat) : Int)).toNat % 2 ^ 4 := by
  rw [BitVec.toNat_and, BitVec.toNat_ofInt, h127, Nat.and_two_pow_sub_one_eq_mod]
 show IntKind.i64.wrap ((BitVec.ofInt 64 n &&& BitVec.ofInt 64 15).toNat : Nat) = n % 16
 rw [key, IntKind.wrap_i64]
 omega

theorem mod_rng (a : Int) {m : Int} (h : 1 ≤ m) (hm : m ≤ 24) : 1 ≤ wrap64 (1 + Int.tmod (wrap64 (Int.tmod a m + m)) m) ∧ wrap64 (1 + Int.tmod (wrap64 (Int.tmod a m + m)) m) ≤ m := by
 have h1 : -m < Int.tmod a m ∧ Int.tmod a m < m := by
  rcases Int.le_total 0 a with ha | ha
  ·have h2 := Int.tmod_lt_of_pos a (show 0 < m by omega); have h3 := Int.tmod_nonneg m ha; omega
  ·have h2 := Int.tmod_lt_of_pos (-a) (show 0 < m by omega); have h3 := Int.tmod_nonneg m (show 0 ≤ -a by omega)
   rw [Int.neg_tmod] at h2 h3; omega
 rw [w64 (n := Int.tmod a m + m) (by omega) (by omega)]
 have h4 := Int.tmod_lt_of_pos (Int.tmod a m + m) (show 0 < m by omega); have h5 := Int.tmod_nonneg m (show 0 ≤ Int.tmod a m + m by omega)
 rw [w64 (by omega) (by omega)]; omega
theorem per_rng (j : Int) (h0 : 0 ≤ j) (h1 : j < 8) : 2 ≤ rd [2, 3, 4, 5, 6, 8, 10, 12] j ∧ rd [2, 3, 4, 5, 6, 8, 10, 12] j ≤ 12 ∧ rd [2, 3, 4, 5, 6, 8, 10, 12] j ∣ 120 := by
 have : j = 0 ∨ j = 1 ∨ j = 2 ∨ j = 3 ∨ j = 4 ∨ j = 5 ∨ j = 6 ∨ j = 7 := by omega
 rcases this with rfl | rfl | rfl | rfl | rfl | rfl | rfl | rfl <;> decide
theorem mode_rng (x : Int) : 1 ≤ wrap64 (1 + Int.tmod (bits BinOp.and IntKind.i64 x 15) 15) ∧ wrap64 (1 + Int.tmod (bits BinOp.and IntKind.i64 x 15) 15) ≤ 15 := by
 rw [and_15, Int.tmod_eq_emod_of_nonneg (by omega), w64 (by omega) (by omega)]; omega

theorem modeOne_some (l : List S31) (m : Int) (hl : l.length ≤ 1000000) (k : Nat) (hk : 2151000000 < k) : ∃ v, modeOne k l m = some v := by
 unfold modeOne
 by_cases hok : okL l
 ·rw [row_yes hok]; simp only [Option.bind_some]; rw [if_pos trivial]
  unfold slices_Clone_api_Task.f
  rw [if_pos (by omega)]; simp only [Option.bind_some]
  obtain ⟨e, e1, _⟩ := Test_same (l.filter fun x => !modeOut m x) (by have := List.length_filter_le (fun x => !modeOut m x) l; omega) k hk
  exact ⟨e, e1⟩
 ·rw [row_no hok]; simp only [Option.bind_some]; rw [if_neg (by decide)]; exact ⟨_, rfl⟩
theorem modeOut_in {m : Int} (h0 : 0 ≤ m) (h1 : m < 4) (x : S31) : modeOut m x = inOut m x := by
 unfold modeOut inOut
 rw [if_neg (by omega), if_neg (by omega)]
theorem filter_mode (R : List S60) {m : Int} (h0 : 0 ≤ m) (h1 : m < 4) : ((R.map (fun x => x.f0)).filter fun x => !modeOut m x) = inL m R := by
 unfold inL
 congr 1
 funext x
 rw [modeOut_in h0 h1]
theorem modeOne_zero {k : Nat} {l : List S31} {q : Int} (h : modeOne k l q = some 0) : qpa_Test.f k (l.filter fun x => !modeOut q x) = some 0 := by
 unfold modeOne at h
 obtain ⟨b, _, h⟩ := Option.bind_eq_some_iff.1 h
 cases b with
 | false => rw [if_neg (by decide)] at h; exact absurd (Option.some.inj h) (by decide)
 | true =>
  rw [if_pos rfl] at h
  obtain ⟨t, ht, h⟩ := Option.bind_eq_some_iff.1 h
  unfold slices_Clone_api_Task.f at ht
  split at ht
  ·obtain rfl := Option.some.inj ht; exact h
  ·cases ht
theorem firstM_zero {xs : List Int} (h : (firstM xs).2 = 0) : ∀ x ∈ xs, x = 0 := by
 unfold firstM at h
 by_cases c : nzIdx xs < 0
 ·intro x hx
  unfold nzIdx at c
  cases e : xs.findIdx? (fun x => x != 0) with
  | none =>
   rw [List.findIdx?_eq_none_iff] at e
   simpa using e x hx
  | some i => rw [e] at c; simp only at c; omega
 ·rw [if_neg c] at h
  simp only at h
  unfold nzIdx at c h
  cases e : xs.findIdx? (fun x => x != 0) with
  | none => rw [e] at c; exact absurd (by decide) c
  | some i =>
   rw [e] at h
   rw [List.findIdx?_eq_some_iff_getElem] at e
   obtain ⟨hi, h1, _⟩ := e
   simp only [Int.toNat_natCast] at h
   rw [List.getD_eq_getElem?_getD, List.getElem?_eq_getElem hi] at h
   simp only [Option.getD_some] at h
   rw [h] at h1
   exact absurd h1 (by decide)
/-- All four modes fit. -/
def fourT (k : Nat) (R : List S60) : Prop := ∀ q : Int, 0 ≤ q → q < 4 → qpa_Test.f k (inL q R) = some 0
theorem First_some (R : List S60) (m : Int) (hl : R.length ≤ 1000000) (k : Nat) (hk : 2151000000 < k) : ∃ a e, judge_First.f k R m = some (a, e) ∧ (e = 0 → tabB R m = true ∧ fourT k R) := by
 unfold judge_First.f table_Check.f
 simp only [Option.bind_some]
 cases ht : tabB R m with
 | false => exact ⟨-1, 1, rfl, fun h => absurd h (by decide)⟩
 | true =>
  rw [if_pos rfl, Tasks_is R m hl k (by omega)]
  have hl2 : (R.map (fun x => x.f0)).length ≤ 1000000 := by simpa using hl
  obtain ⟨v0, e0⟩ := modeOne_some (R.map (fun x => x.f0)) 0 hl2 k hk
  obtain ⟨v1, e1⟩ := modeOne_some (R.map (fun x => x.f0)) 1 hl2 k hk
  obtain ⟨v2, e2⟩ := modeOne_some (R.map (fun x => x.f0)) 2 hl2 k hk
  obtain ⟨v3, e3⟩ := modeOne_some (R.map (fun x => x.f0)) 3 hl2 k hk
  simp only [Option.bind_some]
  unfold qpa_Modes.f
  rw [e0, e1, e2, e3]
  simp only [Option.bind_some]
  refine ⟨_, _, rfl, fun h => ⟨trivial, fun q q0 q1 => ?_⟩⟩
  have hz := firstM_zero h
  rw [← filter_mode R q0 q1]
  refine modeOne_zero ?_
  have : q = 0 ∨ q = 1 ∨ q = 2 ∨ q = 3 := by omega
  rcases this with rfl | rfl | rfl | rfl
  ·rw [e0, hz v0 (by simp)]
  ·rw [e1, hz v1 (by simp)]
  ·rw [e2, hz v2 (by simp)]
  ·rw [e3, hz v3 (by simp)]
theorem tabB_len {R : List S60} {m : Int} (h : tabB R m = true) : R.length ≤ 16 := by
 unfold tabB at h
 simp only [Bool.and_eq_true, decide_eq_true_eq] at h
 exact h.2.1
theorem Apply_some {R : List S60} {m : Int} (h : tabB R m = true) (a0 a1 a2 a3 a4 a5 : Int) (a6 : Bool) (a7 a8 a9 : Int) : ∃ R' m' e, table_Apply.f R m a0 a1 a2 a3 a4 a5 a6 a7 a8 a9 = some (R', m', e) ∧ R'.length ≤ 17 := by
 have hl := tabB_len h
 unfold table_Apply.f table_Check.f ops_Check.f
 simp only [Option.bind_some]
 rw [h, if_pos rfl]
 split
 ·unfold applyB table_admits.f slices_Clone_api_Row.f
  have hb := bsAt_le R a7
  have hb1 := bsAt_le R a1
  split
  ·rw [if_pos (by omega)]
   split
   ·exact ⟨_, _, _, rfl, by simp⟩
   ·split
    ·exact ⟨_, _, _, rfl, by simp⟩
    ·refine ⟨_, _, _, rfl, ?_⟩
     unfold insR
     simp only [List.length_append, List.length_take, List.length_drop, List.length_cons, List.length_nil]
     omega
  ·split
   ·rw [if_pos (by omega)]
    exact ⟨_, _, _, rfl, by omega⟩
   ·split
    ·split
     ·refine ⟨_, _, _, rfl, ?_⟩
      simp only [List.length_append, List.length_take, List.length_drop, List.length_nil]
      omega
     ·split
      ·exact ⟨_, _, _, rfl, by simp⟩
      ·refine ⟨_, _, _, rfl, ?_⟩
       simp only [List.length_append, List.length_take, List.length_drop, List.length_cons, List.length_nil]
       omega
    ·exact ⟨_, _, _, rfl, by simp⟩
 ·exact ⟨_, _, _, rfl, by simp⟩
theorem inL_len (m : Int) (R : List S60) : (inL m R).length ≤ R.length := by
 unfold inL
 have := List.length_filter_le (fun x => !inOut m x) (R.map (fun x => x.f0))
 simpa using this
theorem With_some (R : List S60) (m : Int) (hl : R.length ≤ 1000) (E : List S31) (hE : E.length ≤ 1000) (k : Nat) (hk : 2151000000 < k) : ∃ e, judge_With.f k R m E = some e ∧ (e = 0 → tabB R m = true ∧ fourT k R) := by
 obtain ⟨a, e, h1, h2⟩ := First_some R m (by omega) k hk
 unfold judge_With.f judge_Fits.f
 rw [h1]
 simp only [Option.bind_some]
 by_cases h0 : e = 0
 ·rw [if_pos h0, In_is R m m (by omega) k (by omega)]
  simp only [Option.bind_some]
  have hil := inL_len m R
  obtain ⟨v, hv⟩ : ∃ v, judge_all.f k (inL m R) E = some v := by
   unfold judge_all.f
   rw [if_pos (by omega)]
   split
   ·exact ⟨_, rfl⟩
   ·obtain ⟨v, hv, _⟩ := Test_same (inL m R ++ E) (by rw [List.length_append]; omega) k hk
    exact ⟨v, hv⟩
  rw [hv]
  exact ⟨v, rfl, fun _ => h2 h0⟩
 ·rw [if_neg h0]
  exact ⟨e, rfl, fun h => absurd h h0⟩
/-- An op that may be leads to a set that fits. -/
theorem May_some {R : List S60} {m : Int} (h : tabB R m = true) (a0 a1 a2 a3 a4 a5 : Int) (a6 : Bool) (a7 a8 a9 : Int) (E : List S31) (hE : E.length ≤ 1000) (k : Nat) (hk : 2151000000 < k) :
  ∃ R' m' e, judge_May.f k R m a0 a1 a2 a3 a4 a5 a6 a7 a8 a9 E = some (R', m', e) ∧ (e = 0 → tabB R' m' = true ∧ fourT k R') ∧ (e ≠ 0 → R' = [] ∧ m' = 0) := by
 obtain ⟨R1, m1, e1, h1, h2⟩ := Apply_some h a0 a1 a2 a3 a4 a5 a6 a7 a8 a9
 unfold judge_May.f
 rw [h1]
 simp only [Option.bind_some]
 obtain ⟨k, rfl⟩ := some_k (show 0 < k by omega)
 by_cases h0 : e1 = 0
 ·rw [if_pos h0]
  obtain ⟨e, h3, h4⟩ := With_some R1 m1 (by omega) E hE (k + 1) hk
  rw [h3]
  simp only [Option.bind_some, judge_May.j0]
  by_cases h5 : e = 0
  ·rw [if_pos h5]
   exact ⟨_, _, _, rfl, fun _ => h4 h5, fun h => absurd rfl h⟩
  ·rw [if_neg h5]
   exact ⟨_, _, _, rfl, fun h => absurd h h5, fun _ => ⟨rfl, rfl⟩⟩
 ·rw [if_neg h0]
  simp only [judge_May.j0]
  rw [if_neg h0]
  exact ⟨_, _, _, rfl, fun h => absurd h h0, fun _ => ⟨rfl, rfl⟩⟩
/-- What fits once fits with as many rounds as there are. -/
theorem rTest_at {l : List S31} {k0 : Nat} (h : qpa_Test.f k0 l = some 0) (hl : l.length ≤ 1000000) (k : Nat) (hk : 2151000000 < k) : r12_Test.f k l = some 0 := by
 obtain ⟨e, h1, h2, _⟩ := Test_same l hl k hk
 have a1 := at_rounds (qpa_Test.mono l) (Nat.le_max_left k k0) h1
 have a2 := at_rounds (qpa_Test.mono l) (Nat.le_max_right k k0) h
 rw [a1] at a2
 rw [h2, Option.some.inj a2]
theorem task_some (a0 a1 a2 a3 a4 a5 : Int) (a6 : Bool) : ∃ r, w15_Num_task.f a0 a1 a2 a3 a4 a5 a6 = some r := by
 unfold w15_Num_task.f
 rw [and_7, if_pos (by omega), if_pos (by omega)]
 have hT := per_rng (a4 % 8) (by omega) (by omega)
 generalize rd [2, 3, 4, 5, 6, 8, 10, 12] (a4 % 8) = T at hT ⊢
 rw [if_neg (by omega)]
 split
 ·exact ⟨_, rfl⟩
 ·have hD := mod_rng a3 (m := T) (by omega) (by omega)
  rw [if_neg (by omega)]
  exact ⟨_, rfl⟩
theorem op_some (a0 a1 a2 a3 a4 a5 : Int) (a6 : Bool) : ∃ r, w15_Num_op.f a0 a1 a2 a3 a4 a5 a6 = some r := by
 obtain ⟨r, h⟩ := task_some a0 a1 a2 a3 a4 a5 a6
 unfold w15_Num_op.f
 rw [h]
 simp only [Option.bind_some]
 split
 ·exact ⟨_, rfl⟩
 ·split
  ·exact ⟨_, rfl⟩
  ·split <;> exact ⟨_, rfl⟩

theorem awake_is : ∀ k, 60 ≤ k → w15_awake.f k = some true := by
 have h : w15_awake.f 60 = some true := by decide +kernel
 intro k hk
 exact at_rounds (w15_awake.mono) hk h

/-- The set may be, and all its modes fit. -/
def Inv (R : List S60) (m : Int) : Prop := tabB R m = true ∧ ∀ q : Int, 0 ≤ q → q < 4 → ∃ k, qpa_Test.f k (inL q R) = some 0
theorem modes_go (l : List S52) {R : List S60} {m : Int} (hi : Inv R m) (i : Int) : ∀ (d k : Nat) (q : Nat), q + d = 4 → d + 2151000010 < k → ∃ k', k ≤ k' + (d + 1) ∧ (w15_JudgeFits.l0 k' l true (wrap64 (i + 1)) R m = some true → w15_JudgeFits.l1 k l true i (q : Int) R m = some true) := by
 have hlen := tabB_len hi.1
 intro d
 induction d with
 | zero =>
  intro k q hq hk
  obtain ⟨k, rfl⟩ := some_k (show 0 < k by omega)
  refine ⟨k, by omega, fun h => ?_⟩
  simp only [w15_JudgeFits.l1]
  rw [if_neg (by omega)]
  unfold r14_Check.f
  simp only [Option.bind_some]
  rw [hi.1, if_pos rfl]
  exact h
 | succ d ih =>
  intro k q hq hk
  obtain ⟨k, rfl⟩ := some_k (show 0 < k by omega)
  obtain ⟨k', h1, h2⟩ := ih k (q + 1) (by omega) (by omega)
  refine ⟨k', by omega, fun h => ?_⟩
  simp only [w15_JudgeFits.l1]
  obtain ⟨k0, h0⟩ := hi.2 (q : Int) (by omega) (by omega)
  have hil := inL_len (q : Int) R
  rw [if_pos (by omega), rIn_is R m (q : Int) (by omega) k (by omega)]
  simp only [Option.bind_some]
  rw [rTest_at h0 (by omega) k (by omega)]
  simp only [Option.bind_some, if_true]
  rw [w64 (n := (q : Int) + 1) (by omega) (by omega), show ((q : Int) + 1) = ((q + 1 : Nat) : Int) by omega]
  exact h2 h
theorem ops_go (l : List S52) (d : Nat) : ∀ (k i : Nat) (R : List S60) (m : Int), i + d = min l.length 24 → 20 * d + 2151000100 < k → Inv R m → w15_JudgeFits.l0 k l true (i : Int) R m = some true := by
 induction d with
 | zero =>
  intro k i R m hd hk hi
  obtain ⟨k, rfl⟩ := some_k (show 0 < k by omega)
  obtain ⟨k, rfl⟩ := some_k (show 0 < k by omega)
  simp only [w15_JudgeFits.l0]
  by_cases h : (i : Int) < (l.length : Int)
  ·rw [if_pos h, decide_eq_false (show ¬ (i : Int) < 24 by omega)]
   simp only [w15_JudgeFits.j1, Bool.false_eq_true, if_false]
  ·rw [if_neg h]
   simp only [w15_JudgeFits.j1, Bool.false_eq_true, if_false]
 | succ d ih =>
  intro k i R m hd hk hi
  obtain ⟨k, rfl⟩ := some_k (show 0 < k by omega)
  obtain ⟨k, rfl⟩ := some_k (show 0 < k by omega)
  simp only [w15_JudgeFits.l0]
  rw [if_pos (by omega), decide_eq_true (show (i : Int) < 24 by omega)]
  simp only [w15_JudgeFits.j1, if_true]
  rw [if_pos (by omega), if_pos (by omega)]
  obtain ⟨o, ho⟩ := op_some (rd_T52 l (i : Int)).f0 (rd_T52 l (i : Int)).f1 (rd_T52 l (i : Int)).f2 (rd_T52 l (i : Int)).f3 (rd_T52 l (i : Int)).f4 (rd_T52 l (i : Int)).f5 (rd_T52 l (i : Int)).f6
  rw [ho]
  simp only [Option.bind_some]
  obtain ⟨R', m', e, h1, h2, h3⟩ := May_some hi.1 o.1 o.2.1 o.2.2.1 o.2.2.2.1 o.2.2.2.2.1 o.2.2.2.2.2.1 o.2.2.2.2.2.2.1 o.2.2.2.2.2.2.2.1 o.2.2.2.2.2.2.2.2.1 o.2.2.2.2.2.2.2.2.2 [] (by simp) k (by omega)
  rw [h1]
  simp only [Option.bind_some]
  have go : ∀ (k : Nat) (S' : List S60) (n : Int), 20 * d + 2151000110 < k → Inv S' n → w15_JudgeFits.j2 k l true (i : Int) S' n = some true := by
   intro k S' n hk' hi'
   obtain ⟨k, rfl⟩ := some_k (show 0 < k by omega)
   simp only [w15_JudgeFits.j2]
   obtain ⟨k', g1, g2⟩ := modes_go l hi' (i : Int) 4 k 0 (by omega) (by omega)
   refine g2 ?_
   rw [w64 (n := (i : Int) + 1) (by omega) (by omega), show ((i : Int) + 1) = ((i + 1 : Nat) : Int) by omega]
   exact ih k' (i + 1) S' n (by omega) (by omega) hi'
  by_cases h0 : e = 0
  ·rw [if_pos h0]
   obtain ⟨t1, t2⟩ := h2 h0
   exact go k R' m' (by omega) ⟨t1, fun q q0 q1 => ⟨k, t2 q q0 q1⟩⟩
  ·rw [if_neg h0]
   obtain ⟨rfl, rfl⟩ := h3 h0
   rw [if_pos (by simp), if_pos rfl]
   exact go k R m (by omega) hi
theorem JudgeFits : w15_JudgeFits.Pure := by
 intro l _ _
 obtain ⟨K, hK⟩ : ∃ K : Nat, 2151001000 ≤ K := ⟨2151001000, Nat.le_refl _⟩
 refine ⟨K, ?_⟩
 unfold w15_JudgeFits.f
 rw [awake_is K (by omega)]
 simp only [Option.bind_some]
 refine ops_go l (min l.length 24) K 0 [] 0 (by omega) (by omega) ⟨by decide, fun q _ _ => ⟨K, ?_⟩⟩
 obtain ⟨e, h1, h2, _⟩ := Test_same (inL q []) (by simp [inL]) K (by omega)
 have : qpa_Test.f K [] = some 0 := by
  refine Test_yes ⟨by simp, fun s hs => by simp at hs⟩ ?_ K (by omega) ⟨?_, fun y hy => by simpa [Hm.of] using hy⟩
  ·simp [Hm.per, Hm.perFrom]
  ·simp [Hm.loadN]
 simpa [inL] using this
end Go.Proofs.Ythkagoomlmgcdaa.Pure
