/- ParamGcd, the plain part: the greatest common part divides both, and what is left has none in common. -/
import Derived.Test.YtaifojmlbbaabaaPParamGcdx2
import Derived.Test.YtaifojmlbbaabaaMDem

namespace Go.Proofs.Ytaifojmlbbaabaa.Pure
open Go.RowKit Go.Proofs.Ytaifojmlbbaabaa.PParamGcd Go.Proofs.YtaifojmlbbaabaaW.PrintWords Go.Proofs.YtaifojmlbbaabaaW.PrintLast Go.Proofs.YtaifojmlbbaabaaW.PrintMore
set_option linter.unusedVariables false
set_option linter.unusedSimpArgs false

def tk (s : S28) : Hm.Tk := ⟨s.f0, s.f1, s.f2, s.f3, s.f4⟩
theorem taskB_ok (s : S28) : taskB s = true ↔ (tk s).ok := by
  unfold taskB Hm.Tk.ok tk
  simp only [Bool.and_eq_true, decide_eq_true_eq]
/-- Tasks may be. -/
def okL (l : List S28) : Prop := l.length ≤ 16 ∧ ∀ s ∈ l, (tk s).ok
theorem row_yes {l : List S28} (h : okL l) : param_Row.f l = some true := by
  unfold param_Row.f
  have h1 : l.all taskB = true := by rw [List.all_eq_true]; intro s hs; exact (taskB_ok s).2 (h.2 s hs)
  rw [h1]; simp [h.1]
theorem row_no {l : List S28} (h : ¬ okL l) : param_Row.f l = some false := by
  unfold param_Row.f
  by_cases h1 : l.length ≤ 16
  · have h2 : l.all taskB = false := by
      rw [Bool.eq_false_iff]; intro h3; rw [List.all_eq_true] at h3
      exact h ⟨h1, fun s hs => (taskB_ok s).1 (h3 s hs)⟩
    rw [h2]; simp
  · simp [h1]
theorem okL_map {l : List S28} (h : okL l) : ∀ t ∈ l.map tk, t.ok := by
  intro t ht; obtain ⟨s, hs, rfl⟩ := List.mem_map.1 ht; exact h.2 s hs
theorem rd_mid (pre : List S28) (s : S28) (suf : List S28) : rd_T28 (pre ++ s :: suf) (pre.length : Int) = s := by
  simp [rd_T28]
theorem w64 {n : Int} (h1 : -9223372036854775808 ≤ n) (h2 : n ≤ 9223372036854775807) : wrap64 n = n := by unfold wrap64; omega
theorem some_k {k : Nat} (h : 0 < k) : ∃ m, k = m + 1 := ⟨k - 1, by omega⟩
theorem tmod_rng (a : Int) {m : Int} (h : 0 < m) : -m < Int.tmod a m ∧ Int.tmod a m < m := by
  rcases Int.le_total 0 a with ha | ha
  · have h2 := Int.tmod_lt_of_pos a h; have h3 := Int.tmod_nonneg m ha; omega
  · have h2 := Int.tmod_lt_of_pos (-a) h; have h3 := Int.tmod_nonneg m (show 0 ≤ -a by omega)
    rw [Int.neg_tmod] at h2 h3; omega
theorem tmod_pos {a m : Int} (h : 0 < m) (ha : 0 ≤ a) : 0 ≤ Int.tmod a m ∧ Int.tmod a m < m := ⟨Int.tmod_nonneg m ha, Int.tmod_lt_of_pos a h⟩

theorem gcd_loop (k : Nat) : ∀ a b : Int, -9223372036854775807 ≤ a → a ≤ 9223372036854775807 → -9223372036854775807 ≤ b → b ≤ 9223372036854775807 → b.natAbs < k → param_Gcd.l0 k a b = some ((Int.gcd a b : Nat) : Int) := by
  induction k with
  | zero => intro a b _ _ _ _ h; omega
  | succ k ih =>
    intro a b ha1 ha2 hb1 hb2 hk
    simp only [param_Gcd.l0]
    by_cases h : b = 0
    · subst h
      rw [if_pos rfl, Int.gcd_zero_right, w64 (by omega) (by omega)]
      unfold mx
      congr 1
      split <;> omega
    · rw [if_neg h]
      have e : (Int.tmod a b).natAbs = a.natAbs % b.natAbs := Int.natAbs_tmod a b
      have hl : a.natAbs % b.natAbs < b.natAbs := Nat.mod_lt _ (by omega)
      rw [ih b (Int.tmod a b) hb1 hb2 (by omega) (by omega) (by omega)]
      congr 2
      rw [Int.gcd_eq_natAbs_gcd_natAbs, Int.gcd_eq_natAbs_gcd_natAbs, e, Nat.gcd_comm a.natAbs b.natAbs, Nat.gcd_rec b.natAbs a.natAbs, Nat.gcd_comm]
theorem Gcd_is (k : Nat) {a b : Int} (ha1 : -9223372036854775807 ≤ a) (ha2 : a ≤ 9223372036854775807) (hb1 : -9223372036854775807 ≤ b) (hb2 : b ≤ 9223372036854775807) (hk : b.natAbs < k) : param_Gcd.f k a b = some ((Int.gcd a b : Nat) : Int) :=
  gcd_loop k a b ha1 ha2 hb1 hb2 hk

theorem awake_is : ∀ k, 40 ≤ k → horariumlaw09_awake.f k = some true := by
  have h : horariumlaw09_awake.f 40 = some true := by decide +kernel
  intro k hk
  exact at_rounds (horariumlaw09_awake.mono) hk h

theorem gcd_end (k : Nat) (hk : 4611686018427387910 ≤ k) {x y : Int} (hx1 : -4611686018427387904 ≤ x) (hx2 : x ≤ 4611686018427387904) (hy1 : -4611686018427387904 ≤ y) (hy2 : y ≤ 4611686018427387904) (hne : ¬ (x = 0 ∧ y = 0)) :
    horariumlaw09_ParamGcd.j0 k true x y ((Int.gcd x y : Nat) : Int) false = some true := by
  obtain ⟨k, rfl⟩ := some_k (show 0 < k by omega)
  have hgp : 0 < Int.gcd x y := Int.gcd_pos_iff.2 (by omega)
  have hdx : ((Int.gcd x y : Nat) : Int) ∣ x := Int.gcd_dvd_left ..
  have hdy : ((Int.gcd x y : Nat) : Int) ∣ y := Int.gcd_dvd_right ..
  have mx0 : Int.tmod x ((Int.gcd x y : Nat) : Int) = 0 := Int.tmod_eq_zero_of_dvd hdx
  have my0 : Int.tmod y ((Int.gcd x y : Nat) : Int) = 0 := Int.tmod_eq_zero_of_dvd hdy
  have qx : Int.tdiv x ((Int.gcd x y : Nat) : Int) = x / ((Int.gcd x y : Nat) : Int) := Int.tdiv_eq_ediv_of_dvd hdx
  have qy : Int.tdiv y ((Int.gcd x y : Nat) : Int) = y / ((Int.gcd x y : Nat) : Int) := Int.tdiv_eq_ediv_of_dvd hdy
  have co : Int.gcd (x / ((Int.gcd x y : Nat) : Int)) (y / ((Int.gcd x y : Nat) : Int)) = 1 := Int.gcd_ediv_gcd_ediv_gcd hgp
  have sw : Int.gcd y x = Int.gcd x y := Int.gcd_comm y x
  have ng : Int.gcd (-x) y = Int.gcd x y := Int.neg_gcd
  have bx : -4611686018427387904 ≤ x / ((Int.gcd x y : Nat) : Int) ∧ x / ((Int.gcd x y : Nat) : Int) ≤ 4611686018427387904 := by
    have h1 := Int.natAbs_ediv_le_natAbs x ((Int.gcd x y : Nat) : Int)
    omega
  have by' : -4611686018427387904 ≤ y / ((Int.gcd x y : Nat) : Int) ∧ y / ((Int.gcd x y : Nat) : Int) ≤ 4611686018427387904 := by
    have h1 := Int.natAbs_ediv_le_natAbs y ((Int.gcd x y : Nat) : Int)
    omega
  generalize hg : ((Int.gcd x y : Nat) : Int) = g at *
  simp only [horariumlaw09_ParamGcd.j0]
  rw [if_neg (by decide), if_neg (by omega), if_neg (by omega), mx0, if_pos rfl, my0]
  obtain ⟨k, rfl⟩ := some_k (show 0 < k by omega)
  simp only [horariumlaw09_ParamGcd.j1, if_true]
  rw [if_neg (by decide), if_neg (by omega), qx, qy, w64 (n := x / g) (by omega) (by omega), w64 (n := y / g) (by omega) (by omega), Gcd_is k (by omega) (by omega) (by omega) (by omega) (by omega)]
  simp only [Option.bind_some]
  rw [co, if_pos (by rfl), Gcd_is k (by omega) (by omega) (by omega) (by omega) (by omega)]
  simp only [Option.bind_some]
  rw [sw, hg, if_pos rfl, w64 (by omega) (by omega), Gcd_is k (by omega) (by omega) (by omega) (by omega) (by omega)]
  simp only [Option.bind_some]
  rw [ng, hg]
  simp
theorem ParamGcd : horariumlaw09_ParamGcd.Pure := by
  intro a b wa wb
  have ha := bounds_i64 wa
  have hb := bounds_i64 wb
  refine ⟨4611686018427387912, ?_⟩
  generalize hK : (4611686018427387912 : Nat) = K
  unfold horariumlaw09_ParamGcd.f
  rw [awake_is K (by omega)]
  simp only [Option.bind_some]
  rw [Gcd_is K (by omega) (by omega) (by omega) (by omega) (by omega)]
  simp only [Option.bind_some]
  by_cases h : a / 2 = 0
  · rw [if_pos h]
    by_cases h2 : b / 2 = 0
    · rw [h, h2]
      obtain ⟨K, rfl⟩ := some_k (show 0 < K by omega)
      simp [horariumlaw09_ParamGcd.j0]
    · have e : ((b / 2 == 0) : Bool) = false := beq_eq_false_iff_ne.2 h2
      rw [e]
      exact gcd_end K (by omega) (by omega) (by omega) (by omega) (by omega) (by omega)
  · rw [if_neg h]
    exact gcd_end K (by omega) (by omega) (by omega) (by omega) (by omega) (by omega)
end Go.Proofs.Ytaifojmlbbaabaa.Pure
