/- ParamTells, the plain part: tasks, periods and loads are told as P9.1 and P9.2 say. -/
import Derived.Test.YtmgmpifbhjoijaaPParamTellsx7
import Derived.Test.YtmgmpifbhjoijaaMBits
import Derived.Test.YtmgmpifbhjoijaaMDem
import Derived.Test.YtmgmpifbhjoijaaMLcm

namespace Go.Proofs.Ytmgmpifbhjoijaa.Pure
open Go.RowKit Go.Proofs.Ytmgmpifbhjoijaa.PParamTells Go.Proofs.YtmgmpifbhjoijaaW.PrintWords Go.Proofs.YtmgmpifbhjoijaaW.PrintLast Go.Proofs.YtmgmpifbhjoijaaW.PrintMore
set_option linter.unusedVariables false
set_option linter.unusedSimpArgs false

theorem w64 {n : Int} (h1 : -9223372036854775808 ≤ n) (h2 : n ≤ 9223372036854775807) : wrap64 n = n := by unfold wrap64; omega
theorem some_k {k : Nat} (h : 0 < k) : ∃ m, k = m + 1 := ⟨k - 1, by omega⟩
theorem tmod_rng (a : Int) {m : Int} (h : 0 < m) : -m < Int.tmod a m ∧ Int.tmod a m < m := by
  rcases Int.le_total 0 a with ha | ha
  · have h2 := Int.tmod_lt_of_pos a h; have h3 := Int.tmod_nonneg m ha; omega
  · have h2 := Int.tmod_lt_of_pos (-a) h; have h3 := Int.tmod_nonneg m (show 0 ≤ -a by omega)
    rw [Int.neg_tmod] at h2 h3; omega
theorem tmod_pos {a m : Int} (h : 0 < m) (ha : 0 ≤ a) : 0 ≤ Int.tmod a m ∧ Int.tmod a m < m := ⟨Int.tmod_nonneg m ha, Int.tmod_lt_of_pos a h⟩
theorem u64 (n : Int) : IntKind.u64.wrap n = n % 18446744073709551616 := by simp [IntKind.wrap, IntKind.bits, IntKind.signed]
theorem u64in {n : Int} (h1 : 0 ≤ n) (h2 : n < 18446744073709551616) : IntKind.u64.wrap n = n := by rw [u64]; omega

def tk (s : S28) : Hm.Tk := ⟨s.f0, s.f1, s.f2, s.f3, s.f4⟩
theorem taskB_ok (s : S28) : taskB s = true ↔ (tk s).ok := by
  unfold taskB Hm.Tk.ok tk
  simp only [Bool.and_eq_true, decide_eq_true_eq]
/-- Tasks may be. -/
def okL (l : List S28) : Prop := l.length ≤ 16 ∧ ∀ s ∈ l, (tk s).ok
theorem row_yes {l : List S28} (h : okL l) : param_Row.f l = some true := by
  unfold param_Row.f
  have h1 : l.all taskB = true := by rw [List.all_eq_true]; intro s hs; exact (taskB_ok s).2 (h.2 s hs)
  rw [h1]; simp [h.1]
theorem row_no {l : List S28} (h : ¬ okL l) : param_Row.f l = some false := by
  unfold param_Row.f
  by_cases h1 : l.length ≤ 16
  · have h2 : l.all taskB = false := by
      rw [Bool.eq_false_iff]; intro h3; rw [List.all_eq_true] at h3
      exact h ⟨h1, fun s hs => (taskB_ok s).1 (h3 s hs)⟩
    rw [h2]; simp
  · simp [h1]
theorem okL_map {l : List S28} (h : okL l) : ∀ t ∈ l.map tk, t.ok := by
  intro t ht; obtain ⟨s, hs, rfl⟩ := List.mem_map.1 ht; exact h.2 s hs
theorem rd_mid (pre : List S28) (s : S28) (suf : List S28) : rd_T28 (pre ++ s :: suf) (pre.length : Int) = s := by
  simp [rd_T28]

theorem mask32 {a : Int} (h1 : 0 ≤ a) (h2 : a < 18446744073709551616) : Go.bits .and .u64 a 4294967295 = a % 4294967296 := by
  rw [Go.u64_and a 4294967295 h1 h2 (by omega) (by omega)]
  have : a.toNat &&& (4294967295 : Int).toNat = a.toNat % 4294967296 := Nat.and_two_pow_sub_one_eq_mod a.toNat 32
  rw [this]; omega
theorem Mul64_is {a b : Int} (ha : 0 ≤ a) (ha2 : a < 18446744073709551616) (hb : 0 ≤ b) (hb2 : b < 18446744073709551616) : bits_Mul64.f a b = some (a * b / 18446744073709551616, a * b % 18446744073709551616) := by
  unfold bits_Mul64.f
  rw [mask32 ha ha2, mask32 hb hb2]
  obtain ⟨x1, hx1⟩ : ∃ x, a / 4294967296 = x := ⟨_, rfl⟩
  obtain ⟨x0, hx0⟩ : ∃ x, a % 4294967296 = x := ⟨_, rfl⟩
  obtain ⟨y1, hy1⟩ : ∃ x, b / 4294967296 = x := ⟨_, rfl⟩
  obtain ⟨y0, hy0⟩ : ∃ x, b % 4294967296 = x := ⟨_, rfl⟩
  rw [hx1, hx0, hy1, hy0]
  have ea : a = x1 * 4294967296 + x0 := by omega
  have eb : b = y1 * 4294967296 + y0 := by omega
  have bnd : ∀ u v : Int, 0 ≤ u → u ≤ 4294967295 → 0 ≤ v → v ≤ 4294967295 → 0 ≤ u * v ∧ u * v ≤ 18446744065119617025 := fun u v h1 h2 h3 h4 => by
    refine ⟨Int.mul_nonneg h1 h3, ?_⟩
    have := Int.mul_le_mul h2 h4 h3 (show (0 : Int) ≤ 4294967295 by omega)
    omega
  have p00 := bnd x0 y0 (by omega) (by omega) (by omega) (by omega)
  have p10 := bnd x1 y0 (by omega) (by omega) (by omega) (by omega)
  have p01 := bnd x0 y1 (by omega) (by omega) (by omega) (by omega)
  have p11 := bnd x1 y1 (by omega) (by omega) (by omega) (by omega)
  have e : a * b = x1 * y1 * 18446744073709551616 + (x1 * y0 + x0 * y1) * 4294967296 + x0 * y0 := by
    rw [ea, eb]
    simp only [Int.add_mul, Int.mul_add]
    have h1 : x1 * 4294967296 * (y1 * 4294967296) = x1 * y1 * 18446744073709551616 := by rw [Int.mul_assoc x1, ← Int.mul_assoc 4294967296 y1, Int.mul_comm 4294967296 y1, Int.mul_assoc y1, ← Int.mul_assoc x1]; rfl
    have h2 : x1 * 4294967296 * y0 = x1 * y0 * 4294967296 := Int.mul_right_comm _ _ _
    have h3 : x0 * (y1 * 4294967296) = x0 * y1 * 4294967296 := (Int.mul_assoc _ _ _).symm
    rw [h1, h2, h3]; omega
  rw [u64 (a * b), e]
  generalize x0 * y0 = P at *
  generalize x1 * y0 = Q at *
  generalize x0 * y1 = R at *
  generalize x1 * y1 = T at *
  clear ea eb bnd hx0 hx1 hy0 hy1
  rw [u64in (n := P) (by omega) (by omega), u64in (n := Q) (by omega) (by omega), u64in (n := Q + P / 4294967296) (by omega) (by omega), mask32 (by omega) (by omega), u64in (n := R) (by omega) (by omega), u64in (n := T) (by omega) (by omega), u64in (n := T + (Q + P / 4294967296) / 4294967296) (by omega) (by omega), u64in (n := (Q + P / 4294967296) % 4294967296 + R) (by omega) (by omega), u64in (by omega) (by omega)]
  congr 2
  omega
theorem Mul_is {a b : Int} (ha : 0 ≤ a) (ha2 : a < 18446744073709551616) (hb : 0 ≤ b) (hb2 : b < 18446744073709551616) : wide_Mul.f a b = some (a * b / 18446744073709551616, a * b % 18446744073709551616) := by
  unfold wide_Mul.f
  rw [Mul64_is ha ha2 hb hb2]; rfl
/-- -1, 0, 1. -/
def sgn3 (a b : Int) : Int := if a < b then -1 else if b < a then 1 else 0
theorem Compare_is (a b : Int) : cmp_Compare_uint64.f a b = some (sgn3 a b) := by
  unfold cmp_Compare_uint64.f cmp_isNaN_uint64.f sgn3
  simp only [Option.bind_some, bne_self_eq_false, Bool.false_eq_true, if_false]
  split
  · rfl
  · split <;> rfl
theorem Or_is (a b : Int) (k : Nat) (hk : 3 ≤ k) : cmp_Or_int.f k [a, b] = some (if a = 0 then b else a) := by
  obtain ⟨k, rfl⟩ : ∃ m, k = m + 3 := ⟨k - 3, by omega⟩
  unfold cmp_Or_int.f
  have e0 : rd [a, b] 0 = a := rfl
  have e1 : rd [a, b] 1 = b := rfl
  have w1 : wrap64 (0 + 1) = 1 := by unfold wrap64; omega
  have w2 : wrap64 (1 + 1) = 2 := by unfold wrap64; omega
  have hl : (([a, b] : List Int).length : Int) = 2 := rfl
  simp only [cmp_Or_int.l0, e0, e1, w1, w2, hl]
  rw [if_pos (by decide), if_pos (by decide), if_pos (by decide)]
  by_cases ha : a = 0
  · rw [if_pos ha, if_pos ha, if_pos (by decide), if_pos (by decide), if_pos (by decide)]
    by_cases hb : b = 0
    · rw [if_pos hb, if_neg (by decide), hb]
    · rw [if_neg hb]
  · rw [if_neg ha, if_neg ha]
/-- The sign of a comparison of numbers of 128 bits. -/
theorem Cmp_is {h1 l1 h2 l2 : Int} (k : Nat) (b1 : 0 ≤ l1) (b2 : l1 < 18446744073709551616) (b3 : 0 ≤ l2) (b4 : l2 < 18446744073709551616) (hk : 3 ≤ k) :
    wide_Cmp.f k h1 l1 h2 l2 = some (sgn3 (h1 * 18446744073709551616 + l1) (h2 * 18446744073709551616 + l2)) := by
  unfold wide_Cmp.f
  rw [Compare_is]; simp only [Option.bind_some]
  rw [Compare_is]; simp only [Option.bind_some]
  rw [Or_is _ _ k hk]; simp only [Option.bind_some]
  congr 1
  unfold sgn3
  split <;> split <;> (first | omega | (split <;> first | omega | (split <;> first | omega | (split <;> omega))))
theorem Less_is {a b c d : Int} (k : Nat) (ha : 0 ≤ a) (ha2 : a < 18446744073709551616) (hb : 0 ≤ b) (hb2 : b < 18446744073709551616) (hc : 0 ≤ c) (hc2 : c < 18446744073709551616) (hd : 0 ≤ d) (hd2 : d < 18446744073709551616) (hk : 3 ≤ k) :
    wide_Less.f k a b c d = some (decide (b ≠ 0 ∧ d ≠ 0 ∧ a * d < c * b)) := by
  unfold wide_Less.f
  by_cases h0 : b = 0
  · rw [if_pos h0]; simp [h0]
  · rw [if_neg h0]
    by_cases h1 : d = 0
    · rw [if_pos h1]; simp [h1]
    · rw [if_neg h1, Mul_is ha ha2 hd hd2]
      simp only [Option.bind_some]
      rw [Mul_is hc hc2 hb hb2]
      simp only [Option.bind_some]
      have n1 := Int.mul_nonneg ha hd
      have n2 := Int.mul_nonneg hc hb
      generalize a * d = p at *
      generalize c * b = q at *
      rw [Cmp_is k (by omega) (by omega) (by omega) (by omega) hk]
      simp only [Option.bind_some]
      congr 1
      rw [show p / 18446744073709551616 * 18446744073709551616 + p % 18446744073709551616 = p from by omega, show q / 18446744073709551616 * 18446744073709551616 + q % 18446744073709551616 = q from by omega]
      unfold sgn3
      rw [Bool.eq_iff_iff]
      simp only [decide_eq_true_eq]
      split
      · exact ⟨fun _ => ⟨h0, h1, by assumption⟩, fun _ => by omega⟩
      · constructor
        · intro h; split at h <;> omega
        · intro h; omega

theorem gcd_loop (k : Nat) : ∀ a b : Int, -9223372036854775807 ≤ a → a ≤ 9223372036854775807 → -9223372036854775807 ≤ b → b ≤ 9223372036854775807 → b.natAbs < k → param_Gcd.l0 k a b = some ((Int.gcd a b : Nat) : Int) := by
  induction k with
  | zero => intro a b _ _ _ _ h; omega
  | succ k ih =>
    intro a b ha1 ha2 hb1 hb2 hk
    simp only [param_Gcd.l0]
    by_cases h : b = 0
    · subst h
      rw [if_pos rfl, Int.gcd_zero_right, w64 (by omega) (by omega)]
      unfold mx
      congr 1
      split <;> omega
    · rw [if_neg h]
      have e : (Int.tmod a b).natAbs = a.natAbs % b.natAbs := Int.natAbs_tmod a b
      have hl : a.natAbs % b.natAbs < b.natAbs := Nat.mod_lt _ (by omega)
      rw [ih b (Int.tmod a b) hb1 hb2 (by omega) (by omega) (by omega)]
      congr 2
      rw [Int.gcd_eq_natAbs_gcd_natAbs, Int.gcd_eq_natAbs_gcd_natAbs, e, Nat.gcd_comm a.natAbs b.natAbs, Nat.gcd_rec b.natAbs a.natAbs, Nat.gcd_comm]
theorem Gcd_is (k : Nat) {a b : Int} (ha1 : -9223372036854775807 ≤ a) (ha2 : a ≤ 9223372036854775807) (hb1 : -9223372036854775807 ≤ b) (hb2 : b ≤ 9223372036854775807) (hk : b.natAbs < k) : param_Gcd.f k a b = some ((Int.gcd a b : Nat) : Int) :=
  gcd_loop k a b ha1 ha2 hb1 hb2 hk

theorem per_go (k : Nat) (hk : 2147483648 < k) (l : List S28) : ∀ (m : Nat), 0 < m → m ≤ 1048576 → (∀ s ∈ l, (tk s).ok) →
    period.go k l (m : Int) = some (if Hm.perFrom m (l.map fun s => s.f3.toNat) ≤ 1048576 then ((Hm.perFrom m (l.map fun s => s.f3.toNat) : Nat) : Int) else 0, if Hm.perFrom m (l.map fun s => s.f3.toNat) ≤ 1048576 then 0 else 16) := by
  induction l with
  | nil => intro m h0 h1 _; simp [period.go, Hm.perFrom, h1]
  | cons s l ih =>
    intro m h0 h1 hok
    obtain ⟨_, _, h2, h3, h4, h5, _, _⟩ := hok s (by simp)
    simp only [tk] at h2 h3 h4 h5
    obtain ⟨t, ht⟩ : ∃ t : Nat, s.f3 = (t : Int) := ⟨s.f3.toNat, by omega⟩
    unfold period.go
    rw [ht, Gcd_is k (by omega) (by omega) (by omega) (by omega) (by omega)]
    simp only [Option.bind_some]
    have hg : Int.gcd (m : Int) (t : Int) = Nat.gcd m t := by simp [Int.gcd_eq_natAbs_gcd_natAbs]
    rw [hg]
    have hgp : 0 < Nat.gcd m t := Nat.gcd_pos_of_pos_left t h0
    rw [if_neg (by omega)]
    have e1 : Int.tdiv (t : Int) ((Nat.gcd m t : Nat) : Int) = ((t / Nat.gcd m t : Nat) : Int) := by rw [Int.tdiv_eq_ediv_of_nonneg (by omega)]; exact (Int.natCast_ediv t (Nat.gcd m t)).symm
    have hq : t / Nat.gcd m t ≤ t := Nat.div_le_self _ _
    rw [e1, w64 (n := ((t / Nat.gcd m t : Nat) : Int)) (by have := Int.natCast_nonneg (t / Nat.gcd m t); omega) (by have : ((t / Nat.gcd m t : Nat) : Int) ≤ (t : Int) := Int.ofNat_le.2 hq; omega)]
    have e2 : (m : Int) * ((t / Nat.gcd m t : Nat) : Int) = ((Nat.lcm m t : Nat) : Int) := by rw [← Hm.mul_quo_gcd (m := m) (t := t) (by omega)]; simp
    have hlcm : Nat.lcm m t ≤ 1048576 * 2147483648 := by
      rw [← Hm.mul_quo_gcd (m := m) (t := t) (by omega)]
      exact Nat.mul_le_mul h1 (by omega)
    rw [e2, w64 (by omega) (by omega)]
    have e3 : (s :: l).map (fun s => s.f3.toNat) = t :: l.map (fun s => s.f3.toNat) := by simp [ht]
    rw [e3]
    rw [show Hm.perFrom m (t :: l.map fun s => s.f3.toNat) = Hm.perFrom (Nat.lcm m t) (l.map fun s => s.f3.toNat) from rfl]
    have hlp : 0 < Nat.lcm m t := Nat.lcm_pos h0 (by omega)
    by_cases hle : Nat.lcm m t ≤ 1048576
    · rw [if_pos (by omega)]
      exact ih (Nat.lcm m t) hlp hle (fun x hx => hok x (by simp [hx]))
    · have hbig : ¬ Hm.perFrom (Nat.lcm m t) (l.map fun s => s.f3.toNat) ≤ 1048576 := by
        have hpos : 0 < Hm.perFrom (Nat.lcm m t) (l.map fun s => s.f3.toNat) := Hm.perFrom_pos hlp (fun x hx => by
          obtain ⟨y, hy, rfl⟩ := List.mem_map.1 hx
          obtain ⟨_, _, g2, g3, g4, _⟩ := hok y (by simp [hy])
          simp only [tk] at g2 g3 g4
          omega)
        have := Nat.le_of_dvd hpos (Hm.perFrom_start (Nat.lcm m t) (l.map fun s => s.f3.toNat))
        omega
      rw [if_neg (by omega), if_neg hbig, if_neg hbig]
theorem per_map (l : List S28) : Hm.per (l.map tk) = Hm.perFrom 1 (l.map fun s => s.f3.toNat) := by
  unfold Hm.per; rw [List.map_map]; rfl
theorem Period_ok {l : List S28} (k : Nat) (h : okL l) (hk : 2147483648 < k) (hp : Hm.per (l.map tk) ≤ 1048576) : param_Period.f k l = some ((Hm.per (l.map tk) : Int), 0) := by
  unfold param_Period.f
  rw [row_yes h]; simp only [Option.bind_some, if_true]
  have e := per_go k hk l 1 (by omega) (by omega) h.2
  rw [← per_map] at e
  rw [if_pos hp, if_pos hp] at e
  exact e
theorem Period_over {l : List S28} (k : Nat) (h : okL l) (hk : 2147483648 < k) (hp : ¬ Hm.per (l.map tk) ≤ 1048576) : param_Period.f k l = some (0, 16) := by
  unfold param_Period.f
  rw [row_yes h]; simp only [Option.bind_some, if_true]
  have e := per_go k hk l 1 (by omega) (by omega) h.2
  rw [← per_map] at e
  rw [if_neg hp, if_neg hp] at e
  exact e
theorem Period_arg {l : List S28} (k : Nat) (h : ¬ okL l) : param_Period.f k l = some (0, 1) := by
  unfold param_Period.f
  rw [row_no h]; rfl

theorem load_loop {p : Int} (h0 : 0 < p) (h1 : p ≤ 1048576) (suf : List S28) : ∀ (pre : List S28) (k : Nat) (acc : Int), okL (pre ++ suf) → suf.length < k → 0 ≤ acc → acc ≤ (pre.length : Int) * 1048576 →
    param_Load.l0 k p acc (pre ++ suf) ((pre ++ suf).length : Int) (pre.length : Int) = some (acc + Hm.loadN (suf.map tk) p, p, 0) := by
  induction suf with
  | nil =>
    intro pre k acc _ hk _ _
    obtain ⟨k, rfl⟩ := some_k hk
    simp only [param_Load.l0, List.append_nil, List.map_nil, Hm.loadN]
    rw [if_neg (by omega)]; simp
  | cons s suf ih =>
    intro pre k acc hok hk ha hb
    obtain ⟨k, rfl⟩ := some_k (show 0 < k by omega)
    have hs : (tk s).ok := hok.2 s (by simp)
    have hw := Hm.load_le hs (p := p) (by omega)
    have hlen := hok.1
    simp only [List.length_append, List.length_cons] at hlen hk
    have hc : (tk s).c = s.f1 := rfl
    have ht : (tk s).t = s.f3 := rfl
    rw [hc, ht] at hw
    obtain ⟨_, _, h2, h3, h4, h5, _, _⟩ := hs
    simp only [tk] at h2 h3 h4 h5
    have i1 : ((pre ++ s :: suf).length : Int) = (pre.length : Int) + ((suf.length : Int) + 1) := by simp
    have i2 := ih (pre ++ [s]) k (acc + s.f1 * (p / s.f3)) (by simpa using hok) (by omega) (by omega) (by simp only [List.length_append, List.length_singleton]; omega)
    simp only [List.append_assoc, List.cons_append, List.nil_append] at i2
    have i3 : ((pre ++ [s]).length : Int) = (pre.length : Int) + 1 := by simp
    rw [i3] at i2
    have hq := Int.ediv_nonneg (show 0 ≤ p by omega) (show 0 ≤ s.f3 by omega)
    have hq2 := Int.ediv_le_self s.f3 (show 0 ≤ p by omega)
    simp only [param_Load.l0]
    rw [if_pos (by omega), if_pos (by omega), if_pos (by omega), rd_mid, if_neg (by omega), Int.tdiv_eq_ediv_of_nonneg (by omega), w64 (n := p / s.f3) (by omega) (by omega)]
    rw [w64 (n := s.f1 * (p / s.f3)) (by omega) (by omega), w64 (n := acc + s.f1 * (p / s.f3)) (by omega) (by omega), w64 (n := (pre.length : Int) + 1) (by omega) (by omega), i2]
    simp only [List.map_cons, Hm.loadN, hc, ht]
    congr 2; omega
theorem Load_ok {l : List S28} (k : Nat) (h : okL l) (hk : 2147483648 < k) (hp : Hm.per (l.map tk) ≤ 1048576) : param_Load.f k l = some (Hm.loadN (l.map tk) (Hm.per (l.map tk) : Int), (Hm.per (l.map tk) : Int), 0) := by
  unfold param_Load.f
  rw [Period_ok k h hk hp]; simp only [Option.bind_some]
  have hpos := Hm.per_pos (okL_map h)
  have hl := h.1
  have := load_loop (p := (Hm.per (l.map tk) : Int)) (by omega) (by omega) l [] k 0 (by simpa using h) (by omega) (by omega) (by simp)
  simpa using this
theorem Load_over {l : List S28} (k : Nat) (h : okL l) (hk : 2147483648 < k) (hp : ¬ Hm.per (l.map tk) ≤ 1048576) : param_Load.f k l = some (0, 0, 16) := by
  unfold param_Load.f
  rw [Period_over k h hk hp]; rfl
theorem Load_arg {l : List S28} (k : Nat) (h : ¬ okL l) : param_Load.f k l = some (0, 0, 1) := by
  unfold param_Load.f
  rw [Period_arg k h]; rfl

theorem rcheck_is (s : S28) : horariumref09_Check.f s.f0 s.f1 s.f2 s.f3 s.f4 = some (taskB s) := by
  have e : taskB s = true ↔ (tk s).ok := taskB_ok s
  unfold Hm.Tk.ok tk at e
  simp only at e
  unfold horariumref09_Check.f
  by_cases h : taskB s = true
  · obtain ⟨h1, h2, h3, h4, h5, h6, h7, h8⟩ := e.1 h
    rw [h, if_pos (by omega), if_pos (by omega), if_pos (by omega), if_pos (by omega), if_pos (by omega), if_pos (by omega), if_pos (by omega), decide_eq_true h8]
  · have hf : taskB s = false := Bool.eq_false_iff.2 h
    rw [hf]
    repeat' split
    all_goals first | rfl | skip
    all_goals (congr 1; rw [decide_eq_false_iff_not]; intro h8; exact h (e.2 ⟨by omega, by omega, by omega, by omega, by omega, by omega, by omega, h8⟩))

theorem rrow_loop (suf : List S28) : ∀ (pre : List S28) (k : Nat), (∀ s ∈ suf, (tk s).ok) → ((pre ++ suf).length : Int) ≤ 16 → suf.length < k → horariumref09_Row.l0 k (pre ++ suf) (pre.length : Int) = some true := by
  induction suf with
  | nil =>
    intro pre k _ hlen hk
    obtain ⟨k, rfl⟩ := some_k hk
    simp only [horariumref09_Row.l0, List.append_nil] at hlen ⊢
    rw [if_neg (by omega), decide_eq_true hlen]
  | cons s suf ih =>
    intro pre k hok hlen hk
    obtain ⟨k, rfl⟩ := some_k (show 0 < k by omega)
    have i1 : ((pre ++ s :: suf).length : Int) = (pre.length : Int) + ((suf.length : Int) + 1) := by simp
    have i2 := ih (pre ++ [s]) k (fun x hx => hok x (by simp [hx])) (by simpa using hlen) (by simp at hk; omega)
    simp only [List.append_assoc, List.cons_append, List.nil_append] at i2
    rw [show ((pre ++ [s]).length : Int) = (pre.length : Int) + 1 from by simp] at i2
    simp only [horariumref09_Row.l0]
    rw [if_pos (by omega), if_pos (by omega), rd_mid, rcheck_is, (taskB_ok s).2 (hok s (by simp))]
    simp only [Option.bind_some, if_true]
    rw [w64 (by omega) (by omega)]
    exact i2
theorem rrow_yes {l : List S28} (k : Nat) (h : okL l) (hk : 16 < k) : horariumref09_Row.f k l = some true := by
  have hl := h.1
  have := rrow_loop l [] k h.2 (by simp; omega) (by omega)
  exact this
theorem rgcd_is : ∀ (k : Nat) (a b : Int), 0 ≤ a → 0 ≤ b → b ≤ 9223372036854775807 → a ≤ 9223372036854775807 → b.toNat < k → horariumref09_Gcd.f k a b = some ((Int.gcd a b : Nat) : Int) := by
  intro k
  induction k with
  | zero => intro a b _ _ _ _ h; omega
  | succ k ih =>
    intro a b ha hb hb2 ha2 hk
    unfold horariumref09_Gcd.f
    rw [if_neg (by omega), if_neg (by omega)]
    by_cases h : b = 0
    · subst h; rw [if_pos rfl, Int.gcd_zero_right]; congr 1; omega
    · rw [if_neg h]
      have e : (Int.tmod a b).natAbs = a.natAbs % b.natAbs := Int.natAbs_tmod a b
      have h1 := Int.tmod_nonneg b ha
      have h2 := Int.tmod_lt_of_pos a (show 0 < b by omega)
      rw [ih b (Int.tmod a b) hb h1 (by omega) (by omega) (by omega)]
      simp only [Option.bind_some]
      congr 2
      rw [Int.gcd_eq_natAbs_gcd_natAbs, Int.gcd_eq_natAbs_gcd_natAbs, e, Nat.gcd_comm a.natAbs b.natAbs, Nat.gcd_rec b.natAbs a.natAbs, Nat.gcd_comm]
theorem rper_loop (k0 : Nat) (hk0 : 2147483648 ≤ k0) (suf : List S28) : ∀ (pre : List S28) (k m : Nat), k0 + suf.length < k → (pre ++ suf).length ≤ 16 → 0 < m → m ≤ 1048576 → (∀ s ∈ suf, (tk s).ok) →
    Hm.perFrom m (suf.map fun s => s.f3.toNat) ≤ 1048576 → horariumref09_Period.l0 k (pre ++ suf) (m : Int) (pre.length : Int) = some (((Hm.perFrom m (suf.map fun s => s.f3.toNat) : Nat) : Int), 0) := by
  induction suf with
  | nil =>
    intro pre k m hk hlen h0 h1 _ _
    obtain ⟨k, rfl⟩ := some_k (show 0 < k by omega)
    simp only [horariumref09_Period.l0, List.append_nil, List.map_nil, Hm.perFrom]
    rw [if_neg (by omega)]
  | cons s suf ih =>
    intro pre k m hk hlen h0 h1 hok hp
    obtain ⟨k, rfl⟩ := some_k (show 0 < k by omega)
    obtain ⟨_, _, h2, h3, h4, h5, _, _⟩ := hok s (by simp)
    simp only [tk] at h2 h3 h4 h5
    obtain ⟨t, ht⟩ : ∃ t : Nat, s.f3 = (t : Int) := ⟨s.f3.toNat, by omega⟩
    have hg : Int.gcd (m : Int) (t : Int) = Nat.gcd m t := by simp [Int.gcd_eq_natAbs_gcd_natAbs]
    have hgp : 0 < Nat.gcd m t := Nat.gcd_pos_of_pos_left t h0
    have e3 : (s :: suf).map (fun s => s.f3.toNat) = t :: suf.map (fun s => s.f3.toNat) := by simp [ht]
    rw [e3] at hp ⊢
    rw [show Hm.perFrom m (t :: suf.map fun s => s.f3.toNat) = Hm.perFrom (Nat.lcm m t) (suf.map fun s => s.f3.toNat) from rfl] at hp ⊢
    have hlp : 0 < Nat.lcm m t := Nat.lcm_pos h0 (by omega)
    have hpos : 0 < Hm.perFrom (Nat.lcm m t) (suf.map fun s => s.f3.toNat) := Hm.perFrom_pos hlp (fun x hx => by
      obtain ⟨y, hy, rfl⟩ := List.mem_map.1 hx
      obtain ⟨_, _, g2, g3, g4, _⟩ := hok y (by simp [hy])
      simp only [tk] at g2 g3 g4
      omega)
    have hle : Nat.lcm m t ≤ 1048576 := Nat.le_trans (Nat.le_of_dvd hpos (Hm.perFrom_start (Nat.lcm m t) (suf.map fun s => s.f3.toNat))) hp
    have hlen' := hlen
    simp only [List.length_append, List.length_cons] at hlen' hk
    have i1 : ((pre ++ s :: suf).length : Int) = (pre.length : Int) + ((suf.length : Int) + 1) := by simp
    have i2 := ih (pre ++ [s]) k (Nat.lcm m t) (by omega) (by simp; omega) hlp hle (fun x hx => hok x (by simp [hx])) hp
    simp only [List.append_assoc, List.cons_append, List.nil_append] at i2
    rw [show ((pre ++ [s]).length : Int) = (pre.length : Int) + 1 from by simp] at i2
    have e1 : Int.tdiv (m : Int) ((Nat.gcd m t : Nat) : Int) = ((m / Nat.gcd m t : Nat) : Int) := by rw [Int.tdiv_eq_ediv_of_nonneg (by omega)]; exact (Int.natCast_ediv m (Nat.gcd m t)).symm
    have hq : m / Nat.gcd m t ≤ m := Nat.div_le_self _ _
    have e2 : ((m / Nat.gcd m t : Nat) : Int) * (t : Int) = ((Nat.lcm m t : Nat) : Int) := by
      rw [← Int.natCast_mul]; congr 1
      unfold Nat.lcm
      rw [Nat.mul_comm, ← Nat.mul_div_assoc t (Nat.gcd_dvd_left m t), Nat.mul_comm]
    simp only [horariumref09_Period.l0]
    rw [if_pos (by omega), if_pos (by omega), rd_mid, ht, rgcd_is k _ _ (by omega) (by omega) (by omega) (by omega) (by omega), hg]
    simp only [Option.bind_some]
    rw [if_neg (by omega), e1, w64 (n := ((m / Nat.gcd m t : Nat) : Int)) (by have := Int.natCast_nonneg (m / Nat.gcd m t); omega) (by have : ((m / Nat.gcd m t : Nat) : Int) ≤ (m : Int) := Int.ofNat_le.2 hq; omega), e2, w64 (n := ((Nat.lcm m t : Nat) : Int)) (by omega) (by omega), if_neg (by omega), w64 (by omega) (by omega)]
    exact i2
theorem rPeriod_ok {l : List S28} (k : Nat) (h : okL l) (hk : 2147483700 < k) (hp : Hm.per (l.map tk) ≤ 1048576) : horariumref09_Period.f k l = some ((Hm.per (l.map tk) : Int), 0) := by
  have e0 : Hm.per (l.map tk) = Hm.perFrom 1 (l.map fun s => s.f3.toNat) := by unfold Hm.per; rw [List.map_map]; rfl
  have hl := h.1
  have := rper_loop 2147483648 (by omega) l [] k 1 (by omega) (by simpa using hl) (by omega) (by omega) h.2 (by rw [← e0]; exact hp)
  unfold horariumref09_Period.f
  rw [rrow_yes k h (by omega)]; simp only [Option.bind_some, if_true]
  rw [e0]; exact this
theorem rload_loop {p : Int} (h0 : 0 < p) (h1 : p ≤ 1048576) (suf : List S28) : ∀ (pre : List S28) (k : Nat) (acc : Int), okL (pre ++ suf) → suf.length < k → 0 ≤ acc → acc ≤ (pre.length : Int) * 1048576 →
    horariumref09_Load.l0 k (pre ++ suf) p acc (pre.length : Int) = some (acc + Hm.loadN (suf.map tk) p, p, 0) := by
  induction suf with
  | nil =>
    intro pre k acc _ hk _ _
    obtain ⟨k, rfl⟩ := some_k hk
    simp only [horariumref09_Load.l0, List.append_nil, List.map_nil, Hm.loadN]
    rw [if_neg (by omega)]; simp
  | cons s suf ih =>
    intro pre k acc hok hk ha hb
    obtain ⟨k, rfl⟩ := some_k (show 0 < k by omega)
    have hs : (tk s).ok := hok.2 s (by simp)
    have hw := Hm.load_le hs (p := p) (by omega)
    have hlen := hok.1
    simp only [List.length_append, List.length_cons] at hlen hk
    have hc : (tk s).c = s.f1 := rfl
    have ht : (tk s).t = s.f3 := rfl
    rw [hc, ht] at hw
    obtain ⟨_, _, h2, h3, h4, h5, _, _⟩ := hs
    simp only [tk] at h2 h3 h4 h5
    have i1 : ((pre ++ s :: suf).length : Int) = (pre.length : Int) + ((suf.length : Int) + 1) := by simp
    have i2 := ih (pre ++ [s]) k (acc + s.f1 * (p / s.f3)) (by simpa using hok) (by omega) (by omega) (by simp only [List.length_append, List.length_singleton]; omega)
    simp only [List.append_assoc, List.cons_append, List.nil_append] at i2
    have i3 : ((pre ++ [s]).length : Int) = (pre.length : Int) + 1 := by simp
    rw [i3] at i2
    have hq := Int.ediv_nonneg (show 0 ≤ p by omega) (show 0 ≤ s.f3 by omega)
    have hq2 := Int.ediv_le_self s.f3 (show 0 ≤ p by omega)
    simp only [horariumref09_Load.l0]
    rw [if_pos (by omega), if_pos (by omega), rd_mid, if_neg (by omega), Int.tdiv_eq_ediv_of_nonneg (by omega), w64 (n := p / s.f3) (by omega) (by omega)]
    rw [w64 (n := s.f1 * (p / s.f3)) (by omega) (by omega), w64 (n := acc + s.f1 * (p / s.f3)) (by omega) (by omega), w64 (n := (pre.length : Int) + 1) (by omega) (by omega), i2]
    simp only [List.map_cons, Hm.loadN, hc, ht]
    congr 2; omega
theorem rLoad_ok {l : List S28} (k : Nat) (h : okL l) (hk : 2147483700 < k) (hp : Hm.per (l.map tk) ≤ 1048576) : horariumref09_Load.f k l = some (Hm.loadN (l.map tk) (Hm.per (l.map tk) : Int), (Hm.per (l.map tk) : Int), 0) := by
  unfold horariumref09_Load.f
  rw [rPeriod_ok k h hk hp]; simp only [Option.bind_some, if_true]
  have hpos := Hm.per_pos (okL_map h)
  have hl := h.1
  have := rload_loop (p := (Hm.per (l.map tk) : Int)) (by omega) (by omega) l [] k 0 (by simpa using h) (by omega) (by omega) (by simp)
  simpa using this

def rowB (l : List S28) : Bool := decide (l.length ≤ 16) && l.all taskB
theorem rowB_ok (l : List S28) : rowB l = true ↔ okL l := by
  unfold rowB okL
  simp only [Bool.and_eq_true, decide_eq_true_eq, List.all_eq_true]
  exact ⟨fun h => ⟨h.1, fun s hs => (taskB_ok s).1 (h.2 s hs)⟩, fun h => ⟨h.1, fun s hs => (taskB_ok s).2 (h.2 s hs)⟩⟩
theorem row_is (l : List S28) : param_Row.f l = some (rowB l) := rfl

theorem rrowall_loop (suf : List S28) : ∀ (pre : List S28) (k : Nat), (pre ++ suf).length ≤ 1000000000000000000 → suf.length < k → horariumref09_Row.l0 k (pre ++ suf) (pre.length : Int) = some (suf.all taskB && decide ((pre ++ suf).length ≤ 16)) := by
  induction suf with
  | nil =>
    intro pre k hlen hk
    obtain ⟨k, rfl⟩ := some_k hk
    simp only [horariumref09_Row.l0, List.append_nil] at hlen ⊢
    rw [if_neg (by omega)]
    simp only [List.all_nil, Bool.true_and]
    congr 1
    by_cases h : pre.length ≤ 16
    · rw [decide_eq_true h, decide_eq_true (by omega)]
    · rw [decide_eq_false h, decide_eq_false (by omega)]
  | cons s suf ih =>
    intro pre k hlen hk
    obtain ⟨k, rfl⟩ := some_k (show 0 < k by omega)
    have i1 : ((pre ++ s :: suf).length : Int) = (pre.length : Int) + ((suf.length : Int) + 1) := by simp
    have i2 := ih (pre ++ [s]) k (by simpa using hlen) (by simp at hk; omega)
    simp only [List.append_assoc, List.cons_append, List.nil_append] at i2
    rw [show ((pre ++ [s]).length : Int) = (pre.length : Int) + 1 from by simp] at i2
    simp only [horariumref09_Row.l0]
    rw [if_pos (by omega), if_pos (by omega), rd_mid, rcheck_is]
    simp only [Option.bind_some, List.all_cons]
    cases taskB s with
    | false => rfl
    | true =>
      simp only [if_true, Bool.true_and]
      rw [w64 (by omega) (by omega)]
      exact i2
theorem rrow_all (k : Nat) (l : List S28) (hl : l.length ≤ 1000000000000000000) (hk : l.length < k) : horariumref09_Row.f k l = some (rowB l) := by
  have := rrowall_loop l [] k (by simpa using hl) hk
  unfold horariumref09_Row.f rowB
  rw [Bool.and_comm]
  exact this

theorem rper_over (k0 : Nat) (hk0 : 2147483648 ≤ k0) (suf : List S28) : ∀ (pre : List S28) (k m : Nat), k0 + suf.length < k → (pre ++ suf).length ≤ 16 → 0 < m → m ≤ 1048576 → (∀ s ∈ suf, (tk s).ok) →
    ¬ Hm.perFrom m (suf.map fun s => s.f3.toNat) ≤ 1048576 → horariumref09_Period.l0 k (pre ++ suf) (m : Int) (pre.length : Int) = some (0, 16) := by
  induction suf with
  | nil =>
    intro pre k m hk hlen h0 h1 _ hp
    exact absurd h1 hp
  | cons s suf ih =>
    intro pre k m hk hlen h0 h1 hok hp
    obtain ⟨k, rfl⟩ := some_k (show 0 < k by omega)
    obtain ⟨_, _, h2, h3, h4, h5, _, _⟩ := hok s (by simp)
    simp only [tk] at h2 h3 h4 h5
    obtain ⟨t, ht⟩ : ∃ t : Nat, s.f3 = (t : Int) := ⟨s.f3.toNat, by omega⟩
    have hg : Int.gcd (m : Int) (t : Int) = Nat.gcd m t := by simp [Int.gcd_eq_natAbs_gcd_natAbs]
    have hgp : 0 < Nat.gcd m t := Nat.gcd_pos_of_pos_left t h0
    have e3 : (s :: suf).map (fun s => s.f3.toNat) = t :: suf.map (fun s => s.f3.toNat) := by simp [ht]
    rw [e3] at hp
    rw [show Hm.perFrom m (t :: suf.map fun s => s.f3.toNat) = Hm.perFrom (Nat.lcm m t) (suf.map fun s => s.f3.toNat) from rfl] at hp
    have hlp : 0 < Nat.lcm m t := Nat.lcm_pos h0 (by omega)
    have hlen' := hlen
    simp only [List.length_append, List.length_cons] at hlen' hk
    have i1 : ((pre ++ s :: suf).length : Int) = (pre.length : Int) + ((suf.length : Int) + 1) := by simp
    have e1 : Int.tdiv (m : Int) ((Nat.gcd m t : Nat) : Int) = ((m / Nat.gcd m t : Nat) : Int) := by rw [Int.tdiv_eq_ediv_of_nonneg (by omega)]; exact (Int.natCast_ediv m (Nat.gcd m t)).symm
    have hq : m / Nat.gcd m t ≤ m := Nat.div_le_self _ _
    have e2 : ((m / Nat.gcd m t : Nat) : Int) * (t : Int) = ((Nat.lcm m t : Nat) : Int) := by
      rw [← Int.natCast_mul]; congr 1
      unfold Nat.lcm
      rw [Nat.mul_comm, ← Nat.mul_div_assoc t (Nat.gcd_dvd_left m t), Nat.mul_comm]
    have hlcm : Nat.lcm m t ≤ 1048576 * 2147483648 := by
      rw [← Hm.mul_quo_gcd (m := m) (t := t) (by omega)]
      exact Nat.mul_le_mul h1 (by have := Nat.div_le_self t (Nat.gcd m t); omega)
    simp only [horariumref09_Period.l0]
    rw [if_pos (by omega), if_pos (by omega), rd_mid, ht, rgcd_is k _ _ (by omega) (by omega) (by omega) (by omega) (by omega), hg]
    simp only [Option.bind_some]
    rw [if_neg (by omega), e1, w64 (n := ((m / Nat.gcd m t : Nat) : Int)) (by have := Int.natCast_nonneg (m / Nat.gcd m t); omega) (by have : ((m / Nat.gcd m t : Nat) : Int) ≤ (m : Int) := Int.ofNat_le.2 hq; omega), e2, w64 (n := ((Nat.lcm m t : Nat) : Int)) (by omega) (by omega)]
    by_cases hle : Nat.lcm m t ≤ 1048576
    · rw [if_neg (by omega), w64 (by omega) (by omega)]
      have i2 := ih (pre ++ [s]) k (Nat.lcm m t) (by omega) (by simp; omega) hlp hle (fun x hx => hok x (by simp [hx])) hp
      simp only [List.append_assoc, List.cons_append, List.nil_append] at i2
      rw [show ((pre ++ [s]).length : Int) = (pre.length : Int) + 1 from by simp] at i2
      exact i2
    · rw [if_pos (by omega)]
theorem rPeriod_over {l : List S28} (k : Nat) (h : okL l) (hk : 2147483700 < k) (hp : ¬ Hm.per (l.map tk) ≤ 1048576) : horariumref09_Period.f k l = some (0, 16) := by
  have e0 : Hm.per (l.map tk) = Hm.perFrom 1 (l.map fun s => s.f3.toNat) := by unfold Hm.per; rw [List.map_map]; rfl
  have hl := h.1
  have := rper_over 2147483648 (by omega) l [] k 1 (by omega) (by simpa using hl) (by omega) (by omega) h.2 (by rw [← e0]; exact hp)
  unfold horariumref09_Period.f
  rw [rrow_yes k h (by omega)]; simp only [Option.bind_some, if_true]
  exact this
theorem rPeriod_arg {l : List S28} (k : Nat) (h : ¬ okL l) (hl : l.length ≤ 1000000000000000000) (hk : l.length < k) : horariumref09_Period.f k l = some (0, 1) := by
  unfold horariumref09_Period.f
  rw [rrow_all k l hl hk, Bool.eq_false_iff.2 (fun e => h ((rowB_ok l).1 e))]; rfl
theorem rLoad_over {l : List S28} (k : Nat) (h : okL l) (hk : 2147483700 < k) (hp : ¬ Hm.per (l.map tk) ≤ 1048576) : horariumref09_Load.f k l = some (0, 0, 16) := by
  unfold horariumref09_Load.f
  rw [rPeriod_over k h hk hp]; rfl
theorem rLoad_arg {l : List S28} (k : Nat) (h : ¬ okL l) (hl : l.length ≤ 1000000000000000000) (hk : l.length < k) : horariumref09_Load.f k l = some (0, 0, 1) := by
  unfold horariumref09_Load.f
  rw [rPeriod_arg k h hl hk]; rfl

/-- Tasks by numbers. -/
def MadeP (r : List S28) : Prop := ∀ i (h : i < r.length), (r[i]).f0 = (i : Int) ∧ 1 ≤ (r[i]).f1 ∧ (r[i]).f1 ≤ (r[i]).f2 ∧ (r[i]).f2 ≤ (r[i]).f3 ∧ (r[i]).f3 ≤ 24 ∧ (r[i]).f4 = 1
theorem mod_rng (a : Int) {m : Int} (h : 1 ≤ m) (hm : m ≤ 24) : 1 ≤ wrap64 (1 + Int.tmod (wrap64 (Int.tmod a m + m)) m) ∧ wrap64 (1 + Int.tmod (wrap64 (Int.tmod a m + m)) m) ≤ m := by
  have h1 : -m < Int.tmod a m ∧ Int.tmod a m < m := by
    rcases Int.le_total 0 a with ha | ha
    · have h2 := Int.tmod_lt_of_pos a (show 0 < m by omega); have h3 := Int.tmod_nonneg m ha; omega
    · have h2 := Int.tmod_lt_of_pos (-a) (show 0 < m by omega); have h3 := Int.tmod_nonneg m (show 0 ≤ -a by omega)
      rw [Int.neg_tmod] at h2 h3; omega
  rw [w64 (n := Int.tmod a m + m) (by omega) (by omega)]
  have h4 := Int.tmod_lt_of_pos (Int.tmod a m + m) (show 0 < m by omega); have h5 := Int.tmod_nonneg m (show 0 ≤ Int.tmod a m + m by omega)
  rw [w64 (by omega) (by omega)]; omega
theorem made_loop (l : List S22) (d : Nat) : ∀ (k i : Nat) (r : List S28), i + d = min l.length 16 → d < k → r.length = i → MadeP r →
    ∃ r', horariumlaw09_made.l0 k l r (i : Int) = some r' ∧ r'.length = min l.length 16 ∧ MadeP r' := by
  induction d with
  | zero =>
    intro k i r hd hk hr hm
    obtain ⟨k, rfl⟩ := some_k hk
    refine ⟨r, ?_, by omega, hm⟩
    simp only [horariumlaw09_made.l0]
    by_cases h : (i : Int) < (l.length : Int)
    · rw [if_pos h, if_neg (by omega)]
    · rw [if_neg h]
  | succ d ih =>
    intro k i r hd hk hr hm
    obtain ⟨k, rfl⟩ := some_k (show 0 < k by omega)
    simp only [horariumlaw09_made.l0]
    rw [if_pos (by omega), if_pos (by omega), if_pos (by omega)]
    have hT := mod_rng (rd_T22 l (i : Int)).f2 (m := 24) (by omega) (by omega)
    generalize wrap64 (1 + Int.tmod (wrap64 (Int.tmod (rd_T22 l (i : Int)).f2 24 + 24)) 24) = T at hT ⊢
    rw [if_neg (by omega)]
    have hD := mod_rng (rd_T22 l (i : Int)).f1 (m := T) (by omega) (by omega)
    generalize wrap64 (1 + Int.tmod (wrap64 (Int.tmod (rd_T22 l (i : Int)).f1 T + T)) T) = D at hD ⊢
    rw [if_neg (by omega), if_pos (by omega)]
    have hC := mod_rng (rd_T22 l (i : Int)).f0 (m := D) (by omega) (by omega)
    generalize wrap64 (1 + Int.tmod (wrap64 (Int.tmod (rd_T22 l (i : Int)).f0 D + D)) D) = C at hC ⊢
    rw [w64 (n := (i : Int) + 1) (by omega) (by omega)]
    have e : ((i : Int) + 1) = ((i + 1 : Nat) : Int) := by omega
    rw [e]
    refine ih k (i + 1) _ (by omega) (by omega) (by simp [hr]) ?_
    intro j hj
    by_cases h : j < r.length
    · rw [List.getElem_append_left h]; exact hm j h
    · have hj2 : j = r.length := by simp at hj; omega
      subst hj2
      rw [List.getElem_append_right (by omega)]
      simp only [Nat.sub_self, List.getElem_cons_zero]
      exact ⟨by omega, by omega, by omega, by omega, by omega, trivial⟩
theorem made_is (l : List S22) (k : Nat) (hk : 16 < k) : ∃ r, horariumlaw09_made.f k l = some r ∧ r.length = min l.length 16 ∧ MadeP r := by
  unfold horariumlaw09_made.f
  exact made_loop l (min l.length 16) k 0 [] (by omega) (by omega) rfl (fun i h => by simp at h)
theorem MadeP.okL {r : List S28} (h : MadeP r) (hl : r.length ≤ 16) : okL r := by
  refine ⟨hl, fun s hs => ?_⟩
  obtain ⟨i, hi, rfl⟩ := List.getElem_of_mem hs
  have := h i hi
  unfold Hm.Tk.ok tk
  simp only
  omega
theorem rd_at {r : List S28} {i : Nat} (hi : i < r.length) : rd_T28 r (i : Int) = r[i] := by
  simp [rd_T28, hi]

theorem awake_is : ∀ k, 40 ≤ k → horariumlaw09_awake.f k = some true := by
  have h : horariumlaw09_awake.f 40 = some true := by decide +kernel
  intro k hk
  exact at_rounds (horariumlaw09_awake.mono) hk h

theorem less_is {a b : S28} (k : Nat) (ha : (tk a).ok) (hb : (tk b).ok) (hk : 3 ≤ k) : param_Heavier_1.f k a.f0 a.f1 a.f2 a.f3 a.f4 b.f0 b.f1 b.f2 b.f3 b.f4 = some (decide (a.f1 * b.f3 < b.f1 * a.f3)) := by
  obtain ⟨_, _, h2, h3, h4, h5, _, _⟩ := ha
  obtain ⟨_, _, g2, g3, g4, g5, _, _⟩ := hb
  simp only [tk] at h2 h3 h4 h5 g2 g3 g4 g5
  unfold param_Heavier_1.f
  rw [u64in (n := a.f1) (by omega) (by omega), u64in (n := a.f3) (by omega) (by omega), u64in (n := b.f1) (by omega) (by omega), u64in (n := b.f3) (by omega) (by omega), Less_is k (by omega) (by omega) (by omega) (by omega) (by omega) (by omega) (by omega) (by omega) hk]
  simp only [Option.bind_some]
  congr 1
  rw [Bool.eq_iff_iff]
  simp only [decide_eq_true_eq]
  exact ⟨fun h => h.2.2, fun h => ⟨by omega, by omega, h⟩⟩
theorem rless_is {a b : S28} (ha : (tk a).ok) (hb : (tk b).ok) : horariumref01_Less.f (IntKind.u64.wrap a.f1) (IntKind.u64.wrap a.f3) (IntKind.u64.wrap b.f1) (IntKind.u64.wrap b.f3) = some (decide (a.f1 * b.f3 < b.f1 * a.f3)) := by
  obtain ⟨_, _, h2, h3, h4, h5, _, _⟩ := ha
  obtain ⟨_, _, g2, g3, g4, g5, _, _⟩ := hb
  simp only [tk] at h2 h3 h4 h5 g2 g3 g4 g5
  rw [u64in (n := a.f1) (by omega) (by omega), u64in (n := a.f3) (by omega) (by omega), u64in (n := b.f1) (by omega) (by omega), u64in (n := b.f3) (by omega) (by omega)]
  unfold horariumref01_Less.f
  rw [if_pos (by omega)]
  congr 1
  rw [Bool.eq_iff_iff]
  simp only [decide_eq_true_eq]
  exact ⟨fun h => h.2.2, fun h => ⟨by omega, by omega, h⟩⟩
/-- Is a task heavier than another one? Both must be tasks. -/
def heavyB (a b : S28) : Bool := if taskB a = true ∧ taskB b = true then (if b.f1 * a.f3 < a.f1 * b.f3 then true else if a.f1 * b.f3 < b.f1 * a.f3 then false else decide (a.f0 < b.f0)) else false
theorem heavyB_1 {a b : S28} (h : taskB a = false) : heavyB a b = false := by unfold heavyB; rw [h]; exact if_neg (fun q => Bool.noConfusion q.1)
theorem heavyB_2 {a b : S28} (h : taskB b = false) : heavyB a b = false := by unfold heavyB; rw [h]; exact if_neg (fun q => Bool.noConfusion q.2)
theorem heavyB_3 {a b : S28} (h : taskB a = true) (h2 : taskB b = true) : heavyB a b = (if b.f1 * a.f3 < a.f1 * b.f3 then true else if a.f1 * b.f3 < b.f1 * a.f3 then false else decide (a.f0 < b.f0)) := by unfold heavyB; rw [h, h2]; exact if_pos ⟨rfl, rfl⟩
theorem Heavier_is (a b : S28) (k : Nat) (hk : 6 ≤ k) : param_Heavier.f k a.f0 a.f1 a.f2 a.f3 a.f4 b.f0 b.f1 b.f2 b.f3 b.f4 = some (heavyB a b) := by
  unfold param_Heavier.f
  obtain ⟨k, rfl⟩ := some_k (show 0 < k by omega)
  rw [check_eq a]
  simp only [Option.bind_some, param_Heavier.j0]
  cases ha : taskB a with
  | false => rw [heavyB_1 ha]; rfl
  | true =>
    rw [check_eq b]
    cases hb : taskB b with
    | false => rw [heavyB_2 hb]; rfl
    | true =>
      rw [heavyB_3 ha hb]
      simp only [Option.bind_some, Bool.not_true, Bool.false_eq_true, if_false, if_true]
      rw [less_is k ((taskB_ok b).1 hb) ((taskB_ok a).1 ha) (by omega), less_is k ((taskB_ok a).1 ha) ((taskB_ok b).1 hb) (by omega)]
      simp only [Option.bind_some, decide_eq_true_eq]
      split
      · rfl
      · split <;> rfl
theorem rHeavier_is (a b : S28) (k : Nat) (hk : 6 ≤ k) : horariumref09_Heavier.f k a.f0 a.f1 a.f2 a.f3 a.f4 b.f0 b.f1 b.f2 b.f3 b.f4 = some (heavyB a b) := by
  unfold horariumref09_Heavier.f
  rw [rcheck_is a, rcheck_is b]
  simp only [Option.bind_some]
  obtain ⟨k, rfl⟩ := some_k (show 0 < k by omega)
  simp only [horariumref09_Heavier.j0]
  obtain ⟨k, rfl⟩ := some_k (show 0 < k by omega)
  cases ha : taskB a with
  | false => rw [heavyB_1 ha]; rfl
  | true =>
    simp only [if_true, horariumref09_Heavier.j1]
    cases hb : taskB b with
    | false => rw [heavyB_2 hb]; rfl
    | true =>
      rw [heavyB_3 ha hb]
      simp only [Bool.not_true, Bool.false_eq_true, if_false]
      rw [rless_is ((taskB_ok b).1 hb) ((taskB_ok a).1 ha), rless_is ((taskB_ok a).1 ha) ((taskB_ok b).1 hb)]
      obtain ⟨k, rfl⟩ := some_k (show 0 < k by omega)
      simp only [Option.bind_some, horariumref09_Heavier.j2, decide_eq_true_eq]
      split
      · rfl
      · split <;> rfl
theorem tells_end (l : List S28) (k : Nat) (hl : l.length ≤ 18) (hk : 2147483800 < k) : horariumlaw09_tells.l0 k l (l.length : Int) = some true := by
  obtain ⟨k, rfl⟩ := some_k (show 0 < k by omega)
  simp only [horariumlaw09_tells.l0]
  rw [if_neg (by omega)]
  unfold param_Over.f
  have hrow : ∀ j, 20 < j → horariumref09_Row.f j l = some (rowB l) := fun j hj => rrow_all j l (by omega) (by omega)
  have fin : ∀ (p e n m g : Int), (horariumlaw09_tells.j2 k l p e p e n m g (decide (n > m)) g n m g) = some true := by
    intro p e n m g
    obtain ⟨k, rfl⟩ := some_k (show 0 < k by omega)
    simp only [horariumlaw09_tells.j2, if_true, beq_self_eq_true]
    rw [row_is, hrow k (by omega)]
    simp
  by_cases h : okL l
  · by_cases hp : Hm.per (l.map tk) ≤ 1048576
    · rw [Period_ok k h (by omega) hp, rPeriod_ok k h (by omega) hp, Load_ok k h (by omega) hp, rLoad_ok k h (by omega) hp]
      simp only [Option.bind_some]
      exact fin _ _ _ _ _
    · rw [Period_over k h (by omega) hp, rPeriod_over k h (by omega) hp, Load_over k h (by omega) hp, rLoad_over k h (by omega) hp]
      simp only [Option.bind_some]
      exact fin _ _ _ _ _
  · rw [Period_arg k h, rPeriod_arg k h (by omega) (by omega), Load_arg k h, rLoad_arg k h (by omega) (by omega)]
    simp only [Option.bind_some]
    exact fin _ _ _ _ _
theorem tells_loop (suf : List S28) : ∀ (pre : List S28) (k : Nat), (pre ++ suf).length ≤ 18 → suf.length + suf.length + 2147483800 < k → horariumlaw09_tells.l0 k (pre ++ suf) (pre.length : Int) = some true := by
  induction suf with
  | nil =>
    intro pre k hl hk
    rw [List.append_nil] at hl ⊢
    exact tells_end pre k hl (by simpa using hk)
  | cons s suf ih =>
    intro pre k hl hk
    obtain ⟨k, rfl⟩ := some_k (show 0 < k by omega)
    have i1 : ((pre ++ s :: suf).length : Int) = (pre.length : Int) + ((suf.length : Int) + 1) := by simp
    have hl2 : (pre.length : Int) + ((suf.length : Int) + 1) ≤ 18 := by omega
    have i2 := ih (pre ++ [s]) (k - 1) (by simpa using hl) (by simp at hk; omega)
    rw [show ((pre ++ [s]).length : Int) = (pre.length : Int) + 1 from by simp, List.append_assoc, List.singleton_append] at i2
    obtain ⟨u, hu⟩ : ∃ u, rd_T28 (pre ++ s :: suf) 0 = u := ⟨_, rfl⟩
    simp only [horariumlaw09_tells.l0]
    rw [if_pos (by omega), if_pos (by omega), rd_mid, hu, check_eq s, rcheck_is s]
    simp only [Option.bind_some, bne_self_eq_false, Bool.false_eq_true, if_false]
    rw [if_pos (by omega), Heavier_is s u k (by simp at hk; omega), rHeavier_is s u k (by simp at hk; omega), Heavier_is u s k (by simp at hk; omega), rHeavier_is u s k (by simp at hk; omega)]
    simp only [Option.bind_some, bne_self_eq_false, Bool.false_eq_true, if_false]
    obtain ⟨k, rfl⟩ := some_k (show 0 < k by simp at hk; omega)
    simp only [horariumlaw09_tells.j1, Bool.false_eq_true, if_false]
    rw [w64 (by omega) (by omega)]
    exact i2
theorem tells_is (k : Nat) (l : List S28) (hl : l.length ≤ 18) (hk : 2147484000 < k) : horariumlaw09_tells.f k l = some true := by
  unfold horariumlaw09_tells.f
  exact tells_loop l [] k (by simpa using hl) (by omega)
theorem few_is (l : List S28) : ∃ r, horariumlaw09_few.f l = some r ∧ r.length ≤ 18 := by
  unfold horariumlaw09_few.f
  by_cases h : (l.length : Int) > 18
  · rw [if_pos h, if_pos (by omega)]; exact ⟨_, rfl, by simp; omega⟩
  · rw [if_neg h]; exact ⟨_, rfl, by omega⟩
theorem ParamTells : horariumlaw09_ParamTells.Pure := by
  intro raw l _ _ _ _
  obtain ⟨K, hK⟩ : ∃ K : Nat, 2147485000 ≤ K := ⟨2147485000, Nat.le_refl _⟩
  obtain ⟨t, hr, hl, hm⟩ := made_is l K (by omega)
  obtain ⟨r, hr2, hl2⟩ := few_is raw
  refine ⟨K + 1, ?_⟩
  unfold horariumlaw09_ParamTells.f
  rw [awake_is (K + 1) (by omega)]
  simp only [Option.bind_some, horariumlaw09_ParamTells.j0, if_true]
  rw [hr2]
  simp only [Option.bind_some]
  rw [tells_is K r hl2 (by omega)]
  simp only [Option.bind_some, if_true]
  rw [hr]
  simp only [Option.bind_some]
  rw [tells_is K t (by omega) (by omega)]
  rfl
end Go.Proofs.Ytmgmpifbhjoijaa.Pure
