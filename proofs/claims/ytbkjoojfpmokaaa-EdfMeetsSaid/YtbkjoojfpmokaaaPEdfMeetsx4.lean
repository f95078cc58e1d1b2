-- Made by px.py (a program of this session, over the kit's printer) out of the translation. Not trusted: Lean checks it.
import Derived.Test.YtbkjoojfpmokaaaPEdfMeetsx0
import Derived.Test.YtbkjoojfpmokaaaPEdfMeetsx1
import Derived.Test.YtbkjoojfpmokaaaPEdfMeetsx2
import Derived.Test.YtbkjoojfpmokaaaPEdfMeetsx3
namespace Go.Proofs.Ytbkjoojfpmokaaa.PEdfMeets
open Go.RowKit Go.Proofs.YtbkjoojfpmokaaaW.PrintWords Go.Proofs.YtbkjoojfpmokaaaW.PrintLast Go.Proofs.YtbkjoojfpmokaaaW.PrintMore
attribute [local go_sem] max2_int min2_int max_two min_two max_three min_three max_four min_four   -- for this text's walks alone
set_option linter.unusedVariables false
set_option linter.unusedSimpArgs false

/-! ### horariumlaw18_EdfMeets: function 13 (by hand) -/
theorem w64 {n : Int} (h1 : -9223372036854775808 ≤ n) (h2 : n ≤ 9223372036854775807) : wrap64 n = n := by unfold wrap64; omega
theorem some_k {k : Nat} (h : 0 < k) : ∃ m, k = m + 1 := ⟨k - 1, by omega⟩
theorem tmod_rng (a : Int) {m : Int} (h : 0 < m) : -m < Int.tmod a m ∧ Int.tmod a m < m := by
  rcases Int.le_total 0 a with ha | ha
  · have h2 := Int.tmod_lt_of_pos a h; have h3 := Int.tmod_nonneg m ha; omega
  · have h2 := Int.tmod_lt_of_pos (-a) h; have h3 := Int.tmod_nonneg m (show 0 ≤ -a by omega)
    rw [Int.neg_tmod] at h2 h3; omega
theorem tmod_pos {a m : Int} (h : 0 < m) (ha : 0 ≤ a) : 0 ≤ Int.tmod a m ∧ Int.tmod a m < m := ⟨Int.tmod_nonneg m ha, Int.tmod_lt_of_pos a h⟩
theorem u64 (n : Int) : IntKind.u64.wrap n = n % 18446744073709551616 := by simp [IntKind.wrap, IntKind.bits, IntKind.signed]
theorem u64in {n : Int} (h1 : 0 ≤ n) (h2 : n < 18446744073709551616) : IntKind.u64.wrap n = n := by rw [u64]; omega
def taskB (t : S84) : Bool := decide (0 ≤ t.f0) && (decide (t.f0 ≤ 1023) && (decide (0 < t.f1) && (decide (t.f1 ≤ t.f2) && (decide (t.f2 ≤ t.f3) && (decide (t.f3 ≤ 2147483648) && (decide (0 < t.f4) && decide (t.f4 ≤ 15)))))))
def tk (s : S84) : Hm.Tk := ⟨s.f0, s.f1, s.f2, s.f3, s.f4⟩
theorem taskB_ok (s : S84) : taskB s = true ↔ (tk s).ok := by
  unfold taskB Hm.Tk.ok tk
  simp only [Bool.and_eq_true, decide_eq_true_eq]
/-- Tasks may be. -/
def okL (l : List S84) : Prop := l.length ≤ 16 ∧ ∀ s ∈ l, (tk s).ok
theorem okL_map {l : List S84} (h : okL l) : ∀ t ∈ l.map tk, t.ok := by
  intro t ht; obtain ⟨s, hs, rfl⟩ := List.mem_map.1 ht; exact h.2 s hs
theorem rd_mid (pre : List S84) (s : S84) (suf : List S84) : rd_T84 (pre ++ s :: suf) (pre.length : Int) = s := by
  simp [rd_T84]
theorem rcheck_is (s : S84) : horariumref09_Check.f s.f0 s.f1 s.f2 s.f3 s.f4 = some (taskB s) := by
  have e : taskB s = true ↔ (tk s).ok := taskB_ok s
  unfold Hm.Tk.ok tk at e
  simp only at e
  unfold horariumref09_Check.f
  by_cases h : taskB s = true
  · obtain ⟨h1, h2, h3, h4, h5, h6, h7, h8⟩ := e.1 h
    rw [h, if_pos (by omega), if_pos (by omega), if_pos (by omega), if_pos (by omega), if_pos (by omega), if_pos (by omega), if_pos (by omega), decide_eq_true h8]
  · have hf : taskB s = false := Bool.eq_false_iff.2 h
    rw [hf]
    repeat' split
    all_goals first | rfl | skip
    all_goals (congr 1; rw [decide_eq_false_iff_not]; intro h8; exact h (e.2 ⟨by omega, by omega, by omega, by omega, by omega, by omega, by omega, h8⟩))
theorem rrow_loop (suf : List S84) : ∀ (pre : List S84) (k : Nat), (∀ s ∈ suf, (tk s).ok) → ((pre ++ suf).length : Int) ≤ 16 → suf.length < k → horariumref09_Row.l0 k (pre ++ suf) (pre.length : Int) = some true := by
  induction suf with
  | nil =>
    intro pre k _ hlen hk
    obtain ⟨k, rfl⟩ := some_k hk
    simp only [horariumref09_Row.l0, List.append_nil] at hlen ⊢
    rw [if_neg (by omega), decide_eq_true hlen]
  | cons s suf ih =>
    intro pre k hok hlen hk
    obtain ⟨k, rfl⟩ := some_k (show 0 < k by omega)
    have i1 : ((pre ++ s :: suf).length : Int) = (pre.length : Int) + ((suf.length : Int) + 1) := by simp
    have i2 := ih (pre ++ [s]) k (fun x hx => hok x (by simp [hx])) (by simpa using hlen) (by simp at hk; omega)
    simp only [List.append_assoc, List.cons_append, List.nil_append] at i2
    rw [show ((pre ++ [s]).length : Int) = (pre.length : Int) + 1 from by simp] at i2
    simp only [horariumref09_Row.l0]
    rw [if_pos (by omega), if_pos (by omega), rd_mid, rcheck_is, (taskB_ok s).2 (hok s (by simp))]
    simp only [Option.bind_some, if_true]
    rw [w64 (by omega) (by omega)]
    exact i2
theorem rrow_yes {l : List S84} (k : Nat) (h : okL l) (hk : 16 < k) : horariumref09_Row.f k l = some true := by
  have hl := h.1
  have := rrow_loop l [] k h.2 (by simp; omega) (by omega)
  exact this
theorem rgcd_is : ∀ (k : Nat) (a b : Int), 0 ≤ a → 0 ≤ b → b ≤ 9223372036854775807 → a ≤ 9223372036854775807 → b.toNat < k → horariumref09_Gcd.f k a b = some ((Int.gcd a b : Nat) : Int) := by
  intro k
  induction k with
  | zero => intro a b _ _ _ _ h; omega
  | succ k ih =>
    intro a b ha hb hb2 ha2 hk
    unfold horariumref09_Gcd.f
    rw [if_neg (by omega), if_neg (by omega)]
    by_cases h : b = 0
    · subst h; rw [if_pos rfl, Int.gcd_zero_right]; congr 1; omega
    · rw [if_neg h]
      have e : (Int.tmod a b).natAbs = a.natAbs % b.natAbs := Int.natAbs_tmod a b
      have h1 := Int.tmod_nonneg b ha
      have h2 := Int.tmod_lt_of_pos a (show 0 < b by omega)
      rw [ih b (Int.tmod a b) hb h1 (by omega) (by omega) (by omega)]
      simp only [Option.bind_some]
      congr 2
      rw [Int.gcd_eq_natAbs_gcd_natAbs, Int.gcd_eq_natAbs_gcd_natAbs, e, Nat.gcd_comm a.natAbs b.natAbs, Nat.gcd_rec b.natAbs a.natAbs, Nat.gcd_comm]
theorem rper_loop (k0 : Nat) (hk0 : 2147483648 ≤ k0) (suf : List S84) : ∀ (pre : List S84) (k m : Nat), k0 + suf.length < k → (pre ++ suf).length ≤ 16 → 0 < m → m ≤ 1048576 → (∀ s ∈ suf, (tk s).ok) →
    Hm.perFrom m (suf.map fun s => s.f3.toNat) ≤ 1048576 → horariumref09_Period.l0 k (pre ++ suf) (m : Int) (pre.length : Int) = some (((Hm.perFrom m (suf.map fun s => s.f3.toNat) : Nat) : Int), 0) := by
  induction suf with
  | nil =>
    intro pre k m hk hlen h0 h1 _ _
    obtain ⟨k, rfl⟩ := some_k (show 0 < k by omega)
    simp only [horariumref09_Period.l0, List.append_nil, List.map_nil, Hm.perFrom]
    rw [if_neg (by omega)]
  | cons s suf ih =>
    intro pre k m hk hlen h0 h1 hok hp
    obtain ⟨k, rfl⟩ := some_k (show 0 < k by omega)
    obtain ⟨_, _, h2, h3, h4, h5, _, _⟩ := hok s (by simp)
    simp only [tk] at h2 h3 h4 h5
    obtain ⟨t, ht⟩ : ∃ t : Nat, s.f3 = (t : Int) := ⟨s.f3.toNat, by omega⟩
    have hg : Int.gcd (m : Int) (t : Int) = Nat.gcd m t := by simp [Int.gcd_eq_natAbs_gcd_natAbs]
    have hgp : 0 < Nat.gcd m t := Nat.gcd_pos_of_pos_left t h0
    have e3 : (s :: suf).map (fun s => s.f3.toNat) = t :: suf.map (fun s => s.f3.toNat) := by simp [ht]
    rw [e3] at hp ⊢
    rw [show Hm.perFrom m (t :: suf.map fun s => s.f3.toNat) = Hm.perFrom (Nat.lcm m t) (suf.map fun s => s.f3.toNat) from rfl] at hp ⊢
    have hlp : 0 < Nat.lcm m t := Nat.lcm_pos h0 (by omega)
    have hpos : 0 < Hm.perFrom (Nat.lcm m t) (suf.map fun s => s.f3.toNat) := Hm.perFrom_pos hlp (fun x hx => by
      obtain ⟨y, hy, rfl⟩ := List.mem_map.1 hx
      obtain ⟨_, _, g2, g3, g4, _⟩ := hok y (by simp [hy])
      simp only [tk] at g2 g3 g4
      omega)
    have hle : Nat.lcm m t ≤ 1048576 := Nat.le_trans (Nat.le_of_dvd hpos (Hm.perFrom_start (Nat.lcm m t) (suf.map fun s => s.f3.toNat))) hp
    have hlen' := hlen
    simp only [List.length_append, List.length_cons] at hlen' hk
    have i1 : ((pre ++ s :: suf).length : Int) = (pre.length : Int) + ((suf.length : Int) + 1) := by simp
    have i2 := ih (pre ++ [s]) k (Nat.lcm m t) (by omega) (by simp; omega) hlp hle (fun x hx => hok x (by simp [hx])) hp
    simp only [List.append_assoc, List.cons_append, List.nil_append] at i2
    rw [show ((pre ++ [s]).length : Int) = (pre.length : Int) + 1 from by simp] at i2
    have e1 : Int.tdiv (m : Int) ((Nat.gcd m t : Nat) : Int) = ((m / Nat.gcd m t : Nat) : Int) := by rw [Int.tdiv_eq_ediv_of_nonneg (by omega)]; exact (Int.natCast_ediv m (Nat.gcd m t)).symm
    have hq : m / Nat.gcd m t ≤ m := Nat.div_le_self _ _
    have e2 : ((m / Nat.gcd m t : Nat) : Int) * (t : Int) = ((Nat.lcm m t : Nat) : Int) := by
      rw [← Int.natCast_mul]; congr 1
      unfold Nat.lcm
      rw [Nat.mul_comm, ← Nat.mul_div_assoc t (Nat.gcd_dvd_left m t), Nat.mul_comm]
    simp only [horariumref09_Period.l0]
    rw [if_pos (by omega), if_pos (by omega), rd_mid, ht, rgcd_is k _ _ (by omega) (by omega) (by omega) (by omega) (by omega), hg]
    simp only [Option.bind_some]
    rw [if_neg (by omega), e1, w64 (n := ((m / Nat.gcd m t : Nat) : Int)) (by have := Int.natCast_nonneg (m / Nat.gcd m t); omega) (by have : ((m / Nat.gcd m t : Nat) : Int) ≤ (m : Int) := Int.ofNat_le.2 hq; omega), e2, w64 (n := ((Nat.lcm m t : Nat) : Int)) (by omega) (by omega), if_neg (by omega), w64 (by omega) (by omega)]
    exact i2
theorem rPeriod_ok {l : List S84} (k : Nat) (h : okL l) (hk : 2147483700 < k) (hp : Hm.per (l.map tk) ≤ 1048576) : horariumref09_Period.f k l = some ((Hm.per (l.map tk) : Int), 0) := by
  have e0 : Hm.per (l.map tk) = Hm.perFrom 1 (l.map fun s => s.f3.toNat) := by unfold Hm.per; rw [List.map_map]; rfl
  have hl := h.1
  have := rper_loop 2147483648 (by omega) l [] k 1 (by omega) (by simpa using hl) (by omega) (by omega) h.2 (by rw [← e0]; exact hp)
  unfold horariumref09_Period.f
  rw [rrow_yes k h (by omega)]; simp only [Option.bind_some, if_true]
  rw [e0]; exact this
theorem rload_loop {p : Int} (h0 : 0 < p) (h1 : p ≤ 1048576) (suf : List S84) : ∀ (pre : List S84) (k : Nat) (acc : Int), okL (pre ++ suf) → suf.length < k → 0 ≤ acc → acc ≤ (pre.length : Int) * 1048576 →
    horariumref09_Load.l0 k (pre ++ suf) p acc (pre.length : Int) = some (acc + Hm.loadN (suf.map tk) p, p, 0) := by
  induction suf with
  | nil =>
    intro pre k acc _ hk _ _
    obtain ⟨k, rfl⟩ := some_k hk
    simp only [horariumref09_Load.l0, List.append_nil, List.map_nil, Hm.loadN]
    rw [if_neg (by omega)]; simp
  | cons s suf ih =>
    intro pre k acc hok hk ha hb
    obtain ⟨k, rfl⟩ := some_k (show 0 < k by omega)
    have hs : (tk s).ok := hok.2 s (by simp)
    have hw := Hm.load_le hs (p := p) (by omega)
    have hlen := hok.1
    simp only [List.length_append, List.length_cons] at hlen hk
    have hc : (tk s).c = s.f1 := rfl
    have ht : (tk s).t = s.f3 := rfl
    rw [hc, ht] at hw
    obtain ⟨_, _, h2, h3, h4, h5, _, _⟩ := hs
    simp only [tk] at h2 h3 h4 h5
    have i1 : ((pre ++ s :: suf).length : Int) = (pre.length : Int) + ((suf.length : Int) + 1) := by simp
    have i2 := ih (pre ++ [s]) k (acc + s.f1 * (p / s.f3)) (by simpa using hok) (by omega) (by omega) (by simp only [List.length_append, List.length_singleton]; omega)
    simp only [List.append_assoc, List.cons_append, List.nil_append] at i2
    have i3 : ((pre ++ [s]).length : Int) = (pre.length : Int) + 1 := by simp
    rw [i3] at i2
    have hq := Int.ediv_nonneg (show 0 ≤ p by omega) (show 0 ≤ s.f3 by omega)
    have hq2 := Int.ediv_le_self s.f3 (show 0 ≤ p by omega)
    simp only [horariumref09_Load.l0]
    rw [if_pos (by omega), if_pos (by omega), rd_mid, if_neg (by omega), Int.tdiv_eq_ediv_of_nonneg (by omega), w64 (n := p / s.f3) (by omega) (by omega)]
    rw [w64 (n := s.f1 * (p / s.f3)) (by omega) (by omega), w64 (n := acc + s.f1 * (p / s.f3)) (by omega) (by omega), w64 (n := (pre.length : Int) + 1) (by omega) (by omega), i2]
    simp only [List.map_cons, Hm.loadN, hc, ht]
    congr 2; omega
theorem rLoad_ok {l : List S84} (k : Nat) (h : okL l) (hk : 2147483700 < k) (hp : Hm.per (l.map tk) ≤ 1048576) : horariumref09_Load.f k l = some (Hm.loadN (l.map tk) (Hm.per (l.map tk) : Int), (Hm.per (l.map tk) : Int), 0) := by
  unfold horariumref09_Load.f
  rw [rPeriod_ok k h hk hp]; simp only [Option.bind_some, if_true]
  have hpos := Hm.per_pos (okL_map h)
  have hl := h.1
  have := rload_loop (p := (Hm.per (l.map tk) : Int)) (by omega) (by omega) l [] k 0 (by simpa using h) (by omega) (by omega) (by simp)
  simpa using this
theorem check_yes {s : S84} (h : (tk s).ok) : horariumref09_Check.f s.f0 s.f1 s.f2 s.f3 s.f4 = some true := by
  obtain ⟨h1, h2, h3, h4, h5, h6, h7, h8⟩ := h
  simp only [tk] at h1 h2 h3 h4 h5 h6 h7 h8
  unfold horariumref09_Check.f
  rw [if_pos (by omega), if_pos (by omega), if_pos (by omega), if_pos (by omega), if_pos (by omega), if_pos (by omega), if_pos (by omega), decide_eq_true h8]
theorem rOne_yes {s : S84} {x : Int} (h : (tk s).ok) (h0 : 0 ≤ x) (h1 : x ≤ 1099511627776) : horariumref10_One.f s.f0 s.f1 s.f2 s.f3 s.f4 x = some (s.f1 * Hm.many (tk s) x) := by
  unfold horariumref10_One.f horariumref10_time.f
  rw [check_yes h, if_pos (by omega), decide_eq_true (by omega)]
  simp only [Option.bind_some, if_true]
  have hw := Hm.work_le h h0
  obtain ⟨_, _, h2, h3, h4, h5, _, _⟩ := h
  simp only [tk] at h2 h3 h4 h5
  by_cases hx : x < s.f2
  · rw [if_pos hx, Hm.many_lo (show x < (tk s).d from hx), Int.mul_zero]
  · have hm : Hm.many (tk s) x = (x - s.f2) / s.f3 + 1 := Hm.many_hi (show (tk s).d ≤ x by show s.f2 ≤ x; omega)
    have hc : (tk s).c = s.f1 := rfl
    rw [hc, hm] at hw
    have hq := Int.ediv_nonneg (show 0 ≤ x - s.f2 by omega) (show 0 ≤ s.f3 by omega)
    have hq2 := Int.ediv_le_self s.f3 (show 0 ≤ x - s.f2 by omega)
    rw [if_neg hx, if_neg (by omega), w64 (n := x - s.f2) (by omega) (by omega), Int.tdiv_eq_ediv_of_nonneg (by omega), w64 (n := (x - s.f2) / s.f3) (by omega) (by omega), w64 (n := (x - s.f2) / s.f3 + 1) (by omega) (by omega), w64 (by omega) (by omega), hm]
theorem rtime_is (x : Int) : horariumref10_time.f x = some (decide (0 ≤ x) && decide (x ≤ 1099511627776)) := by
  unfold horariumref10_time.f
  by_cases h : 0 ≤ x
  · rw [if_pos h, decide_eq_true h]; rfl
  · rw [if_neg h, decide_eq_false h]; rfl
theorem rof_loop {x : Int} (h0 : 0 ≤ x) (h1 : x ≤ 1099511627776) (suf : List S84) : ∀ (pre : List S84) (k : Nat) (acc : Int), okL (pre ++ suf) → suf.length < k → 0 ≤ acc → acc ≤ (pre.length : Int) * 2000000000000 →
    horariumref10_Of.l0 k (pre ++ suf) x true acc (pre.length : Int) = some (acc + Hm.of (suf.map tk) x) := by
  induction suf with
  | nil =>
    intro pre k acc _ hk _ _
    obtain ⟨k, rfl⟩ := some_k hk
    simp only [horariumref10_Of.l0, List.append_nil, List.map_nil, Hm.of]
    rw [if_neg (by omega)]; simp
  | cons s suf ih =>
    intro pre k acc hok hk ha hb
    obtain ⟨k, rfl⟩ := some_k (show 0 < k by omega)
    have hs : (tk s).ok := hok.2 s (by simp)
    have hw := Hm.work_le hs h0
    have hlen := hok.1
    simp only [List.length_append, List.length_cons] at hlen hk
    have hc : (tk s).c = s.f1 := rfl
    rw [hc] at hw
    have i1 : ((pre ++ s :: suf).length : Int) = (pre.length : Int) + ((suf.length : Int) + 1) := by simp
    have i2 := ih (pre ++ [s]) k (acc + s.f1 * Hm.many (tk s) x) (by simpa using hok) (by omega) (by omega) (by simp only [List.length_append, List.length_singleton]; omega)
    simp only [List.append_assoc, List.cons_append, List.nil_append] at i2
    rw [show ((pre ++ [s]).length : Int) = (pre.length : Int) + 1 from by simp] at i2
    simp only [horariumref10_Of.l0]
    rw [if_pos (by omega), if_pos trivial, if_pos (by omega), rd_mid, rOne_yes hs h0 h1]
    simp only [Option.bind_some]
    rw [w64 (n := acc + s.f1 * Hm.many (tk s) x) (by omega) (by omega), w64 (n := (pre.length : Int) + 1) (by omega) (by omega), i2]
    simp only [List.map_cons, Hm.of, hc]
    congr 1; omega
theorem rOf_yes {l : List S84} {x : Int} (k : Nat) (h : okL l) (h0 : 0 ≤ x) (h1 : x ≤ 1099511627776) (hk : 18 < k) : horariumref10_Of.f k l x = some (Hm.of (l.map tk) x) := by
  unfold horariumref10_Of.f
  have hl := h.1
  have := rof_loop h0 h1 l [] k 0 (by simpa using h) (by omega) (by omega) (by simp)
  rw [rrow_yes k h (by omega)]
  simp only [Option.bind_some]
  simpa using this
theorem rmiss_none {l : List S84} (hok : okL l) {P a b : Int} (hP : P ≤ 1048576) (d : Nat) : ∀ (k : Nat) (t : Int), t + d = P + 1 → 1 ≤ t → d + 40 < k → (∀ y, t ≤ y → y ≤ P → Hm.of (l.map tk) y ≤ y) →
    horariumref12_Miss.l0 k l t a P b = some (0, 0) := by
  have hlen := hok.1
  induction d with
  | zero =>
    intro k t hd h1 hk hy
    obtain ⟨k, rfl⟩ := some_k (show 0 < k by omega)
    simp only [horariumref12_Miss.l0]
    rw [if_neg (by omega)]
  | succ d ih =>
    intro k t hd h1 hk hy
    obtain ⟨k, rfl⟩ := some_k (show 0 < k by omega)
    have := hy t (Int.le_refl _) (by omega)
    simp only [horariumref12_Miss.l0]
    rw [if_pos (by omega), rOf_yes k hok (by omega) (by omega) (by omega)]
    simp only [Option.bind_some]
    rw [if_neg (by omega), w64 (by omega) (by omega)]
    exact ih k (t + 1) (by omega) (by omega) (by omega) (fun y h2 h3 => hy y (by omega) h3)
theorem rmiss_at {l : List S84} (hok : okL l) {P a b m : Int} (hP : P ≤ 1048576) (hm : m ≤ P) (hx : m < Hm.of (l.map tk) m) (d : Nat) : ∀ (k : Nat) (t : Int), t + d = m → 1 ≤ t → d + 40 < k → (∀ y, t ≤ y → y < m → Hm.of (l.map tk) y ≤ y) →
    horariumref12_Miss.l0 k l t a P b = some (m, 0) := by
  have hlen := hok.1
  induction d with
  | zero =>
    intro k t hd h1 hk hy
    obtain ⟨k, rfl⟩ := some_k (show 0 < k by omega)
    have : t = m := by omega
    subst this
    simp only [horariumref12_Miss.l0]
    rw [if_pos (by omega), rOf_yes k hok (by omega) (by omega) (by omega)]
    simp only [Option.bind_some]
    rw [if_pos (by omega)]
  | succ d ih =>
    intro k t hd h1 hk hy
    obtain ⟨k, rfl⟩ := some_k (show 0 < k by omega)
    have := hy t (Int.le_refl _) (by omega)
    simp only [horariumref12_Miss.l0]
    rw [if_pos (by omega), rOf_yes k hok (by omega) (by omega) (by omega)]
    simp only [Option.bind_some]
    rw [if_neg (by omega), w64 (by omega) (by omega)]
    exact ih k (t + 1) (by omega) (by omega) (by omega) (fun y h2 h3 => hy y (by omega) h3)
theorem first_int {p : Int → Prop} : ∀ (n : Nat) (y : Int), 1 ≤ y → y.toNat ≤ n → p y → ∃ m, 1 ≤ m ∧ m ≤ y ∧ p m ∧ ∀ z, 1 ≤ z → z < m → ¬ p z := by
  intro n
  induction n with
  | zero => intro y h1 h2; omega
  | succ n ih =>
    intro y h1 h2 hp
    by_cases h : ∃ z, 1 ≤ z ∧ z < y ∧ p z
    · obtain ⟨z, z1, z2, z3⟩ := h
      obtain ⟨m, m1, m2, m3, m4⟩ := ih z z1 (by omega) z3
      exact ⟨m, m1, by omega, m3, m4⟩
    · exact ⟨y, h1, Int.le_refl _, hp, fun z z1 z2 z3 => h ⟨z, z1, z2, z3⟩⟩
/-- Tasks fit, up to their period. -/
def fitP (l : List S84) : Prop := Hm.loadN (l.map tk) (Hm.per (l.map tk) : Int) ≤ (Hm.per (l.map tk) : Int) ∧ ∀ y, 1 ≤ y → y ≤ (Hm.per (l.map tk) : Int) → Hm.of (l.map tk) y ≤ y
theorem rTestR {l : List S84} (hok : okL l) (hp : Hm.per (l.map tk) ≤ 1048576) (k : Nat) (hk : 2151000000 < k) : (fitP l → horariumref12_Test.f k l = some 0) ∧ (¬ fitP l → horariumref12_Test.f k l = some 17) := by
  have hpos := Hm.per_pos (okL_map hok)
  obtain ⟨q, rfl⟩ := some_k (show 0 < k by omega)
  refine ⟨fun h => ?_, fun h => ?_⟩
  · unfold horariumref12_Test.f
    rw [rLoad_ok _ hok (by omega) hp]; simp only [Option.bind_some, if_true]
    have hm : horariumref12_Miss.f (q + 1) l = some (0, 0) := by
      unfold horariumref12_Miss.f
      rw [rLoad_ok _ hok (by omega) hp]; simp only [Option.bind_some, if_true]
      simp only [horariumref12_Miss.j0]
      have := h.1
      rw [if_neg (by simp; omega)]
      exact rmiss_none hok (by omega) (Hm.per (l.map tk)) q 1 (by omega) (by omega) (by omega) (fun y h1 h2 => h.2 y h1 h2)
    rw [hm]; simp only [Option.bind_some]
    have := h.1
    rw [if_neg (by omega), if_neg (by omega)]
  · unfold horariumref12_Test.f
    rw [rLoad_ok _ hok (by omega) hp]; simp only [Option.bind_some, if_true]
    by_cases hf : Hm.loadN (l.map tk) (Hm.per (l.map tk) : Int) ≤ (Hm.per (l.map tk) : Int)
    · have h3 : ∃ y, 1 ≤ y ∧ y ≤ (Hm.per (l.map tk) : Int) ∧ y < Hm.of (l.map tk) y := by
        refine Classical.byContradiction fun hn => h ⟨hf, fun y h4 h5 => ?_⟩
        refine Classical.byContradiction fun h6 => hn ⟨y, h4, h5, by omega⟩
      obtain ⟨y, y1, y2, y3⟩ := h3
      obtain ⟨m, m1, m2, m3, m4⟩ := first_int (p := fun y => y < Hm.of (l.map tk) y) y.toNat y y1 (Nat.le_refl _) y3
      have hm : horariumref12_Miss.f (q + 1) l = some (m, 0) := by
        unfold horariumref12_Miss.f
        rw [rLoad_ok _ hok (by omega) hp]; simp only [Option.bind_some, if_true]
        simp only [horariumref12_Miss.j0]
        rw [if_neg (by simp; omega)]
        exact rmiss_at hok (by omega) (by omega) m3 (m - 1).toNat q 1 (by omega) (by omega) (by omega) (fun z z1 z2 => Int.not_lt.1 (m4 z z1 z2))
      rw [hm]; simp only [Option.bind_some]
      rw [if_neg (by omega), if_pos (by omega)]
    · have hm : horariumref12_Miss.f (q + 1) l = some (0, 0) := by
        unfold horariumref12_Miss.f
        rw [rLoad_ok _ hok (by omega) hp]; simp only [Option.bind_some, if_true]
        simp only [horariumref12_Miss.j0]
        rw [if_pos (by simp; omega)]
      rw [hm]; simp only [Option.bind_some]
      rw [if_pos (by omega)]
theorem fitP_all {l : List S84} (hok : okL l) (h : fitP l) : ∀ y, 0 ≤ y → Hm.of (l.map tk) y ≤ y := by
  have hpos := Hm.per_pos (okL_map hok)
  have hw := Hm.work_load (okL_map hok) (p := (Hm.per (l.map tk) : Int)) (fun t ht => Hm.per_dvd (okL_map hok) ht)
  exact fun y hy => Hm.fits_le (okL_map hok) (L := (Hm.per (l.map tk) : Int)) (by omega) (by rw [hw]; exact h.1) (fun z h1 h2 => h.2 z h1 (by omega)) y.toNat y (Nat.le_refl _) hy
/-- The job of a task's state. -/
def jobOf (x : Hm.X) : S65 := ⟨x.t.id, x.rel, x.due, x.left⟩
/-- The executive's jobs are those of which something is left. -/
def RepX (L : List S65) (xs : List Hm.X) : Prop := ∀ j, j ∈ L ↔ ∃ x ∈ xs, 0 < x.left ∧ j = jobOf x
def idX (xs : List Hm.X) : List Int := xs.map (fun x => x.t.id)
theorem idX_one {xs : List Hm.X} (h : (idX xs).Nodup) : ∀ x ∈ xs, ∀ z ∈ xs, x.t.id = z.t.id → x = z := by
  induction xs with
  | nil => intro x hx; cases hx
  | cons u xs ih =>
    unfold idX at h
    rw [List.map_cons, List.nodup_cons] at h
    intro x hx z hz e
    rcases List.mem_cons.1 hx with hx' | hx'
    · rcases List.mem_cons.1 hz with hz' | hz'
      · exact hx'.trans hz'.symm
      · exact absurd (List.mem_map.2 ⟨z, hz', by rw [← e, hx']⟩) h.1
    · rcases List.mem_cons.1 hz with hz' | hz'
      · exact absurd (List.mem_map.2 ⟨x, hx', by rw [e, hz']⟩) h.1
      · exact ih h.2 x hx' z hz' e
theorem idJ_head {y : S65} {R : List S65} (h : (ids (y :: R)).Nodup) : ∀ z ∈ R, z.f0 ≠ y.f0 := fun z hz e => by
  unfold ids at h
  rw [List.map_cons, List.nodup_cons] at h
  exact h.1 (List.mem_map.2 ⟨z, hz, e⟩)
theorem rep_late {L : List S65} {xs : List Hm.X} {now : Int} (h : RepX L xs) (hn : ¬ Hm.lateX now xs) : lateL now L = [] := by
  cases L with
  | nil => rfl
  | cons y L =>
    unfold lateL
    rw [List.takeWhile_cons, if_neg]
    intro hy
    simp only [decide_eq_true_eq] at hy
    obtain ⟨x, hx, h1, h2⟩ := (h y).1 List.mem_cons_self
    exact hn ⟨x, hx, h1, by rw [h2] at hy; exact hy⟩
theorem rep_none {L : List S65} {a b : List Hm.X} {x : Hm.X} (h : RepX L (a ++ x :: b)) (hi : (idX (a ++ x :: b)).Nodup) (h0 : x.left = 0) : x.t.id ∉ ids L := by
  intro hm
  obtain ⟨j, hj, e⟩ := List.mem_map.1 hm
  obtain ⟨z, hz, z1, z2⟩ := (h j).1 hj
  have e2 : z.t.id = x.t.id := by rw [← e, z2]; rfl
  have := idX_one hi z hz x (by simp) e2
  rw [this, h0] at z1
  omega
theorem rep_release {L : List S65} {a b : List Hm.X} {x x' : Hm.X} (h : RepX L (a ++ x :: b)) (h0 : x.left = 0) (h1 : 0 < x'.left) : RepX (Hg.insG jlt (jobOf x') L) (a ++ x' :: b) := by
  intro j
  rw [(Hg.insG_perm jlt (jobOf x') L).mem_iff, List.mem_cons, h j]
  constructor
  · rintro (rfl | ⟨z, hz, z1, z2⟩)
    · exact ⟨x', by simp, h1, rfl⟩
    · rcases List.mem_append.1 hz with hz | hz
      · exact ⟨z, by simp [hz], z1, z2⟩
      · rcases List.mem_cons.1 hz with rfl | hz
        · omega
        · exact ⟨z, by simp [hz], z1, z2⟩
  · rintro ⟨z, hz, z1, z2⟩
    rcases List.mem_append.1 hz with hz | hz
    · exact Or.inr ⟨z, by simp [hz], z1, z2⟩
    · rcases List.mem_cons.1 hz with rfl | hz
      · exact Or.inl z2
      · exact Or.inr ⟨z, by simp [hz], z1, z2⟩
theorem rep_idle {xs : List Hm.X} (h : RepX [] xs) : Hm.DoesX xs xs := Or.inl ⟨rfl, fun x hx h0 => by have := (h (jobOf x)).2 ⟨x, hx, h0, rfl⟩; cases this⟩
theorem rep_run {y : S65} {R : List S65} {xs : List Hm.X} (h : RepX (y :: R) xs) (hi : (idX xs).Nodup) (hs : Hg.SrtG jlt (y :: R)) (hn : (ids (y :: R)).Nodup) :
    ∃ a x b, xs = a ++ x :: b ∧ y = jobOf x ∧ 0 < x.left ∧ Hm.DoesX xs (a ++ ⟨x.t, x.rel, x.left - 1, x.due, x.next⟩ :: b) ∧ (y.f3 = 1 → RepX R (a ++ ⟨x.t, x.rel, x.left - 1, x.due, x.next⟩ :: b)) ∧ (1 < y.f3 → RepX (⟨y.f0, y.f1, y.f2, y.f3 - 1⟩ :: R) (a ++ ⟨x.t, x.rel, x.left - 1, x.due, x.next⟩ :: b)) := by
  obtain ⟨x, hx, h1, h2⟩ := (h y).1 List.mem_cons_self
  obtain ⟨a, b, rfl⟩ := List.append_of_mem hx
  have hne : ∀ z, z ∈ a ∨ z ∈ b → z.t.id ≠ x.t.id := by
    intro z hz e
    unfold idX at hi
    rw [List.map_append, List.map_cons, List.nodup_append] at hi
    obtain ⟨_, i2, i3⟩ := hi
    rw [List.nodup_cons] at i2
    rcases hz with hz | hz
    · exact i3 _ (List.mem_map.2 ⟨z, hz, rfl⟩) _ List.mem_cons_self e
    · exact i2.1 (List.mem_map.2 ⟨z, hz, e⟩)
  have hR : ∀ j, j ∈ R ↔ ∃ z, (z ∈ a ∨ z ∈ b) ∧ 0 < z.left ∧ j = jobOf z := by
    intro j
    constructor
    · intro hj
      obtain ⟨z, hz, z1, z2⟩ := (h j).1 (List.mem_cons_of_mem _ hj)
      have hjy := idJ_head hn j hj
      rcases List.mem_append.1 hz with hz | hz
      · exact ⟨z, Or.inl hz, z1, z2⟩
      · rcases List.mem_cons.1 hz with rfl | hz
        · rw [h2, z2] at hjy; exact absurd rfl hjy
        · exact ⟨z, Or.inr hz, z1, z2⟩
    · rintro ⟨z, hz, z1, z2⟩
      have hm : j ∈ y :: R := (h j).2 ⟨z, by rcases hz with hz | hz <;> simp [hz], z1, z2⟩
      rcases List.mem_cons.1 hm with e | hm
      · have := hne z hz
        rw [e, h2] at z2
        exact absurd (congrArg S65.f0 z2).symm this
      · exact hm
  refine ⟨a, x, b, rfl, h2, h1, Or.inr ⟨a, x, b, rfl, rfl, h1, fun z hz hz0 => ?_⟩, fun hd => ?_, fun hd => ?_⟩
  · have hm : jobOf z ∈ y :: R := (h (jobOf z)).2 ⟨z, hz, hz0, rfl⟩
    have e1 : y.f2 = x.due := by rw [h2]; rfl
    rcases List.mem_cons.1 hm with e | hm
    · rw [← e] at e1; exact Int.le_of_eq e1.symm
    · have := (List.pairwise_cons.1 hs).1 _ hm
      unfold jlt at this
      have := of_decide_eq_false this
      have e3 : (jobOf z).f2 = z.due := rfl
      omega
  · intro j
    have hl : x.left = 1 := by rw [h2] at hd; exact hd
    rw [hR j]
    constructor
    · rintro ⟨z, hz, z1, z2⟩
      exact ⟨z, by rcases hz with hz | hz <;> simp [hz], z1, z2⟩
    · rintro ⟨z, hz, z1, z2⟩
      rcases List.mem_append.1 hz with hz | hz
      · exact ⟨z, Or.inl hz, z1, z2⟩
      · rcases List.mem_cons.1 hz with rfl | hz
        · simp only at z1; omega
        · exact ⟨z, Or.inr hz, z1, z2⟩
  · intro j
    have e3 : y.f3 = x.left := by rw [h2]; rfl
    rw [List.mem_cons, hR j]
    have ej : (⟨y.f0, y.f1, y.f2, y.f3 - 1⟩ : S65) = jobOf ⟨x.t, x.rel, x.left - 1, x.due, x.next⟩ := by rw [h2]; rfl
    rw [ej]
    constructor
    · rintro (rfl | ⟨z, hz, z1, z2⟩)
      · exact ⟨_, by simp, by simp only; omega, rfl⟩
      · exact ⟨z, by rcases hz with hz | hz <;> simp [hz], z1, z2⟩
    · rintro ⟨z, hz, z1, z2⟩
      rcases List.mem_append.1 hz with hz | hz
      · exact Or.inr ⟨z, Or.inl hz, z1, z2⟩
      · rcases List.mem_cons.1 hz with rfl | hz
        · exact Or.inl z2
        · exact Or.inr ⟨z, Or.inr hz, z1, z2⟩
/-- Six numbers in a block. -/
def arr6 (f : Nat → Int) : Array Value := ((List.range 6).map (fun i => Value.int .i64 (f i))).toArray
theorem arr6_get (f : Nat → Int) {k : Nat} (h : k < 6) : (arr6 f)[k]? = some (.int .i64 (f k)) := by unfold arr6; simp [h]
def upd (f : Nat → Int) (q : Nat) (v : Int) : Nat → Int := fun i => if i = q then v else f i
theorem arr6_set (f : Nat → Int) {q : Nat} (h : q < 6) (v : Int) : (arr6 f).setIfInBounds q (.int .i64 v) = arr6 (upd f q v) := by
  apply Array.ext'
  unfold arr6 upd
  rw [Array.toList_setIfInBounds]
  apply List.ext_getElem?
  intro i
  rw [List.getElem?_set]
  by_cases e : q = i
  · subst e; simp [h]
  · have e2 : ¬ i = q := fun x => e x.symm
    simp [e, e2]
    by_cases h8 : i < 6
    · simp [h8, e2]
    · simp [h8]
/-- The next releases, as they stand in the block. -/
def nx (xs : List Hm.X) : Nat → Int := fun i => (xs.map (fun x => x.next)).getD i 0
theorem nx_at {a b : List Hm.X} {x : Hm.X} : nx (a ++ x :: b) a.length = x.next := by unfold nx; simp
theorem nx_set {a b : List Hm.X} {x x' : Hm.X} : upd (nx (a ++ x :: b)) a.length x'.next = nx (a ++ x' :: b) := by
  funext i
  unfold upd nx
  by_cases h : i = a.length
  · subst h; simp
  · rw [if_neg h]
    simp only [List.map_append, List.map_cons, List.getD_eq_getElem?_getD]
    by_cases h2 : i < a.length
    · rw [List.getElem?_append_left (by simpa using h2), List.getElem?_append_left (by simpa using h2)]
    · rw [List.getElem?_append_right (by simp; omega), List.getElem?_append_right (by simp; omega)]
      obtain ⟨d, hd⟩ : ∃ d, i - (a.map (fun x : Hm.X => x.next)).length = d + 1 := ⟨i - a.length - 1, by simp; omega⟩
      rw [hd]; simp
theorem split_at {xs : List Hm.X} {i : Nat} (h : i < xs.length) : ∃ a x b, xs = a ++ x :: b ∧ a.length = i :=
  ⟨xs.take i, xs[i], xs.drop (i + 1), by rw [List.getElem_cons_drop]; exact (List.take_append_drop i xs).symm, by simp; omega⟩
def per8 (q : Nat) : Int := ([2, 3, 4, 5, 6, 8, 10, 12] : List Int).getD q 0
theorem per8_rng {q : Nat} (h : q < 8) : 2 ≤ per8 q ∧ per8 q ≤ 12 ∧ per8 q ∣ 120 := by
  have : q = 0 ∨ q = 1 ∨ q = 2 ∨ q = 3 ∨ q = 4 ∨ q = 5 ∨ q = 6 ∨ q = 7 := by omega
  rcases this with rfl | rfl | rfl | rfl | rfl | rfl | rfl | rfl <;> decide
def pers : Array Value := #[.int .i64 2, .int .i64 3, .int .i64 4, .int .i64 5, .int .i64 6, .int .i64 8, .int .i64 10, .int .i64 12]
theorem pers_at {q : Nat} (h : q < 8) : pers[q]? = some (.int .i64 (per8 q)) := by
  have : q = 0 ∨ q = 1 ∨ q = 2 ∨ q = 3 ∨ q = 4 ∨ q = 5 ∨ q = 6 ∨ q = 7 := by omega
  rcases this with rfl | rfl | rfl | rfl | rfl | rfl | rfl | rfl <;> rfl
/-- Tasks by numbers, that fit: the first j numbers are told. -/
def MeetT (j : Nat) (T : List S84) : Prop := T.length ≤ j ∧ (T.map (fun s => s.f0)).Nodup ∧ (∀ s ∈ T, 0 ≤ s.f0 ∧ s.f0 < (j : Int) ∧ 1 ≤ s.f1 ∧ s.f1 ≤ s.f2 ∧ s.f2 ≤ s.f3 ∧ s.f3 ≤ 12 ∧ s.f3 ∣ 120 ∧ s.f4 = 1) ∧ fitP T
theorem meetT_ok {j : Nat} {T : List S84} (h1 : T.length ≤ 16) (h : ∀ s ∈ T, 0 ≤ s.f0 ∧ s.f0 < (j : Int) ∧ 1 ≤ s.f1 ∧ s.f1 ≤ s.f2 ∧ s.f2 ≤ s.f3 ∧ s.f3 ≤ 12 ∧ s.f3 ∣ 120 ∧ s.f4 = 1) (hj : j ≤ 16) : okL T :=
  ⟨h1, fun s hs => by obtain ⟨a1, a2, a3, a4, a5, a6, a7, a8⟩ := h s hs; unfold Hm.Tk.ok tk; simp only; omega⟩
theorem per_120 {T : List S84} (hok : okL T) (h : ∀ s ∈ T, s.f3 ∣ 120) : Hm.per (T.map tk) ≤ 1048576 := by
  have := Hm.per_least (okL_map hok) (n := 120) (fun t ht => by obtain ⟨s, hs, rfl⟩ := List.mem_map.1 ht; exact h s hs)
  have := Nat.le_of_dvd (by omega) this
  omega
theorem fitP_nil : fitP [] := by
  unfold fitP
  refine ⟨?_, fun y h1 _ => ?_⟩
  · simp [Hm.loadN]
  · simp [Hm.of]; omega
theorem meetT_nil : MeetT 0 [] := ⟨Nat.le_refl _, List.nodup_nil, (fun s hs => by cases hs), fitP_nil⟩
theorem meetT_more {j : Nat} {T : List S84} (h : MeetT j T) : MeetT (j + 1) T := ⟨by have := h.1; omega, h.2.1, fun s hs => by obtain ⟨a1, a2, a3⟩ := h.2.2.1 s hs; exact ⟨a1, by omega, a3⟩, h.2.2.2⟩
theorem meetT_snoc {j : Nat} {T : List S84} {c d p : Int} (h : MeetT j T) (h1 : 1 ≤ c) (h2 : c ≤ d) (h3 : d ≤ p) (h4 : p ≤ 12) (h5 : p ∣ 120) (hf : fitP (T ++ [⟨(j : Int), c, d, p, 1⟩])) : MeetT (j + 1) (T ++ [⟨(j : Int), c, d, p, 1⟩]) := by
  refine ⟨by have := h.1; simp; omega, ?_, fun s hs => ?_, hf⟩
  · rw [List.map_append, List.nodup_append]
    refine ⟨h.2.1, by simp, fun a ha b hb => ?_⟩
    obtain ⟨s, hs, rfl⟩ := List.mem_map.1 ha
    have := (h.2.2.1 s hs).2.1
    simp only [List.map_cons, List.map_nil, List.mem_singleton] at hb
    omega
  · rcases List.mem_append.1 hs with hs | hs
    · obtain ⟨a1, a2, a3⟩ := h.2.2.1 s hs; exact ⟨a1, by omega, a3⟩
    · rw [List.mem_singleton.1 hs]
      exact ⟨by simp only; omega, by simp only; omega, h1, h2, h3, h4, h5, rfl⟩
theorem rem_rng (a : Int) {m : Int} (h : 1 ≤ m) (hm : m ≤ 24) : -24 < Int.tmod a m ∧ Int.tmod a m < 24 ∧ 0 < Int.tmod a m + m ∧ Int.tmod a m + m ≤ 48 ∧ 0 ≤ (Int.tmod a m + m) % m ∧ (Int.tmod a m + m) % m < m ∧ Int.tmod (Int.tmod a m + m) m = (Int.tmod a m + m) % m := by
  have h1 := tmod_rng a (show 0 < m by omega)
  have h2 := Int.emod_nonneg (Int.tmod a m + m) (show m ≠ 0 by omega)
  have h3 := Int.emod_lt_of_pos (Int.tmod a m + m) (show 0 < m by omega)
  exact ⟨by omega, by omega, by omega, by omega, h2, h3, Int.tmod_eq_emod_of_nonneg (by omega)⟩
theorem town_nil (W : World) : Kd.R k84 84 (W.alloc (.cells #[] 84)) W.heap.size (fun _ => True) (.slice (some ⟨W.heap.size, 0, none⟩) 0 0) [] :=
  ⟨fun _ _ => trivial, [], ⟨by simp, .inr ⟨W.heap.size, 0, #[], rfl, Nat.le_refl _, heap_alloc_new W _, Nat.le_refl _, Nat.zero_le _, rfl, rfl⟩⟩, Reps.none _ _⟩
theorem tone_C (W : World) (s : S84) : Kd.C k84 (W.alloc (.cells #[.int .i64 s.f0, .int .i64 s.f1, .int .i64 s.f2, .int .i64 s.f3, .int .i64 s.f4] 84)) (some ⟨W.heap.size, 0, none⟩) 1 [s] := by
  refine ⟨rfl, by omega, fun _ => ⟨⟨W.heap.size, 0, none⟩, rfl, fun j p hj => ?_⟩⟩
  obtain ⟨hj1, rfl⟩ := List.getElem?_eq_some_iff.1 hj
  have hj0 : j = 0 := by simpa using hj1
  subst hj0
  refine ⟨[.int .i64 s.f0, .int .i64 s.f1, .int .i64 s.f2, .int .i64 s.f3, .int .i64 s.f4], rfl, k84_mk _ _, fun i u hu => ?_⟩
  have e : (⟨W.heap.size, 0, none⟩ : Addr).add (0 * k84.sz + i) = ⟨W.heap.size, i, none⟩ := by unfold Addr.add; split <;> simp_all
  rw [e]
  exact (blk_cell (heap_alloc_new W _) i).trans (by simpa using hu)
theorem C_move {w w' : World} {n : Nat} {l : List S84} {b : Nat} {row : Option Nat} (h : Kd.C k84 w (some ⟨b, 0, none⟩) n l) (hl : b < w.heap.size) (hg : w.grownBy w' row) (hne : some b ≠ row) : Kd.C k84 w' (some ⟨b, 0, none⟩) n l := by
  refine ⟨h.1, h.2.1, fun hn => ?_⟩
  obtain ⟨ad, e, hc⟩ := h.2.2 hn
  cases e
  refine ⟨_, rfl, fun j p hj => ?_⟩
  obtain ⟨c, c1, c2, c3⟩ := hc j p hj
  obtain rfl := k84_open c2
  refine ⟨_, rfl, k84_mk _ _, fun i u hu => ?_⟩
  have h3 := c3 i u hu
  refine hg.cell h3 ?_
  have e : ∀ x, ((⟨b, 0, none⟩ : Addr).add x).block = b := fun x => by unfold Addr.add; split <;> rfl
  rw [e]; exact hne
theorem ExP.setM {w : World} {x h k t : Nat} {L : List S65} {cs : Array Value} (e : ExP w x h L) (hk : w.heap[k]? = some (.cells cs t (0, 0))) (h1 : t ≠ 127) (h2 : t ≠ 143) (h3 : t ≠ 148) (j : Nat) (v : Value) : ExP (w.setCell ⟨k, j, none⟩ v) x h L :=
  e.grown (PxR.grown_set w ⟨k, j, none⟩ v) (fun q => by cases q; have := e.1; rw [hk] at this; injection this with this; injection this with _ this; exact h1 this) (fun q => by cases q; exact e.2.ne hk h2 rfl) (fun r cs q a => by cases q; rw [hk] at a; injection a with a; injection a with _ a; exact h3 a)
theorem blk_put6 {w : World} {g t : Nat} {f : Nat → Int} (h : w.heap[g]? = some (.cells (arr6 f) t (0, 0))) {k : Nat} (hk : k < 6) (v : Int) : (w.setCell ⟨g, k, none⟩ (.int .i64 v)).heap[g]? = some (.cells (arr6 (upd f k v)) t (0, 0)) := blk_put h k _ (arr6_set f hk v)
theorem ids_ins {y : S65} {L : List S65} (h : (ids L).Nodup) (hi : y.f0 ∉ ids L) : (ids (Hg.insG jlt y L)).Nodup := by
  have hp := (Hg.insG_perm jlt y L).map (fun z : S65 => z.f0)
  have h2 : (ids (y :: L)).Nodup := List.nodup_cons.2 ⟨hi, h⟩
  exact hp.nodup_iff.2 h2
/-- The tasks, the time, the tasks told this slot, the releases, the tasks' states and the executive's jobs. -/
structure MeetS (T : List S84) (t i n : Nat) (xs : List Hm.X) (L : List S65) : Prop where
  ts : xs.map Hm.X.t = T.map tk
  inv : Hm.Inv (t : Int) xs
  past : ∀ p x, p < i → xs[p]? = some x → (t : Int) < x.next
  rep : RepX L xs
  len : L.length ≤ n
  nd : (ids L).Nodup
  lo : ∀ x ∈ xs, x.left ≤ 12
theorem MeetS.idx {j : Nat} {T : List S84} {t i n : Nat} {xs : List Hm.X} {L : List S65} (h : MeetS T t i n xs L) (hm : MeetT j T) : (idX xs).Nodup := by
  have e : idX xs = T.map (fun s => s.f0) := by
    have e1 : idX xs = (xs.map Hm.X.t).map Hm.Tk.id := by unfold idX; rw [List.map_map]; rfl
    rw [e1, h.ts, List.map_map]; rfl
  rw [e]; exact hm.2.1
theorem MeetS.start {j : Nat} {T : List S84} (hm : MeetT j T) (hj : j ≤ 16) : MeetS T 0 0 0 (T.map (fun s => ⟨tk s, 0, 0, 0, 0⟩)) [] := by
  have hok : okL T := meetT_ok (Nat.le_trans hm.1 hj) hm.2.2.1 hj
  have e : (T.map (fun s => (⟨tk s, 0, 0, 0, 0⟩ : Hm.X))).map Hm.X.t = T.map tk := by rw [List.map_map]; rfl
  refine ⟨e, ?_, fun p x hp => by omega, ?_, Nat.le_refl _, List.nodup_nil, ?_⟩
  · refine Hm.Inv.start (fun x hx => ?_) (fun x hx => ?_) ?_
    · obtain ⟨s, _, rfl⟩ := List.mem_map.1 hx; rfl
    · obtain ⟨s, hs, rfl⟩ := List.mem_map.1 hx; exact hok.2 s hs
    · rw [e]; exact fitP_all hok hm.2.2.2
  · intro y
    constructor
    · intro h; cases h
    · rintro ⟨x, hx, h0, _⟩
      obtain ⟨s, _, rfl⟩ := List.mem_map.1 hx
      simp only at h0; omega
  · intro x hx; obtain ⟨s, _, rfl⟩ := List.mem_map.1 hx; simp only; omega
theorem nx_start (T : List S84) : nx (T.map (fun s => (⟨tk s, 0, 0, 0, 0⟩ : Hm.X))) = fun _ => 0 := by
  funext i
  unfold nx
  rw [List.map_map, List.getD_eq_getElem?_getD, List.getElem?_map]
  cases T[i]? <;> rfl
theorem MeetS.late {T : List S84} {t i n : Nat} {xs : List Hm.X} {L : List S65} (h : MeetS T t i n xs L) : lateL (t : Int) L = [] := rep_late h.rep h.inv.not_late
theorem MeetS.skip {T : List S84} {t i n : Nat} {xs : List Hm.X} {L : List S65} (h : MeetS T t i n xs L) (hi : i < T.length) (hn : (t : Int) < nx xs i) : MeetS T t (i + 1) n xs L := by
  refine ⟨h.ts, h.inv, fun p x hp hx => ?_, h.rep, h.len, h.nd, h.lo⟩
  rcases Nat.lt_succ_iff_lt_or_eq.1 hp with hp | rfl
  · exact h.past p x hp hx
  · unfold nx at hn
    rw [List.getD_eq_getElem?_getD, List.getElem?_map, hx] at hn
    exact hn
theorem MeetS.release {j : Nat} {T : List S84} {t i n : Nat} {xs : List Hm.X} {L : List S65} {s : S84} {c wait : Int} (h : MeetS T t i n xs L) (hm : MeetT j T) (hs : T[i]? = some s) (ht : t ≤ 100) (hn : nx xs i ≤ (t : Int)) (hc0 : 1 ≤ c) (hc : c ≤ s.f1) (hw : 0 ≤ wait) :
    s.f0 ∉ ids L ∧ jmay ⟨s.f0, (t : Int), (t : Int) + s.f2, c⟩ = true ∧ ∃ xs', MeetS T t (i + 1) (n + 1) xs' (Hg.insG jlt ⟨s.f0, (t : Int), (t : Int) + s.f2, c⟩ L) ∧ upd (nx xs) i ((t : Int) + s.f3 + wait) = nx xs' := by
  have hlen : xs.length = T.length := by have := congrArg List.length h.ts; simpa using this
  obtain ⟨hi, _⟩ := List.getElem?_eq_some_iff.1 hs
  obtain ⟨a, x, b, rfl, rfl⟩ := split_at (xs := xs) (i := i) (by omega)
  have hx : x.t = tk s := by
    have := congrArg (fun l => l[a.length]?) h.ts
    simp only [List.getElem?_map, hs, Option.map_some] at this
    simpa using this
  obtain ⟨a1, a2, a3, a4, a5, a6, _, _⟩ := hm.2.2.1 s (List.mem_of_getElem? hs)
  rw [nx_at] at hn
  have h0 : x.left = 0 := h.inv.done (by simp) hn
  have hid := rep_none h.rep (h.idx hm) h0
  have hid2 : s.f0 ∉ ids L := by rw [hx] at hid; exact hid
  have e : jobOf ⟨x.t, (t : Int), c, (t : Int) + x.t.d, (t : Int) + x.t.t + wait⟩ = ⟨s.f0, (t : Int), (t : Int) + s.f2, c⟩ := by rw [hx]; rfl
  refine ⟨hid2, by unfold jmay; simp only [Bool.and_eq_true, decide_eq_true_eq]; omega, a ++ ⟨x.t, (t : Int), c, (t : Int) + x.t.d, (t : Int) + x.t.t + wait⟩ :: b, ⟨?_, ?_, ?_, ?_, ?_, ?_, ?_⟩, ?_⟩
  · have := h.ts; simpa using this
  · exact h.inv.release hn (by omega) (by rw [hx]; exact hc) hw
  · intro p z hp hz
    rcases Nat.lt_succ_iff_lt_or_eq.1 hp with hp | rfl
    · rw [List.getElem?_append_left hp] at hz
      exact h.past p z hp (by rw [List.getElem?_append_left hp]; exact hz)
    · rw [List.getElem?_append_right (Nat.le_refl _)] at hz
      simp only [Nat.sub_self, List.getElem?_cons_zero, Option.some.injEq] at hz
      rw [← hz, hx]
      show (t : Int) < (t : Int) + s.f3 + wait
      omega
  · have := rep_release (x' := ⟨x.t, (t : Int), c, (t : Int) + x.t.d, (t : Int) + x.t.t + wait⟩) h.rep h0 (by simp only; omega)
    rw [e] at this; exact this
  · rw [Hg.insG_len]; have := h.len; omega
  · exact ids_ins h.nd hid2
  · intro z hz
    rcases List.mem_append.1 hz with hz | hz
    · exact h.lo z (by simp [hz])
    · rcases List.mem_cons.1 hz with rfl | hz
      · simp only; omega
      · exact h.lo z (by simp [hz])
  · have := nx_set (a := a) (b := b) (x := x) (x' := ⟨x.t, (t : Int), c, (t : Int) + x.t.d, (t : Int) + x.t.t + wait⟩)
    rw [← this]
    simp only [hx]; rfl
theorem MeetS.all {T : List S84} {t n : Nat} {xs : List Hm.X} {L : List S65} (h : MeetS T t T.length n xs L) : ∀ x ∈ xs, (t : Int) < x.next := by
  intro x hx
  obtain ⟨p, hp, rfl⟩ := List.getElem_of_mem hx
  have hlen : xs.length = T.length := by have := congrArg List.length h.ts; simpa using this
  exact h.past p _ (by omega) (List.getElem?_eq_some_iff.2 ⟨hp, rfl⟩)
theorem MeetS.idle {T : List S84} {t n : Nat} {xs : List Hm.X} (h : MeetS T t T.length n xs []) : MeetS T (t + 1) 0 n xs [] :=
  ⟨h.ts, by have := h.inv.slot (rep_idle h.rep) h.all; exact_mod_cast this, fun p x hp => by omega, h.rep, h.len, h.nd, h.lo⟩
theorem MeetS.run {j : Nat} {T : List S84} {t n : Nat} {xs : List Hm.X} {y : S65} {R : List S65} (h : MeetS T t T.length n xs (y :: R)) (hm : MeetT j T) (hs : Hg.SrtG jlt (y :: R)) :
    1 ≤ y.f3 ∧ y.f3 ≤ 12 ∧ ∃ xs', nx xs' = nx xs ∧ (y.f3 = 1 → MeetS T (t + 1) 0 n xs' R) ∧ (1 < y.f3 → MeetS T (t + 1) 0 n xs' (⟨y.f0, y.f1, y.f2, y.f3 - 1⟩ :: R)) := by
  obtain ⟨a, x, b, rfl, hy, h0, hd, h1, h2⟩ := rep_run h.rep (h.idx hm) hs h.nd
  have e3 : y.f3 = x.left := by rw [hy]; rfl
  have hl := h.lo x (by simp)
  have hT : (a ++ ⟨x.t, x.rel, x.left - 1, x.due, x.next⟩ :: b).map Hm.X.t = T.map tk := by have := h.ts; simpa using this
  have hI : Hm.Inv ((t + 1 : Nat) : Int) (a ++ ⟨x.t, x.rel, x.left - 1, x.due, x.next⟩ :: b) := by have := h.inv.slot hd h.all; exact_mod_cast this
  have hL : ∀ z ∈ a ++ (⟨x.t, x.rel, x.left - 1, x.due, x.next⟩ : Hm.X) :: b, z.left ≤ 12 := by
    intro z hz
    rcases List.mem_append.1 hz with hz | hz
    · exact h.lo z (by simp [hz])
    · rcases List.mem_cons.1 hz with rfl | hz
      · simp only; omega
      · exact h.lo z (by simp [hz])
  have hn := h.len
  simp only [List.length_cons] at hn
  have hnd : (ids R).Nodup := (List.nodup_cons.1 h.nd).2
  refine ⟨by omega, by omega, _, ?_, fun e => ⟨hT, hI, fun p z hp => by omega, h1 e, by omega, hnd, hL⟩, fun e => ⟨hT, hI, fun p z hp => by omega, h2 e, by simp only [List.length_cons]; omega, h.nd, hL⟩⟩
  funext i; unfold nx; simp
-- horariumlaw18_awake horariumref12_Test
def meets.T10 : Bool × List (List Nat × List Nat) := (true, [([], []), ([], []), ([0, 1], [0, 1]), ([], []), ([3], [3]), ([2, 4, 2], [2, 4]), ([5, 5], [5]), ([6], [6])])
def meets.B10 : List Nat := [0, 0, 3, 0, 8, 31, 63, 127]
theorem meets.tab10 : rtab .any (opsOf Try.f13 10) = meets.T10 := by kernel_rfl
theorem meets.bits10 : waitsOk meets.T10.2 meets.B10 = true := by kernel_rfl
def meets.T33 : Bool × List (List Nat × List Nat) := (true, [([], []), ([], []), ([], []), ([1, 2], [1, 2]), ([3], [3]), ([4], [4]), ([], []), ([], []), ([], []), ([], []), ([8, 9], [8, 9]), ([10], [10]), ([11], [11]), ([7, 12], [7, 12]), ([], []), ([5, 6, 13, 14], [5, 6, 13, 14]), ([0, 15], [0, 15]), ([16], [16])])
def meets.B33 : List Nat := [0, 0, 0, 6, 14, 30, 0, 0, 0, 0, 768, 1792, 3840, 8064, 0, 32766, 65535, 131071]
theorem meets.tab33 : rtab .any (opsOf Try.f13 33) = meets.T33 := by kernel_rfl
theorem meets.bits33 : waitsOk meets.T33.2 meets.B33 = true := by kernel_rfl
def horariumlaw18_EdfMeets.f (l0 : List S82) (l1 l2 : List Int) : Option Bool := some true
set_option maxHeartbeats 8000000 in
set_option maxRecDepth 100000 in
theorem horariumlaw18_EdfMeets.calls (A0 : Option Addr) (c0 : Nat) (l0 : List S82) (A1 : Option Addr) (c1 : Nat) (l1 : List Int) (A2 : Option Addr) (c2 : Nat) (l2 : List Int) (r : Bool) (w : World) (hr0 : Kd.C k82 w A0 l0.length l0) (hc0 : l0.length ≤ c0) (hr1 : Kd.C (Kd.int .i64) w A1 l1.length l1) (hc1 : l1.length ≤ c1) (hr2 : Kd.C (Kd.int .i64) w A2 l2.length l2) (hc2 : l2.length ≤ c2) (h : horariumlaw18_EdfMeets.f l0 l1 l2 = some r) :
    Calls Try.prog 13 #[.slice A0 l0.length c0, .slice A1 l1.length c1, .slice A2 l2.length c2] w fun e w' => e = .returned (.bool r) ∧ Below w.heap.size w w' := by
  obtain rfl := Option.some.inj h
  have hmax : l0.length ≤ 9223372036854775807 := Kd.C_max hr0
  have hmax1 : l1.length ≤ 9223372036854775807 := Kd.C_max hr1
  have hmax2 : l2.length ≤ 9223372036854775807 := Kd.C_max hr2
  have HL0 := Lib.hid hr0
  have HL1 := Lib.hid hr1
  have HL2 := Lib.hid hr2
  clear hr0 hr1 hr2 h hc0 hc1 hc2
  go_enter Try.func13, Try.ntmps13
  go_upto_block 0 with (go_at_call 44; refine (awake18.calls _).mono ?_; rintro e w1 ⟨rfl, q1⟩; have HB := Lib.hid q1; clear q1)
  obtain ⟨Wp, hWp⟩ : ∃ W, w1.alloc (.cells #[.int .i64 2, .int .i64 3, .int .i64 4, .int .i64 5, .int .i64 6, .int .i64 8, .int .i64 10, .int .i64 12] 81) = W := ⟨_, rfl⟩
  have HP : Hid (Wp.heap[w1.heap.size]? = some (.cells pers 81 (0, 0))) := by rw [← hWp]; exact heap_alloc_new w1 _
  have HBS := Lib.hid HB.out.size
  replace HB : Hid (Below w.heap.size w Wp) := by rw [← hWp]; exact below_alloc HB.out _
  have HBP := Lib.hid (show w.heap.size ≤ w1.heap.size from HBS.out)
  rw [hWp]
  obtain ⟨bp, hbp⟩ : ∃ b, w1.heap.size = b := ⟨_, rfl⟩
  rw [hbp] at HP HBP ⊢
  clear hWp hbp
  go_cut [8] (fun s8 wx => ∃ (j : Nat) (T : List S84), j ≤ 6 ∧ Hid (MeetT j T) ∧ Hid (Kd.R k84 84 wx w.heap.size (fun _ => True) s8 T) ∧ Hid (Below w.heap.size w wx))
  case first =>
    go_wp2
    go_loopg [8, 10] 7 (fun k v8 v10 wr => ∃ (j : Nat) (T : List S84), v10 = .int .i64 (j : Int) ∧ j ≤ l0.length ∧ j ≤ 6 ∧ 6 - j < k ∧ Hid (MeetT j T) ∧ Hid (Kd.R k84 84 wr w.heap.size (fun _ => True) v8 T) ∧ Hid (wr.heap[bp]? = some (.cells pers 81 (0, 0))) ∧ Hid (Below w.heap.size w wr))
    case atStart => exact ⟨0, [], rfl, by omega, by omega, by omega, Lib.hid meetT_nil, Lib.hid (Kd.R_nil _ _ _ _ _), HP, HB⟩
    case round =>
      clear HP HB
      obtain ⟨j, T, rfl, hj, hj6, hk, HMT, HT, HP, HB⟩ := hrel
      by_cases hlt : j < l0.length
      · by_cases h6 : j < 6
        · have p0 : (0 : Int) ≤ (j : Int) := by omega
          have q0 : (j : Int) < (l0.length : Int) := by omega
          have q6 : (j : Int) < 6 := by omega
          obtain ⟨ad, e0, hx0, hx1, hx2⟩ := at_T82 HL0.out j p0 q0
          cases e0
          replace hx0 := (HB.out.cell (World.block_lt_of_cell? w _ hx0)).trans hx0
          replace hx1 := (HB.out.cell (World.block_lt_of_cell? w _ hx1)).trans hx1
          replace hx2 := (HB.out.cell (World.block_lt_of_cell? w _ hx2)).trans hx2
          simp only [Int.toNat_natCast] at hx0 hx1 hx2
          generalize hy : rd_T82 l0 (j : Int) = y at *
          clear hy
          obtain ⟨y0, y1, y2⟩ := y
          simp only at hx0 hx1 hx2
          have hand : Go.bits .and .i64 y2 7 = y2 % 8 := and_7 _
          obtain ⟨m, hm⟩ : ∃ m : Nat, y2 % 8 = (m : Int) := ⟨(y2 % 8).toNat, by omega⟩
          rw [hm] at hand
          have m8 : (m : Int) < 8 := by omega
          have m0 : (0 : Int) ≤ (m : Int) := by omega
          clear hm
          obtain ⟨g1, g2, g3⟩ := per8_rng (q := m) (by omega)
          have hper := (blk_cell HP.out m).trans (pers_at (by omega))
          generalize per8 m = p at g1 g2 g3 hper
          have HPD := Lib.hid g3
          clear g3
          obtain ⟨a1, a2, a3, a4, a5, a6, a7⟩ := rem_rng y1 (m := p) (by omega) (by omega)
          obtain ⟨r1, e1⟩ : ∃ r, Int.tmod y1 p = r := ⟨_, rfl⟩
          rw [e1] at a1 a2 a3 a4 a5 a6 a7
          obtain ⟨r2, e2⟩ : ∃ r, (r1 + p) % p = r := ⟨_, rfl⟩
          rw [e2] at a5 a6 a7
          obtain ⟨b1, b2, b3, b4, b5, b6, b7⟩ := rem_rng y0 (m := 1 + r2) (by omega) (by omega)
          obtain ⟨r3, e3⟩ : ∃ r, Int.tmod y0 (1 + r2) = r := ⟨_, rfl⟩
          rw [e3] at b1 b2 b3 b4 b5 b6 b7
          obtain ⟨r4, e4⟩ : ∃ r, (r3 + (1 + r2)) % (1 + r2) = r := ⟨_, rfl⟩
          rw [e4] at b5 b6 b7
          clear e2 e4
          have hok : okL (T ++ [(⟨(j : Int), 1 + r4, 1 + r2, p, 1⟩ : S84)]) := meetT_ok (by have := HMT.out.1; simp; omega) (fun s hs => by
            rcases List.mem_append.1 hs with hs | hs
            · obtain ⟨z1, z2, z3⟩ := HMT.out.2.2.1 s hs
              exact ⟨z1, (by omega : s.f0 < ((j + 1 : Nat) : Int)), z3⟩
            · rw [List.mem_singleton.1 hs]
              exact ⟨p0, (by simp only; omega), (by simp only; omega), (by simp only; omega), (by simp only; omega), (by simp only; omega), HPD.out, rfl⟩) (by omega)
          have hpr := per_120 hok (fun s hs => by
            rcases List.mem_append.1 hs with hs | hs
            · exact (HMT.out.2.2.1 s hs).2.2.2.2.2.2.1
            · rw [List.mem_singleton.1 hs]; exact HPD.out)
          obtain ⟨tv, HTV, HFT⟩ : ∃ tv : Int, Hid (horariumref12_Test.f 2151000001 (T ++ [(⟨(j : Int), 1 + r4, 1 + r2, p, 1⟩ : S84)]) = some tv) ∧ Hid ((tv = 0 ∧ MeetT (j + 1) (T ++ [(⟨(j : Int), 1 + r4, 1 + r2, p, 1⟩ : S84)])) ∨ tv = 17) := by
            obtain ⟨z1, z2⟩ := rTestR hok hpr 2151000001 (by omega)
            by_cases hf : fitP (T ++ [(⟨(j : Int), 1 + r4, 1 + r2, p, 1⟩ : S84)])
            · exact ⟨0, Lib.hid (z1 hf), Lib.hid (Or.inl ⟨rfl, meetT_snoc HMT.out (by omega) (by omega) (by omega) (by omega) HPD.out hf⟩)⟩
            · exact ⟨17, Lib.hid (z2 hf), Lib.hid (Or.inr rfl)⟩
          clear hok hpr
          go_wp2
          obtain ⟨W0, hW0⟩ : ∃ W, wr.alloc (.cells #[.int .i64 (j : Int), .int .i64 (1 + r4), .int .i64 (1 + r2), .int .i64 p, .int .i64 1] 84) = W := ⟨_, rfl⟩
          have HK : Hid (W0.drew.heap[wr.heap.size]? = some (Obj.cells #[.int .i64 (j : Int), .int .i64 (1 + r4), .int .i64 (1 + r2), .int .i64 p, .int .i64 1] 84 (0, 0))) := by rw [← hW0]; exact blk_drew (heap_alloc_new wr _)
          have HKL : Hid (wr.heap.size < W0.drew.heap.size) := Lib.hid (by rw [← hW0]; simp)
          have HBW : Hid (Below w.heap.size w W0.drew) := by rw [← hW0]; exact below_drew1 (below_alloc HB.out _)
          have HTR : Hid (Kd.R k84 84 W0.drew w.heap.size (fun _ => True) u8 T) := by rw [← hW0]; exact Kd.R_below (Kd.R_alloc HT.out _) (below_drew (Below.refl _ _))
          replace HP : Hid (W0.drew.heap[bp]? = some (.cells pers 81 (0, 0))) := by rw [← hW0]; exact blk_drew (blk_alloc HP.out _)
          rw [hW0]
          clear HT HB hW0
          obtain ⟨bk, hbk⟩ : ∃ b, wr.heap.size = b := ⟨_, rfl⟩
          rw [hbk] at HK HKL ⊢
          clear hbk hx0 hx1 hx2 hper
          obtain ⟨A8, c8, rfl⟩ := Kd.R_slice HTR.out
          have HT := Lib.hid (Kd.R_reads' HTR.out).2.2
          have HTL := Lib.hid (show T.length ≤ 6 from Nat.le_trans HMT.out.1 hj6)
          refine start_ (n := 8) (S := fun w' => w'.cell? ⟨bk, 0, none⟩ = some (.int .i64 (j : Int)) ∧ w'.cell? ⟨bk, 1, none⟩ = some (.int .i64 (1 + r4)) ∧ w'.cell? ⟨bk, 2, none⟩ = some (.int .i64 (1 + r2)) ∧ w'.cell? ⟨bk, 3, none⟩ = some (.int .i64 p) ∧ w'.cell? ⟨bk, 4, none⟩ = some (.int .i64 1)) (ds := []) #[false, false, false, false, false, false, false, false] (by kernel_rfl) rfl rfl ⟨(blk_cell HK.out 0).trans rfl, (blk_cell HK.out 1).trans rfl, (blk_cell HK.out 2).trans rfl, (blk_cell HK.out 3).trans rfl, (blk_cell HK.out 4).trans rfl⟩ (fun hHeld => ?_); refine with_tabW meets.tab10 meets.bits10 (fun HT_ HW_ => ?_)
          generalize W0.drew = W1 at HK HTR HT HP HBW HKL hHeld ⊢
          have HB := Lib.hid (Below.refl W1.heap.size W1)
          refine pure_ (i := 1) (N := some 70) (v := ?_) (a' := ?_) #[false, true, false, false, false, false, false, false] rfl rfl (any_of HT_.out (by kernel_rfl)) (fun _ _ _ h => h) (Or.inl ⟨by rfl, ?_⟩) ?_ ?_
          rotate_left
          · intro w'
            go_simp
            with_reducible rfl
          rotate_left
          · simp only [Act.put, List.setIfInBounds_toArray, List.set_cons_zero, List.set_cons_succ, i64_w, i32_w]
            rfl
          refine take_ (i := 3) (N := some 72) (v := ?_) (a' := ?_) #[false, true, false, true, false, false, false, false] rfl rfl (take_ofW HT_.out HW_.out (by kernel_rfl)) (fun _ _ _ h => h) (Or.inl ⟨by rfl, ?_⟩) hHeld ?_ ?_
          rotate_left
          · rintro w' ⟨s0, s1, s2, s3, s4⟩
            go_simp
            with_reducible rfl
          rotate_left
          · simp only [Act.put, List.setIfInBounds_toArray, List.set_cons_zero, List.set_cons_succ, i64_w, i32_w]
            rfl
          refine join_ (σ := Value × Value × Value) 3 #[true, true, true, true, true, false, false, false] (fun s_ => [(69, s_.1), (71, s_.2.1), (73, s_.2.2)]) (fun s_ w' => Below W1.heap.size W1 w' ∧ Kd.R k84 84 w' W1.heap.size (fun _ => True) s_.2.1 T ∧ (∃ g, s_.2.1.ownBlock = some g ∧ W1.heap.size ≤ g) ∧ ∃ A, s_.2.2 = .slice A 1 1 ∧ Kd.C k84 w' A 1 [(⟨(j : Int), 1 + r4, 1 + r2, p, 1⟩ : S84)]) ?_ ?_
          rotate_left
          · intro hCont
            refine two_ (i := 0) (j := 4) (Ni := some 69) (Nj := some 73) #[true, true, false, true, false, false, false, false] #[false, true, false, true, true, false, false, false] rfl rfl rfl rfl (two_of HT_.out (by kernel_rfl)) (by decide) (by decide) (fun K hK => ?_) (fun K hK => ?_)
            · skip
              have HBQ := Lib.hid (show W1.heap.size ≤ W1.heap.size from HB.out.size)
              refine event_step (w1 := W1.alloc (.cells #[] 84)) (v := .slice (some ⟨W1.heap.size, 0, none⟩) 0 0) (by rfl) (by go_simp) ?_
              have HR36 := Lib.hid (Kd.R_lower (town_nil W1) HB.out.size)
              have hb36 : W1.heap.size < (W1.alloc (.cells #[] 84)).heap.size := by simp
              replace HK := Lib.hid (blk_alloc HK.out (.cells #[] 84))
              replace HB := Lib.hid (below_alloc HB.out (.cells #[] 84))
              generalize hW2 : W1.alloc (.cells #[] 84) = W2 at *
              refine hK.out _ _ ⟨(blk_cell HK.out 0).trans rfl, (blk_cell HK.out 1).trans rfl, (blk_cell HK.out 2).trans rfl, (blk_cell HK.out 3).trans rfl, (blk_cell HK.out 4).trans rfl⟩ (fun hHeld => ?_)
              clear hK K
              refine norm_ (a' := ?_) ?_ ?_
              rotate_left
              · show Act.put _ (some 69) _ = _
                simp only [Act.put, List.setIfInBounds_toArray, List.set_cons_zero, List.set_cons_succ, i64_w, i32_w]
                rfl
              refine two_ (i := 2) (j := 4) (Ni := some 71) (Nj := some 73) #[true, true, true, true, false, false, false, false] #[true, true, false, true, true, false, false, false] rfl rfl rfl rfl (two_of HT_.out (by kernel_rfl)) (by decide) (by decide) (fun K hK => ?_) (fun K hK => ?_)
              · skip
                refine Kd.R_append_rows_step k84 (w0 := W1) W1.heap.size (by rfl) (.tmp 69) (.tmp 70) 80 84 (.agg #[.int .i64 0, .int .i64 0, .int .i64 0, .int .i64 0, .int .i64 0]) 40 rfl Try.underlying80 info84 rfl (by decide) (by omega) (.slice (some ⟨W1.heap.size, 0, none⟩) 0 0) [] T _ _ _ (fun _ => True) (fun _ => False) (by rfl) (by rfl) HR36.out (Kd.C_below HT.out HB.out) (fun _ _ h => h) (fun _ h => h.elim) (fun _ _ => trivial) HB.out HB.out.size (by have := HTL.out; simp; omega) ?_
                intro v38 w3 q1 q2 q3 q4
                have HR38 := Lib.hid q1
                have HO38 : Hid (∃ g, v38.ownBlock = some g ∧ W1.heap.size ≤ g) := Lib.hid (by rcases q4 with q4 | ⟨g, g1, g2⟩; exact ⟨_, q4, by have := HBQ.out; omega⟩; exact ⟨g, g1, by have := HB.out.size; omega⟩)
                clear q4
                replace HK := Lib.hid (blk_grown HK.out q3 (fun e => by have := HKL.out; have e2 := Option.some.inj e; simp only at e2; omega))
                replace HB := Lib.hid q2
                clear q1 q2 q3
                refine hK.out _ _ ⟨(blk_cell HK.out 0).trans rfl, (blk_cell HK.out 1).trans rfl, (blk_cell HK.out 2).trans rfl, (blk_cell HK.out 3).trans rfl, (blk_cell HK.out 4).trans rfl⟩ (fun hHeld => ?_)
                clear hK K
                refine norm_ (a' := ?_) ?_ ?_
                rotate_left
                · show Act.put _ (some 71) _ = _
                  simp only [Act.put, List.setIfInBounds_toArray, List.set_cons_zero, List.set_cons_succ, i64_w, i32_w]
                  rfl
                refine one_ (i := 4) (N := some 73) #[true, true, true, true, true, false, false, false] rfl rfl (one_of HT_.out (by kernel_rfl)) (by decide) (fun K hK => ?_)
                refine event_step (w1 := w3.alloc (.cells #[.int .i64 (j : Int), .int .i64 (1 + r4), .int .i64 (1 + r2), .int .i64 p, .int .i64 1] 84)) (v := .slice (some ⟨w3.heap.size, 0, none⟩) 1 1) (by rfl) (by go_simp) ?_
                have HC40 := Lib.hid (tone_C w3 (⟨(j : Int), 1 + r4, 1 + r2, p, 1⟩ : S84))
                have hb40 : w3.heap.size < (w3.alloc (.cells #[.int .i64 (j : Int), .int .i64 (1 + r4), .int .i64 (1 + r2), .int .i64 p, .int .i64 1] 84)).heap.size := by simp
                replace HK := Lib.hid (blk_alloc HK.out (.cells #[.int .i64 (j : Int), .int .i64 (1 + r4), .int .i64 (1 + r2), .int .i64 p, .int .i64 1] 84))
                replace HB := Lib.hid (below_alloc HB.out (.cells #[.int .i64 (j : Int), .int .i64 (1 + r4), .int .i64 (1 + r2), .int .i64 p, .int .i64 1] 84))
                replace HR38 := Lib.hid (Kd.R_alloc HR38.out (.cells #[.int .i64 (j : Int), .int .i64 (1 + r4), .int .i64 (1 + r2), .int .i64 p, .int .i64 1] 84))
                refine hK.out _ _ ⟨(blk_cell HK.out 0).trans rfl, (blk_cell HK.out 1).trans rfl, (blk_cell HK.out 2).trans rfl, (blk_cell HK.out 3).trans rfl, (blk_cell HK.out 4).trans rfl⟩ (fun hHeld => ?_)
                clear hK K
                refine norm_ (a' := ?_) ?_ ?_
                rotate_left
                · show Act.put _ (some 73) _ = _
                  simp only [Act.put, List.setIfInBounds_toArray, List.set_cons_zero, List.set_cons_succ, i64_w, i32_w]
                  rfl
                exact norm_ (by simp only [putAll, Act.put, List.setIfInBounds_toArray, List.set_cons_zero, List.set_cons_succ]) (hCont ((.slice (some ⟨W1.heap.size, 0, none⟩) 0 0), v38, (.slice (some ⟨w3.heap.size, 0, none⟩) 1 1)) _ ⟨HB.out, HR38.out, HO38.out, _, rfl, HC40.out⟩)
              · skip
                refine event_step (w1 := W2.alloc (.cells #[.int .i64 (j : Int), .int .i64 (1 + r4), .int .i64 (1 + r2), .int .i64 p, .int .i64 1] 84)) (v := .slice (some ⟨W2.heap.size, 0, none⟩) 1 1) (by rfl) (by go_simp) ?_
                have HC40 := Lib.hid (tone_C W2 (⟨(j : Int), 1 + r4, 1 + r2, p, 1⟩ : S84))
                have hb40 : W2.heap.size < (W2.alloc (.cells #[.int .i64 (j : Int), .int .i64 (1 + r4), .int .i64 (1 + r2), .int .i64 p, .int .i64 1] 84)).heap.size := by simp
                replace HK := Lib.hid (blk_alloc HK.out (.cells #[.int .i64 (j : Int), .int .i64 (1 + r4), .int .i64 (1 + r2), .int .i64 p, .int .i64 1] 84))
                replace HB := Lib.hid (below_alloc HB.out (.cells #[.int .i64 (j : Int), .int .i64 (1 + r4), .int .i64 (1 + r2), .int .i64 p, .int .i64 1] 84))
                replace HR36 := Lib.hid (Kd.R_alloc HR36.out (.cells #[.int .i64 (j : Int), .int .i64 (1 + r4), .int .i64 (1 + r2), .int .i64 p, .int .i64 1] 84))
                obtain ⟨W3, hW3⟩ : ∃ W, W2.alloc (.cells #[.int .i64 (j : Int), .int .i64 (1 + r4), .int .i64 (1 + r2), .int .i64 p, .int .i64 1] 84) = W := ⟨_, rfl⟩
                rw [hW3] at HC40 hb40 HK HB HR36 ⊢
                refine hK.out _ _ ⟨(blk_cell HK.out 0).trans rfl, (blk_cell HK.out 1).trans rfl, (blk_cell HK.out 2).trans rfl, (blk_cell HK.out 3).trans rfl, (blk_cell HK.out 4).trans rfl⟩ (fun hHeld => ?_)
                clear hK K
                refine norm_ (a' := ?_) ?_ ?_
                rotate_left
                · show Act.put _ (some 73) _ = _
                  simp only [Act.put, List.setIfInBounds_toArray, List.set_cons_zero, List.set_cons_succ, i64_w, i32_w]
                  rfl
                refine one_ (i := 2) (N := some 71) #[true, true, true, true, true, false, false, false] rfl rfl (one_of HT_.out (by kernel_rfl)) (by decide) (fun K hK => ?_)
                refine Kd.R_append_rows_step k84 (w0 := W1) W1.heap.size (by rfl) (.tmp 69) (.tmp 70) 80 84 (.agg #[.int .i64 0, .int .i64 0, .int .i64 0, .int .i64 0, .int .i64 0]) 40 rfl Try.underlying80 info84 rfl (by decide) (by omega) (.slice (some ⟨W1.heap.size, 0, none⟩) 0 0) [] T _ _ _ (fun _ => True) (fun _ => False) (by rfl) (by rfl) HR36.out (Kd.C_below HT.out HB.out) (fun _ _ h => h) (fun _ h => h.elim) (fun _ _ => trivial) HB.out HB.out.size (by have := HTL.out; simp; omega) ?_
                intro v38 w3 q1 q2 q3 q4
                have HR38 := Lib.hid q1
                have HO38 : Hid (∃ g, v38.ownBlock = some g ∧ W1.heap.size ≤ g) := Lib.hid (by rcases q4 with q4 | ⟨g, g1, g2⟩; exact ⟨_, q4, by have := HBQ.out; omega⟩; exact ⟨g, g1, by have := HB.out.size; omega⟩)
                clear q4
                replace HC40 := Lib.hid (C_move HC40.out hb40 q3 (fun e => by have e2 := Option.some.inj e; simp only at e2; omega))
                replace HK := Lib.hid (blk_grown HK.out q3 (fun e => by have := HKL.out; have e2 := Option.some.inj e; simp only at e2; omega))
                replace HB := Lib.hid q2
                clear q1 q2 q3
                refine hK.out _ _ ⟨(blk_cell HK.out 0).trans rfl, (blk_cell HK.out 1).trans rfl, (blk_cell HK.out 2).trans rfl, (blk_cell HK.out 3).trans rfl, (blk_cell HK.out 4).trans rfl⟩ (fun hHeld => ?_)
                clear hK K
                refine norm_ (a' := ?_) ?_ ?_
                rotate_left
                · show Act.put _ (some 71) _ = _
                  simp only [Act.put, List.setIfInBounds_toArray, List.set_cons_zero, List.set_cons_succ, i64_w, i32_w]
                  rfl
                exact norm_ (by simp only [putAll, Act.put, List.setIfInBounds_toArray, List.set_cons_zero, List.set_cons_succ]) (hCont ((.slice (some ⟨W1.heap.size, 0, none⟩) 0 0), v38, (.slice (some ⟨W2.heap.size, 0, none⟩) 1 1)) _ ⟨HB.out, HR38.out, HO38.out, _, rfl, HC40.out⟩)
            · skip
              refine event_step (w1 := W1.alloc (.cells #[.int .i64 (j : Int), .int .i64 (1 + r4), .int .i64 (1 + r2), .int .i64 p, .int .i64 1] 84)) (v := .slice (some ⟨W1.heap.size, 0, none⟩) 1 1) (by rfl) (by go_simp) ?_
              have HC40 := Lib.hid (tone_C W1 (⟨(j : Int), 1 + r4, 1 + r2, p, 1⟩ : S84))
              have hb40 : W1.heap.size < (W1.alloc (.cells #[.int .i64 (j : Int), .int .i64 (1 + r4), .int .i64 (1 + r2), .int .i64 p, .int .i64 1] 84)).heap.size := by simp
              replace HK := Lib.hid (blk_alloc HK.out (.cells #[.int .i64 (j : Int), .int .i64 (1 + r4), .int .i64 (1 + r2), .int .i64 p, .int .i64 1] 84))
              replace HB := Lib.hid (below_alloc HB.out (.cells #[.int .i64 (j : Int), .int .i64 (1 + r4), .int .i64 (1 + r2), .int .i64 p, .int .i64 1] 84))
              obtain ⟨W2, hW2⟩ : ∃ W, W1.alloc (.cells #[.int .i64 (j : Int), .int .i64 (1 + r4), .int .i64 (1 + r2), .int .i64 p, .int .i64 1] 84) = W := ⟨_, rfl⟩
              rw [hW2] at HC40 hb40 HK HB ⊢
              refine hK.out _ _ ⟨(blk_cell HK.out 0).trans rfl, (blk_cell HK.out 1).trans rfl, (blk_cell HK.out 2).trans rfl, (blk_cell HK.out 3).trans rfl, (blk_cell HK.out 4).trans rfl⟩ (fun hHeld => ?_)
              clear hK K
              refine norm_ (a' := ?_) ?_ ?_
              rotate_left
              · show Act.put _ (some 73) _ = _
                simp only [Act.put, List.setIfInBounds_toArray, List.set_cons_zero, List.set_cons_succ, i64_w, i32_w]
                rfl
              refine one_ (i := 0) (N := some 69) #[true, true, false, true, true, false, false, false] rfl rfl (one_of HT_.out (by kernel_rfl)) (by decide) (fun K hK => ?_)
              have HBQ := Lib.hid (show W1.heap.size ≤ W2.heap.size from HB.out.size)
              have HB1 := Lib.hid (show W1.heap.size ≤ W2.heap.size from HB.out.size)
              refine event_step (w1 := W2.alloc (.cells #[] 84)) (v := .slice (some ⟨W2.heap.size, 0, none⟩) 0 0) (by rfl) (by go_simp) ?_
              have HR36 := Lib.hid (Kd.R_lower (town_nil W2) HB.out.size)
              have hb36 : W2.heap.size < (W2.alloc (.cells #[] 84)).heap.size := by simp
              replace HK := Lib.hid (blk_alloc HK.out (.cells #[] 84))
              replace HB := Lib.hid (below_alloc HB.out (.cells #[] 84))
              replace HC40 := Lib.hid (Kd.C_alloc HC40.out (.cells #[] 84))
              have hb40' : W1.heap.size < (W2.alloc (.cells #[] 84)).heap.size := by simp; omega
              obtain ⟨W3, hW3⟩ : ∃ W, W2.alloc (.cells #[] 84) = W := ⟨_, rfl⟩
              rw [hW3] at HC40 hb40' HK HB HR36 hb36 ⊢
              refine hK.out _ _ ⟨(blk_cell HK.out 0).trans rfl, (blk_cell HK.out 1).trans rfl, (blk_cell HK.out 2).trans rfl, (blk_cell HK.out 3).trans rfl, (blk_cell HK.out 4).trans rfl⟩ (fun hHeld => ?_)
              clear hK K
              refine norm_ (a' := ?_) ?_ ?_
              rotate_left
              · show Act.put _ (some 69) _ = _
                simp only [Act.put, List.setIfInBounds_toArray, List.set_cons_zero, List.set_cons_succ, i64_w, i32_w]
                rfl
              refine one_ (i := 2) (N := some 71) #[true, true, true, true, true, false, false, false] rfl rfl (one_of HT_.out (by kernel_rfl)) (by decide) (fun K hK => ?_)
              refine Kd.R_append_rows_step k84 (w0 := W1) W1.heap.size (by rfl) (.tmp 69) (.tmp 70) 80 84 (.agg #[.int .i64 0, .int .i64 0, .int .i64 0, .int .i64 0, .int .i64 0]) 40 rfl Try.underlying80 info84 rfl (by decide) (by omega) (.slice (some ⟨W2.heap.size, 0, none⟩) 0 0) [] T _ _ _ (fun _ => True) (fun _ => False) (by rfl) (by rfl) HR36.out (Kd.C_below HT.out HB.out) (fun _ _ h => h) (fun _ h => h.elim) (fun _ _ => trivial) HB.out HB.out.size (by have := HTL.out; simp; omega) ?_
              intro v38 w3 q1 q2 q3 q4
              have HR38 := Lib.hid q1
              have HO38 : Hid (∃ g, v38.ownBlock = some g ∧ W1.heap.size ≤ g) := Lib.hid (by rcases q4 with q4 | ⟨g, g1, g2⟩; exact ⟨_, q4, by have := HBQ.out; omega⟩; exact ⟨g, g1, by have := HB.out.size; omega⟩)
              clear q4
              replace HC40 := Lib.hid (C_move HC40.out hb40' q3 (fun e => by have e2 := Option.some.inj e; simp only at e2; omega))
              replace HK := Lib.hid (blk_grown HK.out q3 (fun e => by have := HKL.out; have := HB1.out; have e2 := Option.some.inj e; simp only at e2; omega))
              replace HB := Lib.hid q2
              clear q1 q2 q3
              refine hK.out _ _ ⟨(blk_cell HK.out 0).trans rfl, (blk_cell HK.out 1).trans rfl, (blk_cell HK.out 2).trans rfl, (blk_cell HK.out 3).trans rfl, (blk_cell HK.out 4).trans rfl⟩ (fun hHeld => ?_)
              clear hK K
              refine norm_ (a' := ?_) ?_ ?_
              rotate_left
              · show Act.put _ (some 71) _ = _
                simp only [Act.put, List.setIfInBounds_toArray, List.set_cons_zero, List.set_cons_succ, i64_w, i32_w]
                rfl
              exact norm_ (by simp only [putAll, Act.put, List.setIfInBounds_toArray, List.set_cons_zero, List.set_cons_succ]) (hCont ((.slice (some ⟨W2.heap.size, 0, none⟩) 0 0), v38, (.slice (some ⟨W1.heap.size, 0, none⟩) 1 1)) _ ⟨HB.out, HR38.out, HO38.out, _, rfl, HC40.out⟩)
          rintro ⟨v36, v38, v40⟩ w4 ⟨g1, g2, g5, A40, g3, g4⟩
          obtain rfl : v40 = .slice A40 1 1 := g3
          have HB := Lib.hid g1
          have HR38 := Lib.hid g2
          have HC40 := Lib.hid g4
          have HO38 := Lib.hid g5
          replace HK := Lib.hid (blk_below HK.out g1)
          clear g1 g2 g4 g5
          have hHeld : w4.cell? ⟨bk, 0, none⟩ = some (.int .i64 (j : Int)) ∧ w4.cell? ⟨bk, 1, none⟩ = some (.int .i64 (1 + r4)) ∧ w4.cell? ⟨bk, 2, none⟩ = some (.int .i64 (1 + r2)) ∧ w4.cell? ⟨bk, 3, none⟩ = some (.int .i64 p) ∧ w4.cell? ⟨bk, 4, none⟩ = some (.int .i64 1) := ⟨(blk_cell HK.out 0).trans rfl, (blk_cell HK.out 1).trans rfl, (blk_cell HK.out 2).trans rfl, (blk_cell HK.out 3).trans rfl, (blk_cell HK.out 4).trans rfl⟩
          refine norm_ (a' := ?_) ?_ ?_
          rotate_left
          · simp only [putAll, Act.put, List.setIfInBounds_toArray, List.set_cons_zero, List.set_cons_succ]
            rfl
          refine one_ (i := 5) (N := some 74) #[true, true, true, true, true, true, false, false] rfl rfl (one_of HT_.out (by kernel_rfl)) (by decide) (fun K hK => ?_)
          refine Kd.R_append_rows_step k84 (w0 := W1) W1.heap.size (by rfl) (.tmp 71) (.tmp 73) 80 84 (.agg #[.int .i64 0, .int .i64 0, .int .i64 0, .int .i64 0, .int .i64 0]) 40 rfl Try.underlying80 info84 rfl (by decide) (by omega) v38 T [(⟨(j : Int), 1 + r4, 1 + r2, p, 1⟩ : S84)] _ _ _ (fun _ => True) (fun _ => False) (by rfl) (by rfl) HR38.out HC40.out (fun _ _ h => h) (fun _ h => h.elim) (fun _ _ => trivial) HB.out HB.out.size (by have := HTL.out; simp; omega) ?_
          intro v74 w5 q1 q2 q3 q4
          clear q4
          have HR74 := Lib.hid q1
          replace HK := Lib.hid (blk_grown HK.out q3 (fun e => by have h1 := HKL.out; obtain ⟨g, hg, hg2⟩ := HO38.out; have e2 := Option.some.inj (e.trans hg); omega))
          replace HB := Lib.hid q2
          clear q1 q2 q3
          refine hK.out _ _ ⟨(blk_cell HK.out 0).trans rfl, (blk_cell HK.out 1).trans rfl, (blk_cell HK.out 2).trans rfl, (blk_cell HK.out 3).trans rfl, (blk_cell HK.out 4).trans rfl⟩ (fun hHeld => ?_)
          clear hK K
          refine norm_ (a' := ?_) ?_ ?_
          rotate_left
          · show Act.put _ (some 74) _ = _
            simp only [Act.put, List.setIfInBounds_toArray, List.set_cons_zero, List.set_cons_succ, i64_w, i32_w]
            rfl
          obtain ⟨A74, c74, rfl⟩ := Kd.R_slice HR74.out
          refine one_ (i := 6) (N := some 75) #[true, true, true, true, true, true, true, false] rfl rfl (one_of HT_.out (by kernel_rfl)) (by decide) (fun K hK => ?_)
          refine goes_ Try.func52 (by kernel_rfl) rfl #[.slice A74 (T ++ [(⟨(j : Int), 1 + r4, 1 + r2, p, 1⟩ : S84)]).length c74] (by rfl) rfl rfl (by (try simp only [List.map_toArray, List.map_cons, List.map_nil]); first | done | rfl) ?_
          refine (horariumref12_Test.calls 2151000001 A74 c74 (T ++ [(⟨(j : Int), 1 + r4, 1 + r2, p, 1⟩ : S84)]) tv w5 (Kd.R_reads' HR74.out).2.2 (Kd.R_reads' HR74.out).2.1 HTV.out).mono ?_
          rintro e w6 ⟨rfl, q1⟩
          refine ⟨_, rfl, ?_⟩
          replace HK := Lib.hid (blk_below HK.out q1)
          replace HB := Lib.hid (below_step HB.out q1)
          clear q1
          refine hK.out _ _ ⟨(blk_cell HK.out 0).trans rfl, (blk_cell HK.out 1).trans rfl, (blk_cell HK.out 2).trans rfl, (blk_cell HK.out 3).trans rfl, (blk_cell HK.out 4).trans rfl⟩ (fun hHeld => ?_)
          clear hK K
          refine norm_ (a' := ?_) ?_ ?_
          rotate_left
          · show Act.put _ (some 75) _ = _
            simp only [Act.put, List.setIfInBounds_toArray, List.set_cons_zero, List.set_cons_succ, i64_w, i32_w]
            rfl
          refine pure_ (i := 7) (N := some 76) (v := ?_) (a' := ?_) #[true, true, true, true, true, true, true, true] rfl rfl (any_of HT_.out (by kernel_rfl)) (fun _ _ _ h => h) (Or.inl ⟨by rfl, ?_⟩) ?_ ?_
          rotate_left
          · intro w'
            go_simp
            with_reducible rfl
          rotate_left
          · simp only [Act.put, List.setIfInBounds_toArray, List.set_cons_zero, List.set_cons_succ, i64_w, i32_w]
            rfl
          refine done_ (done_of HT_.out (by kernel_rfl)) ?_
          replace HTR := Lib.hid (Kd.R_below HTR.out HB.out)
          replace HP := Lib.hid (blk_below HP.out HB.out)
          replace HBW := Lib.hid (below_step HBW.out HB.out)
          clear HT HR38 HC40 HO38 HR74 HB hHeld
          rcases HFT.out with ⟨rfl, hm⟩ | rfl
          · have HM1 := Lib.hid hm
            clear hm HFT HTV
            have hne : some bp ≠ (Value.slice A8 T.length c8).ownBlock := fun e => ((Kd.R_types HTR.out HP.out (by decide)).1 bp e.symm).2 rfl
            have HNE := Lib.hid hne
            clear hne
            have k0 := (blk_cell HK.out 0).trans rfl
            have k1 := (blk_cell HK.out 1).trans rfl
            have k2 := (blk_cell HK.out 2).trans rfl
            have k3 := (blk_cell HK.out 3).trans rfl
            have k4 := (blk_cell HK.out 4).trans rfl
            go_wp2_with (at_builtin; refine Kd.R_append k84 (w0 := w) (W := w6) w.heap.size rfl (.tmp 77) (.tmp 79) 80 84 (.agg #[.int .i64 0, .int .i64 0, .int .i64 0, .int .i64 0, .int .i64 0]) 40 rfl Try.underlying80 info84 rfl (by decide) (by decide) _ T (⟨(j : Int), 1 + r4, 1 + r2, p, 1⟩ : S84) [.int .i64 (j : Int), .int .i64 (1 + r4), .int .i64 (1 + r2), .int .i64 p, .int .i64 1] (fun _ => True) (fun _ => False) rfl rfl (k84_mkM _ _ _ (⟨(j : Int), 1 + r4, 1 + r2, p, 1⟩ : S84)) (fun _ h => h.elim) (fun _ _ => trivial) HTR.out HBW.out HBW.out.size (by have := HTL.out; omega) ?_; intro v1 w7 q1 q2 q3 _; have HT7 := Lib.hid q1; have HB7 := Lib.hid q2; have HP7 := Lib.hid (blk_grown HP.out q3 HNE.out); clear q1 q2 q3)
            go_roundg (6 - (j + 1) + 1)
            case measure => omega
            case rel => exact ⟨j + 1, T ++ [(⟨(j : Int), 1 + r4, 1 + r2, p, 1⟩ : S84)], by go_num, by omega, by omega, by omega, HM1, HT7, HP7, HB7⟩
          · go_wp2
            go_roundg (6 - (j + 1) + 1)
            case measure => omega
            case rel => exact ⟨j + 1, T, by go_num, by omega, by omega, by omega, Lib.hid (meetT_more HMT.out), HTR, HP, HBW⟩
        · go_wp2
          go_meet
          case rel => exact ⟨j, T, hj6, HMT, HT, HB⟩
      · go_wp2
        go_meet
        case rel => exact ⟨j, T, hj6, HMT, HT, HB⟩
  case rest =>
    clear HP HB HBP HBS
    obtain ⟨j, T, hj6, HMT, HTR, HB⟩ := hcut
    obtain ⟨A8, c8, rfl⟩ := Kd.R_slice HTR.out
    have HTC := Lib.hid (Kd.R_reads' HTR.out).2.2
    have tl6 : T.length ≤ 6 := Nat.le_trans HMT.out.1 hj6
    clear HTR
    go_wp2_with (go_at_call 45; refine (newE.calls _).mono ?_; rintro e w2 ⟨x, h, rfl, q1, q2, q3, q4⟩; have HXW := Lib.hid q1; have HHW := Lib.hid q2; have HE := Lib.hid q3; have HBC := Lib.hid q4; clear q1 q2 q3 q4)
    obtain ⟨bn, hbn⟩ : ∃ b, w2.heap.size = b := ⟨_, rfl⟩
    obtain ⟨W, hW⟩ : ∃ W, w2.alloc (.cells #[.int .i64 0, .int .i64 0, .int .i64 0, .int .i64 0, .int .i64 0, .int .i64 0] 86) = W := ⟨_, rfl⟩
    have HN : Hid (W.heap[bn]? = some (.cells (arr6 (nx (T.map (fun s => (⟨tk s, 0, 0, 0, 0⟩ : Hm.X))))) 86 (0, 0))) := by rw [nx_start, ← hW, ← hbn]; exact heap_alloc_new w2 _
    replace HE : Hid (ExP W x h []) := by rw [← hW]; exact HE.out.below (below_alloc (Below.refl _ _) _)
    have HBN := Lib.hid (show wc.heap.size ≤ bn by rw [← hbn]; exact HBC.out.size)
    replace HBC : Hid (Below wc.heap.size wc W) := by rw [← hW]; exact below_alloc HBC.out _
    rw [hW]
    clear hW
    rw [hbn]
    clear hbn
    go_loopg [17, 16] 101 (fun k v17 v16 wr => ∃ (t n : Nat) (xs : List Hm.X) (L : List S65), v17 = .int .i64 (t : Int) ∧ v16 = .int .i64 (n : Int) ∧ t ≤ 100 ∧ n ≤ 6 * t ∧ 100 - t < k ∧ Hid (MeetS T t 0 n xs L) ∧ Hid (wr.heap[bn]? = some (.cells (arr6 (nx xs)) 86 (0, 0))) ∧ Hid (ExP wr x h L) ∧ Hid (Below wc.heap.size wc wr))
    case atStart => exact ⟨0, 0, _, [], rfl, rfl, by omega, by omega, by omega, Lib.hid (MeetS.start HMT.out (by omega)), HN, HE, HBC⟩
    case round =>
      clear HN HE HBC
      obtain ⟨t, n, xs, L, rfl, rfl, ht, hn6, hk, HS, HN, HE, HBC⟩ := hrel
      by_cases hlt : t < 100
      · have q0 : (t : Int) < 100 := by omega
        have HLL := Lib.hid HS.out.late
        go_wp2_with (go_at_call 53; refine (late.calls x h (t : Int) L _ HE.out (by have := HS.out.len; omega)).mono ?_; rintro e w4 ⟨v, rfl, q1, q2⟩; rw [HLL.out] at q1; obtain ⟨A1, k1, rfl⟩ : ∃ A c, v = .slice A 0 c := Kd.R_slice q1; have HN4 := Lib.hid (blk_below HN.out q2); have HE4 := Lib.hid (HE.out.below q2); have HB4 := Lib.hid (below_step HBC.out q2); clear q1 q2)
        go_loopg [18, 16] 7 (fun k v18 v16 wr => ∃ (i n : Nat) (xs : List Hm.X) (L : List S65), v18 = .int .i64 (i : Int) ∧ v16 = .int .i64 (n : Int) ∧ i ≤ T.length ∧ n ≤ 6 * t + i ∧ T.length - i < k ∧ Hid (MeetS T t i n xs L) ∧ Hid (wr.heap[bn]? = some (.cells (arr6 (nx xs)) 86 (0, 0))) ∧ Hid (ExP wr x h L) ∧ Hid (Below wc.heap.size wc wr))
        case atStart => exact ⟨0, n, xs, L, rfl, rfl, by omega, by omega, by omega, HS, HN4, HE4, HB4⟩
        case round =>
          clear HN4 HE4 HB4 HN HE HBC HS HLL hn6
          obtain ⟨i, n, xs, L, rfl, rfl, hi, hni, hk2, HS, HN, HE, HBC⟩ := hrel
          by_cases hil : i < T.length
          · have i0 : (0 : Int) ≤ (i : Int) := by omega
            have i1 : (i : Int) < (T.length : Int) := by omega
            have i6 : (i : Int) < 6 := by omega
            obtain ⟨ad, e0, hx0, hx1, hx2, hx3, hx4⟩ := at_T84 HTC.out i i0 i1
            cases e0
            simp only [Int.toNat_natCast] at hx0 hx1 hx2 hx3 hx4
            obtain ⟨s, hs⟩ : ∃ s, T[i]? = some s := ⟨T[i], by simp [hil]⟩
            have hrd : rd_T84 T (i : Int) = s := by simp [rd_T84, hs]
            rw [hrd] at hx0 hx1 hx2 hx3 hx4
            obtain ⟨a1, a2, a3, a4, a5, a6, _, _⟩ := HMT.out.2.2.1 s (List.mem_of_getElem? hs)
            have HSI := Lib.hid hs
            have HX0 := Lib.hid hx0
            have HX1 := Lib.hid hx1
            have HX2 := Lib.hid hx2
            have HX3 := Lib.hid hx3
            clear hx0 hx1 hx2 hx3 hx4 hs hrd
            have z1 := (HBC.out.cell (World.block_lt_of_cell? wc _ HX1.out)).trans HX1.out
            have z3 := (HBC.out.cell (World.block_lt_of_cell? wc _ HX3.out)).trans HX3.out
            have n0 : wr.cell? ⟨bn, i, none⟩ = some (.int .i64 (nx xs i)) := (blk_cell HN.out i).trans (arr6_get _ (by omega))
            by_cases hnx : (t : Int) < nx xs i
            · go_wp2
              go_roundg (T.length - (i + 1) + 1)
              case measure => omega
              case rel => exact ⟨i + 1, n, xs, L, by go_num, rfl, by omega, by omega, by omega, Lib.hid (HS.out.skip hil hnx), HN, HE, HBC⟩
            · have HWR := Lib.hid (show wrap64 ((t : Int) + s.f2) = (t : Int) + s.f2 from w64 (by omega) (by omega))
              have c0 : (0 : Int) ≤ (n : Int) := by omega
              by_cases b1 : n < l1.length
              · have c1 : (n : Int) < (l1.length : Int) := by omega
                obtain ⟨ae, e0, hy1⟩ := Kd.at_int HL1.out n c0 c1
                cases e0
                simp only [Int.toNat_natCast] at hy1
                replace hy1 := (HB.out.cell (World.block_lt_of_cell? w _ hy1)).trans hy1
                replace hy1 := (HBC.out.cell (World.block_lt_of_cell? wc _ hy1)).trans hy1
                generalize rd l1 (n : Int) = la at hy1
                have hand : Go.bits .and .i64 la 7 = la % 8 := and_7 _
                obtain ⟨wt, hwt⟩ : ∃ m, la % 8 = m := ⟨_, rfl⟩
                rw [hwt] at hand
                have w0 : 0 ≤ wt := by omega
                have w7 : wt ≤ 7 := by omega
                clear hwt
                by_cases b2 : n < l2.length
                · skip
                  have c2 : (n : Int) < (l2.length : Int) := by omega
                  obtain ⟨af, e0, hy2⟩ := Kd.at_int HL2.out n c0 c2
                  cases e0
                  simp only [Int.toNat_natCast] at hy2
                  replace hy2 := (HB.out.cell (World.block_lt_of_cell? w _ hy2)).trans hy2
                  replace hy2 := (HBC.out.cell (World.block_lt_of_cell? wc _ hy2)).trans hy2
                  generalize rd l2 (n : Int) = wo at hy2
                  obtain ⟨d1, d2, d3, d4, d5, d6, d7⟩ := rem_rng wo (m := s.f1) (by omega) (by omega)
                  obtain ⟨r1, e1⟩ : ∃ r, Int.tmod wo s.f1 = r := ⟨_, rfl⟩
                  rw [e1] at d1 d2 d3 d4 d5 d6 d7
                  obtain ⟨r2, e2⟩ : ∃ r, (r1 + s.f1) % s.f1 = r := ⟨_, rfl⟩
                  rw [e2] at d5 d6 d7
                  clear e2
                  obtain ⟨hid, hmay, xs', hS', hnx'⟩ := HS.out.release (c := (1 + r2)) (wait := wt) HMT.out HSI.out (by omega) (by omega) (by omega) (by omega) (by omega)
                  have HIN := Lib.hid hid
                  have HM : Hid (jmay ⟨s.f0, (t : Int), wrap64 ((t : Int) + s.f2), (1 + r2)⟩ = true) := Lib.hid (by rw [HWR.out]; exact hmay)
                  have HS1 := Lib.hid hS'
                  skip
                  have HNX := Lib.hid hnx'
                  clear hid hmay hS' hnx'
                  go_wp2
                  clear z1 z3 n0
                  replace HE := Lib.hid (HE.out.below (below_drew (Below.refl _ _)))
                  replace HN := Lib.hid (blk_drew HN.out)
                  replace HBC := Lib.hid (below_drew1 HBC.out)
                  refine start_ (n := 18) (S := fun w' => w'.cell? (ad.add (i * 5)) = some (.int .i64 s.f0) ∧ w'.cell? ⟨(ad.add (i * 5)).block, (ad.add (i * 5)).off + 2, none⟩ = some (.int .i64 s.f2)) (ds := []) #[false, false, false, false, false, false, false, false, false, false, false, false, false, false, false, false, false, false] (by kernel_rfl) rfl rfl ⟨(HBC.out.cell (World.block_lt_of_cell? wc _ HX0.out)).trans HX0.out, (HBC.out.cell (World.block_lt_of_cell? wc _ HX2.out)).trans HX2.out⟩ (fun hHeld => ?_); refine with_tabW meets.tab33 meets.bits33 (fun HT_ HW_ => ?_)
                  generalize wr.drew = w5 at HE HN HBC hHeld ⊢
                  refine pure_ (i := 0) (N := some 135) (v := ?_) (a' := ?_) #[true, false, false, false, false, false, false, false, false, false, false, false, false, false, false, false, false, false] rfl rfl (any_of HT_.out (by kernel_rfl)) (fun _ _ _ h => h) (Or.inl ⟨by rfl, ?_⟩) ?_ ?_
                  rotate_left
                  · intro w'
                    go_simp
                    with_reducible rfl
                  rotate_left
                  · simp only [Act.put, List.setIfInBounds_toArray, List.set_cons_zero, List.set_cons_succ, i64_w, i32_w]
                    rfl
                  refine pure_ (i := 1) (N := some 136) (v := ?_) (a' := ?_) #[true, true, false, false, false, false, false, false, false, false, false, false, false, false, false, false, false, false] rfl rfl (any_of HT_.out (by kernel_rfl)) (fun _ _ _ h => h) (Or.inl ⟨by rfl, ?_⟩) ?_ ?_
                  rotate_left
                  · intro w'
                    go_simp
                    with_reducible rfl
                  rotate_left
                  · simp only [Act.put, List.setIfInBounds_toArray, List.set_cons_zero, List.set_cons_succ, i64_w, i32_w]
                    rfl
                  refine pure_ (i := 2) (N := some 137) (v := ?_) (a' := ?_) #[true, true, true, false, false, false, false, false, false, false, false, false, false, false, false, false, false, false] rfl rfl (any_of HT_.out (by kernel_rfl)) (fun _ _ _ h => h) (Or.inl ⟨by rfl, ?_⟩) ?_ ?_
                  rotate_left
                  · intro w'
                    go_simp
                    with_reducible rfl
                  rotate_left
                  · simp only [Act.put, List.setIfInBounds_toArray, List.set_cons_zero, List.set_cons_succ, i64_w, i32_w]
                    rfl
                  refine pure_ (i := 3) (N := some 138) (v := ?_) (a' := ?_) #[true, true, true, true, false, false, false, false, false, false, false, false, false, false, false, false, false, false] rfl rfl (any_of HT_.out (by kernel_rfl)) (fun _ _ _ h => h) (Or.inl ⟨by rfl, ?_⟩) ?_ ?_
                  rotate_left
                  · intro w'
                    go_simp
                    with_reducible rfl
                  rotate_left
                  · simp only [Act.put, List.setIfInBounds_toArray, List.set_cons_zero, List.set_cons_succ, i64_w, i32_w]
                    rfl
                  refine pure_ (i := 4) (N := some 139) (v := ?_) (a' := ?_) #[true, true, true, true, true, false, false, false, false, false, false, false, false, false, false, false, false, false] rfl rfl (any_of HT_.out (by kernel_rfl)) (fun _ _ _ h => h) (Or.inl ⟨by rfl, ?_⟩) ?_ ?_
                  rotate_left
                  · intro w'
                    go_simp
                    with_reducible rfl
                  rotate_left
                  · simp only [Act.put, List.setIfInBounds_toArray, List.set_cons_zero, List.set_cons_succ, i64_w, i32_w]
                    rfl
                  refine take_ (i := 5) (N := some 140) (v := ?_) (a' := ?_) #[true, true, true, true, true, true, false, false, false, false, false, false, false, false, false, false, false, false] rfl rfl (take_ofW HT_.out HW_.out (by kernel_rfl)) (fun _ _ _ h => h) (Or.inl ⟨by rfl, ?_⟩) hHeld ?_ ?_
                  rotate_left
                  · rintro w' ⟨s0, s1⟩
                    go_simp
                    with_reducible rfl
                  rotate_left
                  · simp only [Act.put, List.setIfInBounds_toArray, List.set_cons_zero, List.set_cons_succ, i64_w, i32_w]
                    rfl
                  refine pure_ (i := 6) (N := some 141) (v := ?_) (a' := ?_) #[true, true, true, true, true, true, true, false, false, false, false, false, false, false, false, false, false, false] rfl rfl (any_of HT_.out (by kernel_rfl)) (fun _ _ _ h => h) (Or.inl ⟨by rfl, ?_⟩) ?_ ?_
                  rotate_left
                  · intro w'
                    go_simp
                    with_reducible rfl
                  rotate_left
                  · simp only [Act.put, List.setIfInBounds_toArray, List.set_cons_zero, List.set_cons_succ, i64_w, i32_w]
                    rfl
                  refine pure_ (i := 7) (N := some 142) (v := ?_) (a' := ?_) #[true, true, true, true, true, true, true, true, false, false, false, false, false, false, false, false, false, false] rfl rfl (any_of HT_.out (by kernel_rfl)) (fun _ _ _ h => h) (Or.inl ⟨by rfl, ?_⟩) ?_ ?_
                  rotate_left
                  · intro w'
                    go_simp
                    with_reducible rfl
                  rotate_left
                  · simp only [Act.put, List.setIfInBounds_toArray, List.set_cons_zero, List.set_cons_succ, i64_w, i32_w]
                    rfl
                  refine pure_ (i := 8) (N := some 143) (v := ?_) (a' := ?_) #[true, true, true, true, true, true, true, true, true, false, false, false, false, false, false, false, false, false] rfl rfl (any_of HT_.out (by kernel_rfl)) (fun _ _ _ h => h) (Or.inl ⟨by rfl, ?_⟩) ?_ ?_
                  rotate_left
                  · intro w'
                    go_simp
                    with_reducible rfl
                  rotate_left
                  · simp only [Act.put, List.setIfInBounds_toArray, List.set_cons_zero, List.set_cons_succ, i64_w, i32_w]
                    rfl
                  refine pure_ (i := 9) (N := some 144) (v := ?_) (a' := ?_) #[true, true, true, true, true, true, true, true, true, true, false, false, false, false, false, false, false, false] rfl rfl (any_of HT_.out (by kernel_rfl)) (fun _ _ _ h => h) (Or.inl ⟨by rfl, ?_⟩) ?_ ?_
                  rotate_left
                  · intro w'
                    go_simp
                    with_reducible rfl
                  rotate_left
                  · simp only [Act.put, List.setIfInBounds_toArray, List.set_cons_zero, List.set_cons_succ, i64_w, i32_w]
                    rfl
                  refine pure_ (i := 10) (N := some 145) (v := ?_) (a' := ?_) #[true, true, true, true, true, true, true, true, true, true, true, false, false, false, false, false, false, false] rfl rfl (any_of HT_.out (by kernel_rfl)) (fun _ _ _ h => h) (Or.inl ⟨by rfl, ?_⟩) ?_ ?_
                  rotate_left
                  · intro w'
                    go_simp
                    with_reducible rfl
                  rotate_left
                  · simp only [Act.put, List.setIfInBounds_toArray, List.set_cons_zero, List.set_cons_succ, i64_w, i32_w]
                    rfl
                  refine pure_ (i := 11) (N := some 146) (v := ?_) (a' := ?_) #[true, true, true, true, true, true, true, true, true, true, true, true, false, false, false, false, false, false] rfl rfl (any_of HT_.out (by kernel_rfl)) (fun _ _ _ h => h) (Or.inl ⟨by rfl, ?_⟩) ?_ ?_
                  rotate_left
                  · intro w'
                    go_simp
                    with_reducible rfl
                  rotate_left
                  · simp only [Act.put, List.setIfInBounds_toArray, List.set_cons_zero, List.set_cons_succ, i64_w, i32_w]
                    rfl
                  refine take_ (i := 12) (N := some 147) (v := ?_) (a' := ?_) #[true, true, true, true, true, true, true, true, true, true, true, true, true, false, false, false, false, false] rfl rfl (take_ofW HT_.out HW_.out (by kernel_rfl)) (fun _ _ _ h => h) (Or.inl ⟨by rfl, ?_⟩) hHeld ?_ ?_
                  rotate_left
                  · rintro w' ⟨s0, s1⟩
                    go_simp
                    with_reducible rfl
                  rotate_left
                  · simp only [Act.put, List.setIfInBounds_toArray, List.set_cons_zero, List.set_cons_succ, i64_w, i32_w]
                    rfl
                  refine pure_ (i := 13) (N := some 148) (v := ?_) (a' := ?_) #[true, true, true, true, true, true, true, true, true, true, true, true, true, true, false, false, false, false] rfl rfl (any_of HT_.out (by kernel_rfl)) (fun _ _ _ h => h) (Or.inl ⟨by rfl, ?_⟩) ?_ ?_
                  rotate_left
                  · intro w'
                    go_simp
                    with_reducible rfl
                  rotate_left
                  · simp only [Act.put, List.setIfInBounds_toArray, List.set_cons_zero, List.set_cons_succ, i64_w, i32_w]
                    rfl
                  refine pure_ (i := 14) (N := some 149) (v := ?_) (a' := ?_) #[true, true, true, true, true, true, true, true, true, true, true, true, true, true, true, false, false, false] rfl rfl (any_of HT_.out (by kernel_rfl)) (fun _ _ _ h => h) (Or.inl ⟨by rfl, ?_⟩) ?_ ?_
                  rotate_left
                  · intro w'
                    go_simp
                    with_reducible rfl
                  rotate_left
                  · simp only [Act.put, List.setIfInBounds_toArray, List.set_cons_zero, List.set_cons_succ, i64_w, i32_w]
                    rfl
                  refine pure_ (i := 15) (N := some 150) (v := ?_) (a' := ?_) #[true, true, true, true, true, true, true, true, true, true, true, true, true, true, true, true, false, false] rfl rfl (any_of HT_.out (by kernel_rfl)) (fun _ _ _ h => h) (Or.inl ⟨by rfl, ?_⟩) ?_ ?_
                  rotate_left
                  · intro w'
                    go_simp
                    with_reducible rfl
                  rotate_left
                  · simp only [Act.put, List.setIfInBounds_toArray, List.set_cons_zero, List.set_cons_succ, i64_w, i32_w]
                    rfl
                  refine one_ (i := 16) (N := some 151) #[true, true, true, true, true, true, true, true, true, true, true, true, true, true, true, true, true, false] rfl rfl (one_of HT_.out (by kernel_rfl)) (by decide) (fun K hK => ?_)
                  refine goes_ Try.func47 (by kernel_rfl) rfl #[.pointer (some ⟨x, 0, none⟩), .agg #[.int .i64 s.f0, .int .i64 (t : Int), .int .i64 (wrap64 ((t : Int) + s.f2)), .int .i64 (1 + r2)]] (by rfl) rfl rfl (by (try simp only [List.map_toArray, List.map_cons, List.map_nil]); first | done | rfl) ?_
                  refine (addE.calls x h ⟨s.f0, (t : Int), wrap64 ((t : Int) + s.f2), (1 + r2)⟩ L w5 HE.out HM.out HIN.out (by have := HS.out.len; omega)).mono ?_
                  rintro e w6 ⟨rfl, q1, q2⟩
                  refine ⟨_, rfl, ?_⟩
                  rw [HWR.out] at q1
                  replace HN := Lib.hid (HE.out.keep q2 HN.out (by decide))
                  replace HBC := Lib.hid (HBC.out.grown q2 HBC.out.size (fun r e => by cases e; exact HHW.out))
                  replace HE := Lib.hid q1
                  clear q1 q2
                  refine hK.out _ _ ⟨(HBC.out.cell (World.block_lt_of_cell? wc _ HX0.out)).trans HX0.out, (HBC.out.cell (World.block_lt_of_cell? wc _ HX2.out)).trans HX2.out⟩ (fun hHeld => ?_)
                  clear hK K
                  refine norm_ (a' := ?_) ?_ ?_
                  rotate_left
                  · show Act.put _ (some 151) _ = _
                    simp only [Act.put, List.setIfInBounds_toArray, List.set_cons_zero, List.set_cons_succ, i64_w, i32_w]
                    rfl
                  refine pure_ (i := 17) (N := some 152) (v := ?_) (a' := ?_) #[true, true, true, true, true, true, true, true, true, true, true, true, true, true, true, true, true, true] rfl rfl (any_of HT_.out (by kernel_rfl)) (fun _ _ _ h => h) (Or.inl ⟨by rfl, ?_⟩) ?_ ?_
                  rotate_left
                  · intro w'
                    go_simp
                    with_reducible rfl
                  rotate_left
                  · simp only [Act.put, List.setIfInBounds_toArray, List.set_cons_zero, List.set_cons_succ, i64_w, i32_w]
                    rfl
                  refine done_ (done_of HT_.out (by kernel_rfl)) ?_
                  clear hHeld
                  have z3 := (HBC.out.cell (World.block_lt_of_cell? wc _ HX3.out)).trans HX3.out
                  have n0 : w6.cell? ⟨bn, i, none⟩ = some (.int .i64 (nx xs i)) := (blk_cell HN.out i).trans (arr6_get _ (by omega))
                  have hn6 := blk_frozen HN.out i
                  go_wp2
                  go_roundg (T.length - (i + 1) + 1)
                  case measure => omega
                  case rel => exact ⟨i + 1, n + 1, xs', _, by go_num, by go_num, by omega, by omega, by omega, HS1, Lib.hid (by rw [← HNX.out]; exact blk_put6 HN.out (by omega) _), Lib.hid (HE.out.setM HN.out (by decide) (by decide) (by decide) i _), Lib.hid (HBC.out.setCell (p := ⟨bn, i, none⟩) HBN.out _)⟩
                · skip
                  obtain ⟨hid, hmay, xs', hS', hnx'⟩ := HS.out.release (c := s.f1) (wait := wt) HMT.out HSI.out (by omega) (by omega) (by omega) (by omega) (by omega)
                  have HIN := Lib.hid hid
                  have HM : Hid (jmay ⟨s.f0, (t : Int), wrap64 ((t : Int) + s.f2), s.f1⟩ = true) := Lib.hid (by rw [HWR.out]; exact hmay)
                  have HS1 := Lib.hid hS'
                  skip
                  have HNX := Lib.hid hnx'
                  clear hid hmay hS' hnx'
                  go_wp2
                  clear z1 z3 n0
                  replace HE := Lib.hid (HE.out.below (below_drew (Below.refl _ _)))
                  replace HN := Lib.hid (blk_drew HN.out)
                  replace HBC := Lib.hid (below_drew1 HBC.out)
                  refine start_ (n := 18) (S := fun w' => w'.cell? (ad.add (i * 5)) = some (.int .i64 s.f0) ∧ w'.cell? ⟨(ad.add (i * 5)).block, (ad.add (i * 5)).off + 2, none⟩ = some (.int .i64 s.f2)) (ds := []) #[false, false, false, false, false, false, false, false, false, false, false, false, false, false, false, false, false, false] (by kernel_rfl) rfl rfl ⟨(HBC.out.cell (World.block_lt_of_cell? wc _ HX0.out)).trans HX0.out, (HBC.out.cell (World.block_lt_of_cell? wc _ HX2.out)).trans HX2.out⟩ (fun hHeld => ?_); refine with_tabW meets.tab33 meets.bits33 (fun HT_ HW_ => ?_)
                  generalize wr.drew = w5 at HE HN HBC hHeld ⊢
                  refine pure_ (i := 0) (N := some 135) (v := ?_) (a' := ?_) #[true, false, false, false, false, false, false, false, false, false, false, false, false, false, false, false, false, false] rfl rfl (any_of HT_.out (by kernel_rfl)) (fun _ _ _ h => h) (Or.inl ⟨by rfl, ?_⟩) ?_ ?_
                  rotate_left
                  · intro w'
                    go_simp
                    with_reducible rfl
                  rotate_left
                  · simp only [Act.put, List.setIfInBounds_toArray, List.set_cons_zero, List.set_cons_succ, i64_w, i32_w]
                    rfl
                  refine pure_ (i := 1) (N := some 136) (v := ?_) (a' := ?_) #[true, true, false, false, false, false, false, false, false, false, false, false, false, false, false, false, false, false] rfl rfl (any_of HT_.out (by kernel_rfl)) (fun _ _ _ h => h) (Or.inl ⟨by rfl, ?_⟩) ?_ ?_
                  rotate_left
                  · intro w'
                    go_simp
                    with_reducible rfl
                  rotate_left
                  · simp only [Act.put, List.setIfInBounds_toArray, List.set_cons_zero, List.set_cons_succ, i64_w, i32_w]
                    rfl
                  refine pure_ (i := 2) (N := some 137) (v := ?_) (a' := ?_) #[true, true, true, false, false, false, false, false, false, false, false, false, false, false, false, false, false, false] rfl rfl (any_of HT_.out (by kernel_rfl)) (fun _ _ _ h => h) (Or.inl ⟨by rfl, ?_⟩) ?_ ?_
                  rotate_left
                  · intro w'
                    go_simp
                    with_reducible rfl
                  rotate_left
                  · simp only [Act.put, List.setIfInBounds_toArray, List.set_cons_zero, List.set_cons_succ, i64_w, i32_w]
                    rfl
                  refine pure_ (i := 3) (N := some 138) (v := ?_) (a' := ?_) #[true, true, true, true, false, false, false, false, false, false, false, false, false, false, false, false, false, false] rfl rfl (any_of HT_.out (by kernel_rfl)) (fun _ _ _ h => h) (Or.inl ⟨by rfl, ?_⟩) ?_ ?_
                  rotate_left
                  · intro w'
                    go_simp
                    with_reducible rfl
                  rotate_left
                  · simp only [Act.put, List.setIfInBounds_toArray, List.set_cons_zero, List.set_cons_succ, i64_w, i32_w]
                    rfl
                  refine pure_ (i := 4) (N := some 139) (v := ?_) (a' := ?_) #[true, true, true, true, true, false, false, false, false, false, false, false, false, false, false, false, false, false] rfl rfl (any_of HT_.out (by kernel_rfl)) (fun _ _ _ h => h) (Or.inl ⟨by rfl, ?_⟩) ?_ ?_
                  rotate_left
                  · intro w'
                    go_simp
                    with_reducible rfl
                  rotate_left
                  · simp only [Act.put, List.setIfInBounds_toArray, List.set_cons_zero, List.set_cons_succ, i64_w, i32_w]
                    rfl
                  refine take_ (i := 5) (N := some 140) (v := ?_) (a' := ?_) #[true, true, true, true, true, true, false, false, false, false, false, false, false, false, false, false, false, false] rfl rfl (take_ofW HT_.out HW_.out (by kernel_rfl)) (fun _ _ _ h => h) (Or.inl ⟨by rfl, ?_⟩) hHeld ?_ ?_
                  rotate_left
                  · rintro w' ⟨s0, s1⟩
                    go_simp
                    with_reducible rfl
                  rotate_left
                  · simp only [Act.put, List.setIfInBounds_toArray, List.set_cons_zero, List.set_cons_succ, i64_w, i32_w]
                    rfl
                  refine pure_ (i := 6) (N := some 141) (v := ?_) (a' := ?_) #[true, true, true, true, true, true, true, false, false, false, false, false, false, false, false, false, false, false] rfl rfl (any_of HT_.out (by kernel_rfl)) (fun _ _ _ h => h) (Or.inl ⟨by rfl, ?_⟩) ?_ ?_
                  rotate_left
                  · intro w'
                    go_simp
                    with_reducible rfl
                  rotate_left
                  · simp only [Act.put, List.setIfInBounds_toArray, List.set_cons_zero, List.set_cons_succ, i64_w, i32_w]
                    rfl
                  refine pure_ (i := 7) (N := some 142) (v := ?_) (a' := ?_) #[true, true, true, true, true, true, true, true, false, false, false, false, false, false, false, false, false, false] rfl rfl (any_of HT_.out (by kernel_rfl)) (fun _ _ _ h => h) (Or.inl ⟨by rfl, ?_⟩) ?_ ?_
                  rotate_left
                  · intro w'
                    go_simp
                    with_reducible rfl
                  rotate_left
                  · simp only [Act.put, List.setIfInBounds_toArray, List.set_cons_zero, List.set_cons_succ, i64_w, i32_w]
                    rfl
                  refine pure_ (i := 8) (N := some 143) (v := ?_) (a' := ?_) #[true, true, true, true, true, true, true, true, true, false, false, false, false, false, false, false, false, false] rfl rfl (any_of HT_.out (by kernel_rfl)) (fun _ _ _ h => h) (Or.inl ⟨by rfl, ?_⟩) ?_ ?_
                  rotate_left
                  · intro w'
                    go_simp
                    with_reducible rfl
                  rotate_left
                  · simp only [Act.put, List.setIfInBounds_toArray, List.set_cons_zero, List.set_cons_succ, i64_w, i32_w]
                    rfl
                  refine pure_ (i := 9) (N := some 144) (v := ?_) (a' := ?_) #[true, true, true, true, true, true, true, true, true, true, false, false, false, false, false, false, false, false] rfl rfl (any_of HT_.out (by kernel_rfl)) (fun _ _ _ h => h) (Or.inl ⟨by rfl, ?_⟩) ?_ ?_
                  rotate_left
                  · intro w'
                    go_simp
                    with_reducible rfl
                  rotate_left
                  · simp only [Act.put, List.setIfInBounds_toArray, List.set_cons_zero, List.set_cons_succ, i64_w, i32_w]
                    rfl
                  refine pure_ (i := 10) (N := some 145) (v := ?_) (a' := ?_) #[true, true, true, true, true, true, true, true, true, true, true, false, false, false, false, false, false, false] rfl rfl (any_of HT_.out (by kernel_rfl)) (fun _ _ _ h => h) (Or.inl ⟨by rfl, ?_⟩) ?_ ?_
                  rotate_left
                  · intro w'
                    go_simp
                    with_reducible rfl
                  rotate_left
                  · simp only [Act.put, List.setIfInBounds_toArray, List.set_cons_zero, List.set_cons_succ, i64_w, i32_w]
                    rfl
                  refine pure_ (i := 11) (N := some 146) (v := ?_) (a' := ?_) #[true, true, true, true, true, true, true, true, true, true, true, true, false, false, false, false, false, false] rfl rfl (any_of HT_.out (by kernel_rfl)) (fun _ _ _ h => h) (Or.inl ⟨by rfl, ?_⟩) ?_ ?_
                  rotate_left
                  · intro w'
                    go_simp
                    with_reducible rfl
                  rotate_left
                  · simp only [Act.put, List.setIfInBounds_toArray, List.set_cons_zero, List.set_cons_succ, i64_w, i32_w]
                    rfl
                  refine take_ (i := 12) (N := some 147) (v := ?_) (a' := ?_) #[true, true, true, true, true, true, true, true, true, true, true, true, true, false, false, false, false, false] rfl rfl (take_ofW HT_.out HW_.out (by kernel_rfl)) (fun _ _ _ h => h) (Or.inl ⟨by rfl, ?_⟩) hHeld ?_ ?_
                  rotate_left
                  · rintro w' ⟨s0, s1⟩
                    go_simp
                    with_reducible rfl
                  rotate_left
                  · simp only [Act.put, List.setIfInBounds_toArray, List.set_cons_zero, List.set_cons_succ, i64_w, i32_w]
                    rfl
                  refine pure_ (i := 13) (N := some 148) (v := ?_) (a' := ?_) #[true, true, true, true, true, true, true, true, true, true, true, true, true, true, false, false, false, false] rfl rfl (any_of HT_.out (by kernel_rfl)) (fun _ _ _ h => h) (Or.inl ⟨by rfl, ?_⟩) ?_ ?_
                  rotate_left
                  · intro w'
                    go_simp
                    with_reducible rfl
                  rotate_left
                  · simp only [Act.put, List.setIfInBounds_toArray, List.set_cons_zero, List.set_cons_succ, i64_w, i32_w]
                    rfl
                  refine pure_ (i := 14) (N := some 149) (v := ?_) (a' := ?_) #[true, true, true, true, true, true, true, true, true, true, true, true, true, true, true, false, false, false] rfl rfl (any_of HT_.out (by kernel_rfl)) (fun _ _ _ h => h) (Or.inl ⟨by rfl, ?_⟩) ?_ ?_
                  rotate_left
                  · intro w'
                    go_simp
                    with_reducible rfl
                  rotate_left
                  · simp only [Act.put, List.setIfInBounds_toArray, List.set_cons_zero, List.set_cons_succ, i64_w, i32_w]
                    rfl
                  refine pure_ (i := 15) (N := some 150) (v := ?_) (a' := ?_) #[true, true, true, true, true, true, true, true, true, true, true, true, true, true, true, true, false, false] rfl rfl (any_of HT_.out (by kernel_rfl)) (fun _ _ _ h => h) (Or.inl ⟨by rfl, ?_⟩) ?_ ?_
                  rotate_left
                  · intro w'
                    go_simp
                    with_reducible rfl
                  rotate_left
                  · simp only [Act.put, List.setIfInBounds_toArray, List.set_cons_zero, List.set_cons_succ, i64_w, i32_w]
                    rfl
                  refine one_ (i := 16) (N := some 151) #[true, true, true, true, true, true, true, true, true, true, true, true, true, true, true, true, true, false] rfl rfl (one_of HT_.out (by kernel_rfl)) (by decide) (fun K hK => ?_)
                  refine goes_ Try.func47 (by kernel_rfl) rfl #[.pointer (some ⟨x, 0, none⟩), .agg #[.int .i64 s.f0, .int .i64 (t : Int), .int .i64 (wrap64 ((t : Int) + s.f2)), .int .i64 s.f1]] (by rfl) rfl rfl (by (try simp only [List.map_toArray, List.map_cons, List.map_nil]); first | done | rfl) ?_
                  refine (addE.calls x h ⟨s.f0, (t : Int), wrap64 ((t : Int) + s.f2), s.f1⟩ L w5 HE.out HM.out HIN.out (by have := HS.out.len; omega)).mono ?_
                  rintro e w6 ⟨rfl, q1, q2⟩
                  refine ⟨_, rfl, ?_⟩
                  rw [HWR.out] at q1
                  replace HN := Lib.hid (HE.out.keep q2 HN.out (by decide))
                  replace HBC := Lib.hid (HBC.out.grown q2 HBC.out.size (fun r e => by cases e; exact HHW.out))
                  replace HE := Lib.hid q1
                  clear q1 q2
                  refine hK.out _ _ ⟨(HBC.out.cell (World.block_lt_of_cell? wc _ HX0.out)).trans HX0.out, (HBC.out.cell (World.block_lt_of_cell? wc _ HX2.out)).trans HX2.out⟩ (fun hHeld => ?_)
                  clear hK K
                  refine norm_ (a' := ?_) ?_ ?_
                  rotate_left
                  · show Act.put _ (some 151) _ = _
                    simp only [Act.put, List.setIfInBounds_toArray, List.set_cons_zero, List.set_cons_succ, i64_w, i32_w]
                    rfl
                  refine pure_ (i := 17) (N := some 152) (v := ?_) (a' := ?_) #[true, true, true, true, true, true, true, true, true, true, true, true, true, true, true, true, true, true] rfl rfl (any_of HT_.out (by kernel_rfl)) (fun _ _ _ h => h) (Or.inl ⟨by rfl, ?_⟩) ?_ ?_
                  rotate_left
                  · intro w'
                    go_simp
                    with_reducible rfl
                  rotate_left
                  · simp only [Act.put, List.setIfInBounds_toArray, List.set_cons_zero, List.set_cons_succ, i64_w, i32_w]
                    rfl
                  refine done_ (done_of HT_.out (by kernel_rfl)) ?_
                  clear hHeld
                  have z3 := (HBC.out.cell (World.block_lt_of_cell? wc _ HX3.out)).trans HX3.out
                  have n0 : w6.cell? ⟨bn, i, none⟩ = some (.int .i64 (nx xs i)) := (blk_cell HN.out i).trans (arr6_get _ (by omega))
                  have hn6 := blk_frozen HN.out i
                  go_wp2
                  go_roundg (T.length - (i + 1) + 1)
                  case measure => omega
                  case rel => exact ⟨i + 1, n + 1, xs', _, by go_num, by go_num, by omega, by omega, by omega, HS1, Lib.hid (by rw [← HNX.out]; exact blk_put6 HN.out (by omega) _), Lib.hid (HE.out.setM HN.out (by decide) (by decide) (by decide) i _), Lib.hid (HBC.out.setCell (p := ⟨bn, i, none⟩) HBN.out _)⟩
              · by_cases b2 : n < l2.length
                · skip
                  have c2 : (n : Int) < (l2.length : Int) := by omega
                  obtain ⟨af, e0, hy2⟩ := Kd.at_int HL2.out n c0 c2
                  cases e0
                  simp only [Int.toNat_natCast] at hy2
                  replace hy2 := (HB.out.cell (World.block_lt_of_cell? w _ hy2)).trans hy2
                  replace hy2 := (HBC.out.cell (World.block_lt_of_cell? wc _ hy2)).trans hy2
                  generalize rd l2 (n : Int) = wo at hy2
                  obtain ⟨d1, d2, d3, d4, d5, d6, d7⟩ := rem_rng wo (m := s.f1) (by omega) (by omega)
                  obtain ⟨r1, e1⟩ : ∃ r, Int.tmod wo s.f1 = r := ⟨_, rfl⟩
                  rw [e1] at d1 d2 d3 d4 d5 d6 d7
                  obtain ⟨r2, e2⟩ : ∃ r, (r1 + s.f1) % s.f1 = r := ⟨_, rfl⟩
                  rw [e2] at d5 d6 d7
                  clear e2
                  obtain ⟨hid, hmay, xs', hS', hnx'⟩ := HS.out.release (c := (1 + r2)) (wait := 0) HMT.out HSI.out (by omega) (by omega) (by omega) (by omega) (by omega)
                  have HIN := Lib.hid hid
                  have HM : Hid (jmay ⟨s.f0, (t : Int), wrap64 ((t : Int) + s.f2), (1 + r2)⟩ = true) := Lib.hid (by rw [HWR.out]; exact hmay)
                  have HS1 := Lib.hid hS'
                  rw [Int.add_zero] at hnx'
                  have HNX := Lib.hid hnx'
                  clear hid hmay hS' hnx'
                  go_wp2
                  clear z1 z3 n0
                  replace HE := Lib.hid (HE.out.below (below_drew (Below.refl _ _)))
                  replace HN := Lib.hid (blk_drew HN.out)
                  replace HBC := Lib.hid (below_drew1 HBC.out)
                  refine start_ (n := 18) (S := fun w' => w'.cell? (ad.add (i * 5)) = some (.int .i64 s.f0) ∧ w'.cell? ⟨(ad.add (i * 5)).block, (ad.add (i * 5)).off + 2, none⟩ = some (.int .i64 s.f2)) (ds := []) #[false, false, false, false, false, false, false, false, false, false, false, false, false, false, false, false, false, false] (by kernel_rfl) rfl rfl ⟨(HBC.out.cell (World.block_lt_of_cell? wc _ HX0.out)).trans HX0.out, (HBC.out.cell (World.block_lt_of_cell? wc _ HX2.out)).trans HX2.out⟩ (fun hHeld => ?_); refine with_tabW meets.tab33 meets.bits33 (fun HT_ HW_ => ?_)
                  generalize wr.drew = w5 at HE HN HBC hHeld ⊢
                  refine pure_ (i := 0) (N := some 135) (v := ?_) (a' := ?_) #[true, false, false, false, false, false, false, false, false, false, false, false, false, false, false, false, false, false] rfl rfl (any_of HT_.out (by kernel_rfl)) (fun _ _ _ h => h) (Or.inl ⟨by rfl, ?_⟩) ?_ ?_
                  rotate_left
                  · intro w'
                    go_simp
                    with_reducible rfl
                  rotate_left
                  · simp only [Act.put, List.setIfInBounds_toArray, List.set_cons_zero, List.set_cons_succ, i64_w, i32_w]
                    rfl
                  refine pure_ (i := 1) (N := some 136) (v := ?_) (a' := ?_) #[true, true, false, false, false, false, false, false, false, false, false, false, false, false, false, false, false, false] rfl rfl (any_of HT_.out (by kernel_rfl)) (fun _ _ _ h => h) (Or.inl ⟨by rfl, ?_⟩) ?_ ?_
                  rotate_left
                  · intro w'
                    go_simp
                    with_reducible rfl
                  rotate_left
                  · simp only [Act.put, List.setIfInBounds_toArray, List.set_cons_zero, List.set_cons_succ, i64_w, i32_w]
                    rfl
                  refine pure_ (i := 2) (N := some 137) (v := ?_) (a' := ?_) #[true, true, true, false, false, false, false, false, false, false, false, false, false, false, false, false, false, false] rfl rfl (any_of HT_.out (by kernel_rfl)) (fun _ _ _ h => h) (Or.inl ⟨by rfl, ?_⟩) ?_ ?_
                  rotate_left
                  · intro w'
                    go_simp
                    with_reducible rfl
                  rotate_left
                  · simp only [Act.put, List.setIfInBounds_toArray, List.set_cons_zero, List.set_cons_succ, i64_w, i32_w]
                    rfl
                  refine pure_ (i := 3) (N := some 138) (v := ?_) (a' := ?_) #[true, true, true, true, false, false, false, false, false, false, false, false, false, false, false, false, false, false] rfl rfl (any_of HT_.out (by kernel_rfl)) (fun _ _ _ h => h) (Or.inl ⟨by rfl, ?_⟩) ?_ ?_
                  rotate_left
                  · intro w'
                    go_simp
                    with_reducible rfl
                  rotate_left
                  · simp only [Act.put, List.setIfInBounds_toArray, List.set_cons_zero, List.set_cons_succ, i64_w, i32_w]
                    rfl
                  refine pure_ (i := 4) (N := some 139) (v := ?_) (a' := ?_) #[true, true, true, true, true, false, false, false, false, false, false, false, false, false, false, false, false, false] rfl rfl (any_of HT_.out (by kernel_rfl)) (fun _ _ _ h => h) (Or.inl ⟨by rfl, ?_⟩) ?_ ?_
                  rotate_left
                  · intro w'
                    go_simp
                    with_reducible rfl
                  rotate_left
                  · simp only [Act.put, List.setIfInBounds_toArray, List.set_cons_zero, List.set_cons_succ, i64_w, i32_w]
                    rfl
                  refine take_ (i := 5) (N := some 140) (v := ?_) (a' := ?_) #[true, true, true, true, true, true, false, false, false, false, false, false, false, false, false, false, false, false] rfl rfl (take_ofW HT_.out HW_.out (by kernel_rfl)) (fun _ _ _ h => h) (Or.inl ⟨by rfl, ?_⟩) hHeld ?_ ?_
                  rotate_left
                  · rintro w' ⟨s0, s1⟩
                    go_simp
                    with_reducible rfl
                  rotate_left
                  · simp only [Act.put, List.setIfInBounds_toArray, List.set_cons_zero, List.set_cons_succ, i64_w, i32_w]
                    rfl
                  refine pure_ (i := 6) (N := some 141) (v := ?_) (a' := ?_) #[true, true, true, true, true, true, true, false, false, false, false, false, false, false, false, false, false, false] rfl rfl (any_of HT_.out (by kernel_rfl)) (fun _ _ _ h => h) (Or.inl ⟨by rfl, ?_⟩) ?_ ?_
                  rotate_left
                  · intro w'
                    go_simp
                    with_reducible rfl
                  rotate_left
                  · simp only [Act.put, List.setIfInBounds_toArray, List.set_cons_zero, List.set_cons_succ, i64_w, i32_w]
                    rfl
                  refine pure_ (i := 7) (N := some 142) (v := ?_) (a' := ?_) #[true, true, true, true, true, true, true, true, false, false, false, false, false, false, false, false, false, false] rfl rfl (any_of HT_.out (by kernel_rfl)) (fun _ _ _ h => h) (Or.inl ⟨by rfl, ?_⟩) ?_ ?_
                  rotate_left
                  · intro w'
                    go_simp
                    with_reducible rfl
                  rotate_left
                  · simp only [Act.put, List.setIfInBounds_toArray, List.set_cons_zero, List.set_cons_succ, i64_w, i32_w]
                    rfl
                  refine pure_ (i := 8) (N := some 143) (v := ?_) (a' := ?_) #[true, true, true, true, true, true, true, true, true, false, false, false, false, false, false, false, false, false] rfl rfl (any_of HT_.out (by kernel_rfl)) (fun _ _ _ h => h) (Or.inl ⟨by rfl, ?_⟩) ?_ ?_
                  rotate_left
                  · intro w'
                    go_simp
                    with_reducible rfl
                  rotate_left
                  · simp only [Act.put, List.setIfInBounds_toArray, List.set_cons_zero, List.set_cons_succ, i64_w, i32_w]
                    rfl
                  refine pure_ (i := 9) (N := some 144) (v := ?_) (a' := ?_) #[true, true, true, true, true, true, true, true, true, true, false, false, false, false, false, false, false, false] rfl rfl (any_of HT_.out (by kernel_rfl)) (fun _ _ _ h => h) (Or.inl ⟨by rfl, ?_⟩) ?_ ?_
                  rotate_left
                  · intro w'
                    go_simp
                    with_reducible rfl
                  rotate_left
                  · simp only [Act.put, List.setIfInBounds_toArray, List.set_cons_zero, List.set_cons_succ, i64_w, i32_w]
                    rfl
                  refine pure_ (i := 10) (N := some 145) (v := ?_) (a' := ?_) #[true, true, true, true, true, true, true, true, true, true, true, false, false, false, false, false, false, false] rfl rfl (any_of HT_.out (by kernel_rfl)) (fun _ _ _ h => h) (Or.inl ⟨by rfl, ?_⟩) ?_ ?_
                  rotate_left
                  · intro w'
                    go_simp
                    with_reducible rfl
                  rotate_left
                  · simp only [Act.put, List.setIfInBounds_toArray, List.set_cons_zero, List.set_cons_succ, i64_w, i32_w]
                    rfl
                  refine pure_ (i := 11) (N := some 146) (v := ?_) (a' := ?_) #[true, true, true, true, true, true, true, true, true, true, true, true, false, false, false, false, false, false] rfl rfl (any_of HT_.out (by kernel_rfl)) (fun _ _ _ h => h) (Or.inl ⟨by rfl, ?_⟩) ?_ ?_
                  rotate_left
                  · intro w'
                    go_simp
                    with_reducible rfl
                  rotate_left
                  · simp only [Act.put, List.setIfInBounds_toArray, List.set_cons_zero, List.set_cons_succ, i64_w, i32_w]
                    rfl
                  refine take_ (i := 12) (N := some 147) (v := ?_) (a' := ?_) #[true, true, true, true, true, true, true, true, true, true, true, true, true, false, false, false, false, false] rfl rfl (take_ofW HT_.out HW_.out (by kernel_rfl)) (fun _ _ _ h => h) (Or.inl ⟨by rfl, ?_⟩) hHeld ?_ ?_
                  rotate_left
                  · rintro w' ⟨s0, s1⟩
                    go_simp
                    with_reducible rfl
                  rotate_left
                  · simp only [Act.put, List.setIfInBounds_toArray, List.set_cons_zero, List.set_cons_succ, i64_w, i32_w]
                    rfl
                  refine pure_ (i := 13) (N := some 148) (v := ?_) (a' := ?_) #[true, true, true, true, true, true, true, true, true, true, true, true, true, true, false, false, false, false] rfl rfl (any_of HT_.out (by kernel_rfl)) (fun _ _ _ h => h) (Or.inl ⟨by rfl, ?_⟩) ?_ ?_
                  rotate_left
                  · intro w'
                    go_simp
                    with_reducible rfl
                  rotate_left
                  · simp only [Act.put, List.setIfInBounds_toArray, List.set_cons_zero, List.set_cons_succ, i64_w, i32_w]
                    rfl
                  refine pure_ (i := 14) (N := some 149) (v := ?_) (a' := ?_) #[true, true, true, true, true, true, true, true, true, true, true, true, true, true, true, false, false, false] rfl rfl (any_of HT_.out (by kernel_rfl)) (fun _ _ _ h => h) (Or.inl ⟨by rfl, ?_⟩) ?_ ?_
                  rotate_left
                  · intro w'
                    go_simp
                    with_reducible rfl
                  rotate_left
                  · simp only [Act.put, List.setIfInBounds_toArray, List.set_cons_zero, List.set_cons_succ, i64_w, i32_w]
                    rfl
                  refine pure_ (i := 15) (N := some 150) (v := ?_) (a' := ?_) #[true, true, true, true, true, true, true, true, true, true, true, true, true, true, true, true, false, false] rfl rfl (any_of HT_.out (by kernel_rfl)) (fun _ _ _ h => h) (Or.inl ⟨by rfl, ?_⟩) ?_ ?_
                  rotate_left
                  · intro w'
                    go_simp
                    with_reducible rfl
                  rotate_left
                  · simp only [Act.put, List.setIfInBounds_toArray, List.set_cons_zero, List.set_cons_succ, i64_w, i32_w]
                    rfl
                  refine one_ (i := 16) (N := some 151) #[true, true, true, true, true, true, true, true, true, true, true, true, true, true, true, true, true, false] rfl rfl (one_of HT_.out (by kernel_rfl)) (by decide) (fun K hK => ?_)
                  refine goes_ Try.func47 (by kernel_rfl) rfl #[.pointer (some ⟨x, 0, none⟩), .agg #[.int .i64 s.f0, .int .i64 (t : Int), .int .i64 (wrap64 ((t : Int) + s.f2)), .int .i64 (1 + r2)]] (by rfl) rfl rfl (by (try simp only [List.map_toArray, List.map_cons, List.map_nil]); first | done | rfl) ?_
                  refine (addE.calls x h ⟨s.f0, (t : Int), wrap64 ((t : Int) + s.f2), (1 + r2)⟩ L w5 HE.out HM.out HIN.out (by have := HS.out.len; omega)).mono ?_
                  rintro e w6 ⟨rfl, q1, q2⟩
                  refine ⟨_, rfl, ?_⟩
                  rw [HWR.out] at q1
                  replace HN := Lib.hid (HE.out.keep q2 HN.out (by decide))
                  replace HBC := Lib.hid (HBC.out.grown q2 HBC.out.size (fun r e => by cases e; exact HHW.out))
                  replace HE := Lib.hid q1
                  clear q1 q2
                  refine hK.out _ _ ⟨(HBC.out.cell (World.block_lt_of_cell? wc _ HX0.out)).trans HX0.out, (HBC.out.cell (World.block_lt_of_cell? wc _ HX2.out)).trans HX2.out⟩ (fun hHeld => ?_)
                  clear hK K
                  refine norm_ (a' := ?_) ?_ ?_
                  rotate_left
                  · show Act.put _ (some 151) _ = _
                    simp only [Act.put, List.setIfInBounds_toArray, List.set_cons_zero, List.set_cons_succ, i64_w, i32_w]
                    rfl
                  refine pure_ (i := 17) (N := some 152) (v := ?_) (a' := ?_) #[true, true, true, true, true, true, true, true, true, true, true, true, true, true, true, true, true, true] rfl rfl (any_of HT_.out (by kernel_rfl)) (fun _ _ _ h => h) (Or.inl ⟨by rfl, ?_⟩) ?_ ?_
                  rotate_left
                  · intro w'
                    go_simp
                    with_reducible rfl
                  rotate_left
                  · simp only [Act.put, List.setIfInBounds_toArray, List.set_cons_zero, List.set_cons_succ, i64_w, i32_w]
                    rfl
                  refine done_ (done_of HT_.out (by kernel_rfl)) ?_
                  clear hHeld
                  have z3 := (HBC.out.cell (World.block_lt_of_cell? wc _ HX3.out)).trans HX3.out
                  have n0 : w6.cell? ⟨bn, i, none⟩ = some (.int .i64 (nx xs i)) := (blk_cell HN.out i).trans (arr6_get _ (by omega))
                  have hn6 := blk_frozen HN.out i
                  go_wp2
                  go_roundg (T.length - (i + 1) + 1)
                  case measure => omega
                  case rel => exact ⟨i + 1, n + 1, xs', _, by go_num, by go_num, by omega, by omega, by omega, HS1, Lib.hid (by rw [← HNX.out]; exact blk_put6 HN.out (by omega) _), Lib.hid (HE.out.setM HN.out (by decide) (by decide) (by decide) i _), Lib.hid (HBC.out.setCell (p := ⟨bn, i, none⟩) HBN.out _)⟩
                · skip
                  obtain ⟨hid, hmay, xs', hS', hnx'⟩ := HS.out.release (c := s.f1) (wait := 0) HMT.out HSI.out (by omega) (by omega) (by omega) (by omega) (by omega)
                  have HIN := Lib.hid hid
                  have HM : Hid (jmay ⟨s.f0, (t : Int), wrap64 ((t : Int) + s.f2), s.f1⟩ = true) := Lib.hid (by rw [HWR.out]; exact hmay)
                  have HS1 := Lib.hid hS'
                  rw [Int.add_zero] at hnx'
                  have HNX := Lib.hid hnx'
                  clear hid hmay hS' hnx'
                  go_wp2
                  clear z1 z3 n0
                  replace HE := Lib.hid (HE.out.below (below_drew (Below.refl _ _)))
                  replace HN := Lib.hid (blk_drew HN.out)
                  replace HBC := Lib.hid (below_drew1 HBC.out)
                  refine start_ (n := 18) (S := fun w' => w'.cell? (ad.add (i * 5)) = some (.int .i64 s.f0) ∧ w'.cell? ⟨(ad.add (i * 5)).block, (ad.add (i * 5)).off + 2, none⟩ = some (.int .i64 s.f2)) (ds := []) #[false, false, false, false, false, false, false, false, false, false, false, false, false, false, false, false, false, false] (by kernel_rfl) rfl rfl ⟨(HBC.out.cell (World.block_lt_of_cell? wc _ HX0.out)).trans HX0.out, (HBC.out.cell (World.block_lt_of_cell? wc _ HX2.out)).trans HX2.out⟩ (fun hHeld => ?_); refine with_tabW meets.tab33 meets.bits33 (fun HT_ HW_ => ?_)
                  generalize wr.drew = w5 at HE HN HBC hHeld ⊢
                  refine pure_ (i := 0) (N := some 135) (v := ?_) (a' := ?_) #[true, false, false, false, false, false, false, false, false, false, false, false, false, false, false, false, false, false] rfl rfl (any_of HT_.out (by kernel_rfl)) (fun _ _ _ h => h) (Or.inl ⟨by rfl, ?_⟩) ?_ ?_
                  rotate_left
                  · intro w'
                    go_simp
                    with_reducible rfl
                  rotate_left
                  · simp only [Act.put, List.setIfInBounds_toArray, List.set_cons_zero, List.set_cons_succ, i64_w, i32_w]
                    rfl
                  refine pure_ (i := 1) (N := some 136) (v := ?_) (a' := ?_) #[true, true, false, false, false, false, false, false, false, false, false, false, false, false, false, false, false, false] rfl rfl (any_of HT_.out (by kernel_rfl)) (fun _ _ _ h => h) (Or.inl ⟨by rfl, ?_⟩) ?_ ?_
                  rotate_left
                  · intro w'
                    go_simp
                    with_reducible rfl
                  rotate_left
                  · simp only [Act.put, List.setIfInBounds_toArray, List.set_cons_zero, List.set_cons_succ, i64_w, i32_w]
                    rfl
                  refine pure_ (i := 2) (N := some 137) (v := ?_) (a' := ?_) #[true, true, true, false, false, false, false, false, false, false, false, false, false, false, false, false, false, false] rfl rfl (any_of HT_.out (by kernel_rfl)) (fun _ _ _ h => h) (Or.inl ⟨by rfl, ?_⟩) ?_ ?_
                  rotate_left
                  · intro w'
                    go_simp
                    with_reducible rfl
                  rotate_left
                  · simp only [Act.put, List.setIfInBounds_toArray, List.set_cons_zero, List.set_cons_succ, i64_w, i32_w]
                    rfl
                  refine pure_ (i := 3) (N := some 138) (v := ?_) (a' := ?_) #[true, true, true, true, false, false, false, false, false, false, false, false, false, false, false, false, false, false] rfl rfl (any_of HT_.out (by kernel_rfl)) (fun _ _ _ h => h) (Or.inl ⟨by rfl, ?_⟩) ?_ ?_
                  rotate_left
                  · intro w'
                    go_simp
                    with_reducible rfl
                  rotate_left
                  · simp only [Act.put, List.setIfInBounds_toArray, List.set_cons_zero, List.set_cons_succ, i64_w, i32_w]
                    rfl
                  refine pure_ (i := 4) (N := some 139) (v := ?_) (a' := ?_) #[true, true, true, true, true, false, false, false, false, false, false, false, false, false, false, false, false, false] rfl rfl (any_of HT_.out (by kernel_rfl)) (fun _ _ _ h => h) (Or.inl ⟨by rfl, ?_⟩) ?_ ?_
                  rotate_left
                  · intro w'
                    go_simp
                    with_reducible rfl
                  rotate_left
                  · simp only [Act.put, List.setIfInBounds_toArray, List.set_cons_zero, List.set_cons_succ, i64_w, i32_w]
                    rfl
                  refine take_ (i := 5) (N := some 140) (v := ?_) (a' := ?_) #[true, true, true, true, true, true, false, false, false, false, false, false, false, false, false, false, false, false] rfl rfl (take_ofW HT_.out HW_.out (by kernel_rfl)) (fun _ _ _ h => h) (Or.inl ⟨by rfl, ?_⟩) hHeld ?_ ?_
                  rotate_left
                  · rintro w' ⟨s0, s1⟩
                    go_simp
                    with_reducible rfl
                  rotate_left
                  · simp only [Act.put, List.setIfInBounds_toArray, List.set_cons_zero, List.set_cons_succ, i64_w, i32_w]
                    rfl
                  refine pure_ (i := 6) (N := some 141) (v := ?_) (a' := ?_) #[true, true, true, true, true, true, true, false, false, false, false, false, false, false, false, false, false, false] rfl rfl (any_of HT_.out (by kernel_rfl)) (fun _ _ _ h => h) (Or.inl ⟨by rfl, ?_⟩) ?_ ?_
                  rotate_left
                  · intro w'
                    go_simp
                    with_reducible rfl
                  rotate_left
                  · simp only [Act.put, List.setIfInBounds_toArray, List.set_cons_zero, List.set_cons_succ, i64_w, i32_w]
                    rfl
                  refine pure_ (i := 7) (N := some 142) (v := ?_) (a' := ?_) #[true, true, true, true, true, true, true, true, false, false, false, false, false, false, false, false, false, false] rfl rfl (any_of HT_.out (by kernel_rfl)) (fun _ _ _ h => h) (Or.inl ⟨by rfl, ?_⟩) ?_ ?_
                  rotate_left
                  · intro w'
                    go_simp
                    with_reducible rfl
                  rotate_left
                  · simp only [Act.put, List.setIfInBounds_toArray, List.set_cons_zero, List.set_cons_succ, i64_w, i32_w]
                    rfl
                  refine pure_ (i := 8) (N := some 143) (v := ?_) (a' := ?_) #[true, true, true, true, true, true, true, true, true, false, false, false, false, false, false, false, false, false] rfl rfl (any_of HT_.out (by kernel_rfl)) (fun _ _ _ h => h) (Or.inl ⟨by rfl, ?_⟩) ?_ ?_
                  rotate_left
                  · intro w'
                    go_simp
                    with_reducible rfl
                  rotate_left
                  · simp only [Act.put, List.setIfInBounds_toArray, List.set_cons_zero, List.set_cons_succ, i64_w, i32_w]
                    rfl
                  refine pure_ (i := 9) (N := some 144) (v := ?_) (a' := ?_) #[true, true, true, true, true, true, true, true, true, true, false, false, false, false, false, false, false, false] rfl rfl (any_of HT_.out (by kernel_rfl)) (fun _ _ _ h => h) (Or.inl ⟨by rfl, ?_⟩) ?_ ?_
                  rotate_left
                  · intro w'
                    go_simp
                    with_reducible rfl
                  rotate_left
                  · simp only [Act.put, List.setIfInBounds_toArray, List.set_cons_zero, List.set_cons_succ, i64_w, i32_w]
                    rfl
                  refine pure_ (i := 10) (N := some 145) (v := ?_) (a' := ?_) #[true, true, true, true, true, true, true, true, true, true, true, false, false, false, false, false, false, false] rfl rfl (any_of HT_.out (by kernel_rfl)) (fun _ _ _ h => h) (Or.inl ⟨by rfl, ?_⟩) ?_ ?_
                  rotate_left
                  · intro w'
                    go_simp
                    with_reducible rfl
                  rotate_left
                  · simp only [Act.put, List.setIfInBounds_toArray, List.set_cons_zero, List.set_cons_succ, i64_w, i32_w]
                    rfl
                  refine pure_ (i := 11) (N := some 146) (v := ?_) (a' := ?_) #[true, true, true, true, true, true, true, true, true, true, true, true, false, false, false, false, false, false] rfl rfl (any_of HT_.out (by kernel_rfl)) (fun _ _ _ h => h) (Or.inl ⟨by rfl, ?_⟩) ?_ ?_
                  rotate_left
                  · intro w'
                    go_simp
                    with_reducible rfl
                  rotate_left
                  · simp only [Act.put, List.setIfInBounds_toArray, List.set_cons_zero, List.set_cons_succ, i64_w, i32_w]
                    rfl
                  refine take_ (i := 12) (N := some 147) (v := ?_) (a' := ?_) #[true, true, true, true, true, true, true, true, true, true, true, true, true, false, false, false, false, false] rfl rfl (take_ofW HT_.out HW_.out (by kernel_rfl)) (fun _ _ _ h => h) (Or.inl ⟨by rfl, ?_⟩) hHeld ?_ ?_
                  rotate_left
                  · rintro w' ⟨s0, s1⟩
                    go_simp
                    with_reducible rfl
                  rotate_left
                  · simp only [Act.put, List.setIfInBounds_toArray, List.set_cons_zero, List.set_cons_succ, i64_w, i32_w]
                    rfl
                  refine pure_ (i := 13) (N := some 148) (v := ?_) (a' := ?_) #[true, true, true, true, true, true, true, true, true, true, true, true, true, true, false, false, false, false] rfl rfl (any_of HT_.out (by kernel_rfl)) (fun _ _ _ h => h) (Or.inl ⟨by rfl, ?_⟩) ?_ ?_
                  rotate_left
                  · intro w'
                    go_simp
                    with_reducible rfl
                  rotate_left
                  · simp only [Act.put, List.setIfInBounds_toArray, List.set_cons_zero, List.set_cons_succ, i64_w, i32_w]
                    rfl
                  refine pure_ (i := 14) (N := some 149) (v := ?_) (a' := ?_) #[true, true, true, true, true, true, true, true, true, true, true, true, true, true, true, false, false, false] rfl rfl (any_of HT_.out (by kernel_rfl)) (fun _ _ _ h => h) (Or.inl ⟨by rfl, ?_⟩) ?_ ?_
                  rotate_left
                  · intro w'
                    go_simp
                    with_reducible rfl
                  rotate_left
                  · simp only [Act.put, List.setIfInBounds_toArray, List.set_cons_zero, List.set_cons_succ, i64_w, i32_w]
                    rfl
                  refine pure_ (i := 15) (N := some 150) (v := ?_) (a' := ?_) #[true, true, true, true, true, true, true, true, true, true, true, true, true, true, true, true, false, false] rfl rfl (any_of HT_.out (by kernel_rfl)) (fun _ _ _ h => h) (Or.inl ⟨by rfl, ?_⟩) ?_ ?_
                  rotate_left
                  · intro w'
                    go_simp
                    with_reducible rfl
                  rotate_left
                  · simp only [Act.put, List.setIfInBounds_toArray, List.set_cons_zero, List.set_cons_succ, i64_w, i32_w]
                    rfl
                  refine one_ (i := 16) (N := some 151) #[true, true, true, true, true, true, true, true, true, true, true, true, true, true, true, true, true, false] rfl rfl (one_of HT_.out (by kernel_rfl)) (by decide) (fun K hK => ?_)
                  refine goes_ Try.func47 (by kernel_rfl) rfl #[.pointer (some ⟨x, 0, none⟩), .agg #[.int .i64 s.f0, .int .i64 (t : Int), .int .i64 (wrap64 ((t : Int) + s.f2)), .int .i64 s.f1]] (by rfl) rfl rfl (by (try simp only [List.map_toArray, List.map_cons, List.map_nil]); first | done | rfl) ?_
                  refine (addE.calls x h ⟨s.f0, (t : Int), wrap64 ((t : Int) + s.f2), s.f1⟩ L w5 HE.out HM.out HIN.out (by have := HS.out.len; omega)).mono ?_
                  rintro e w6 ⟨rfl, q1, q2⟩
                  refine ⟨_, rfl, ?_⟩
                  rw [HWR.out] at q1
                  replace HN := Lib.hid (HE.out.keep q2 HN.out (by decide))
                  replace HBC := Lib.hid (HBC.out.grown q2 HBC.out.size (fun r e => by cases e; exact HHW.out))
                  replace HE := Lib.hid q1
                  clear q1 q2
                  refine hK.out _ _ ⟨(HBC.out.cell (World.block_lt_of_cell? wc _ HX0.out)).trans HX0.out, (HBC.out.cell (World.block_lt_of_cell? wc _ HX2.out)).trans HX2.out⟩ (fun hHeld => ?_)
                  clear hK K
                  refine norm_ (a' := ?_) ?_ ?_
                  rotate_left
                  · show Act.put _ (some 151) _ = _
                    simp only [Act.put, List.setIfInBounds_toArray, List.set_cons_zero, List.set_cons_succ, i64_w, i32_w]
                    rfl
                  refine pure_ (i := 17) (N := some 152) (v := ?_) (a' := ?_) #[true, true, true, true, true, true, true, true, true, true, true, true, true, true, true, true, true, true] rfl rfl (any_of HT_.out (by kernel_rfl)) (fun _ _ _ h => h) (Or.inl ⟨by rfl, ?_⟩) ?_ ?_
                  rotate_left
                  · intro w'
                    go_simp
                    with_reducible rfl
                  rotate_left
                  · simp only [Act.put, List.setIfInBounds_toArray, List.set_cons_zero, List.set_cons_succ, i64_w, i32_w]
                    rfl
                  refine done_ (done_of HT_.out (by kernel_rfl)) ?_
                  clear hHeld
                  have z3 := (HBC.out.cell (World.block_lt_of_cell? wc _ HX3.out)).trans HX3.out
                  have n0 : w6.cell? ⟨bn, i, none⟩ = some (.int .i64 (nx xs i)) := (blk_cell HN.out i).trans (arr6_get _ (by omega))
                  have hn6 := blk_frozen HN.out i
                  go_wp2
                  go_roundg (T.length - (i + 1) + 1)
                  case measure => omega
                  case rel => exact ⟨i + 1, n + 1, xs', _, by go_num, by go_num, by omega, by omega, by omega, HS1, Lib.hid (by rw [← HNX.out]; exact blk_put6 HN.out (by omega) _), Lib.hid (HE.out.setM HN.out (by decide) (by decide) (by decide) i _), Lib.hid (HBC.out.setCell (p := ⟨bn, i, none⟩) HBN.out _)⟩
          · obtain rfl : i = T.length := by omega
            have HSR := Lib.hid HE.out.srt
            cases L with
            | nil =>
              go_wp2_with (go_at_call 49; refine (runE_none.calls x h _ HE.out).mono ?_; rintro e w6 ⟨rfl, q1⟩; have HE6 := Lib.hid (HE.out.below q1); have HN6 := Lib.hid (blk_below HN.out q1); have HB6 := Lib.hid (below_step HBC.out q1); clear q1)
              go_roundg (100 - (t + 1) + 1)
              case measure => omega
              case rel => exact ⟨t + 1, n, xs, [], by go_num, rfl, by omega, by omega, by omega, Lib.hid HS.out.idle, HN6, HE6, HB6⟩
            | cons y R =>
              obtain ⟨r1, r2, xs', e1, e2, e3⟩ := HS.out.run HMT.out HSR.out
              have HX := Lib.hid e1
              by_cases h1 : y.f3 = 1
              · have HS1 := Lib.hid (e2 h1)
                clear e1 e2 e3
                go_wp2_with (go_at_call 49; refine (runE_done.calls x h y R _ HE.out h1 (by have := HS.out.len; simp at this; omega)).mono ?_; rintro e w6 ⟨rfl, q0, q1⟩; have HE6 := Lib.hid q0; have HN6 := Lib.hid (HE.out.keep q1 HN.out (by decide)); have HB6 := Lib.hid (HBC.out.grown q1 HBC.out.size (fun r e => by cases e; exact HHW.out)); clear q0 q1)
                go_roundg (100 - (t + 1) + 1)
                case measure => omega
                case rel => exact ⟨t + 1, n, xs', R, by go_num, rfl, by omega, by omega, by omega, HS1, Lib.hid (by rw [HX.out]; exact HN6.out), HE6, HB6⟩
              · have h2 : 1 < y.f3 := by omega
                have HS1 := Lib.hid (e3 h2)
                clear e1 e2 e3
                go_wp2_with (go_at_call 49; refine (runE_more.calls x h y R _ HE.out h2 (by omega) (by have := HS.out.len; simp at this; omega)).mono ?_; rintro e w6 ⟨rfl, q0, q1⟩; have HE6 := Lib.hid q0; have HN6 := Lib.hid (HE.out.keep q1 HN.out (by decide)); have HB6 := Lib.hid (HBC.out.grown q1 HBC.out.size (fun r e => by cases e; exact HHW.out)); clear q0 q1)
                go_roundg (100 - (t + 1) + 1)
                case measure => omega
                case rel => exact ⟨t + 1, n, xs', _, by go_num, rfl, by omega, by omega, by omega, HS1, Lib.hid (by rw [HX.out]; exact HN6.out), HE6, HB6⟩
      · obtain rfl : t = 100 := by omega
        go_wp2
        go_ret
        exact ⟨rfl, below_step HB.out HBC.out⟩

end Go.Proofs.Ytbkjoojfpmokaaa.PEdfMeets
