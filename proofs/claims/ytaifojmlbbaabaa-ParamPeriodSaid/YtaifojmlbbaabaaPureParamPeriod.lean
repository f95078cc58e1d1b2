/- ParamPeriod, the plain part: each period divides that of all, and no less number does so. -/
import Derived.Test.YtaifojmlbbaabaaPParamPeriodx2
import Derived.Test.YtaifojmlbbaabaaMDem
import Derived.Test.YtaifojmlbbaabaaMLcm

namespace Go.Proofs.Ytaifojmlbbaabaa.Pure
open Go.RowKit Go.Proofs.Ytaifojmlbbaabaa.PParamPeriod Go.Proofs.YtaifojmlbbaabaaW.PrintWords Go.Proofs.YtaifojmlbbaabaaW.PrintLast Go.Proofs.YtaifojmlbbaabaaW.PrintMore
set_option linter.unusedVariables false
set_option linter.unusedSimpArgs false

def tk (s : S28) : Hm.Tk := ⟨s.f0, s.f1, s.f2, s.f3, s.f4⟩
theorem taskB_ok (s : S28) : taskB s = true ↔ (tk s).ok := by
  unfold taskB Hm.Tk.ok tk
  simp only [Bool.and_eq_true, decide_eq_true_eq]
/-- Tasks may be. -/
def okL (l : List S28) : Prop := l.length ≤ 16 ∧ ∀ s ∈ l, (tk s).ok
theorem row_yes {l : List S28} (h : okL l) : param_Row.f l = some true := by
  unfold param_Row.f
  have h1 : l.all taskB = true := by rw [List.all_eq_true]; intro s hs; exact (taskB_ok s).2 (h.2 s hs)
  rw [h1]; simp [h.1]
theorem row_no {l : List S28} (h : ¬ okL l) : param_Row.f l = some false := by
  unfold param_Row.f
  by_cases h1 : l.length ≤ 16
  · have h2 : l.all taskB = false := by
      rw [Bool.eq_false_iff]; intro h3; rw [List.all_eq_true] at h3
      exact h ⟨h1, fun s hs => (taskB_ok s).1 (h3 s hs)⟩
    rw [h2]; simp
  · simp [h1]
theorem okL_map {l : List S28} (h : okL l) : ∀ t ∈ l.map tk, t.ok := by
  intro t ht; obtain ⟨s, hs, rfl⟩ := List.mem_map.1 ht; exact h.2 s hs
theorem rd_mid (pre : List S28) (s : S28) (suf : List S28) : rd_T28 (pre ++ s :: suf) (pre.length : Int) = s := by
  simp [rd_T28]
theorem w64 {n : Int} (h1 : -9223372036854775808 ≤ n) (h2 : n ≤ 9223372036854775807) : wrap64 n = n := by unfold wrap64; omega
theorem some_k {k : Nat} (h : 0 < k) : ∃ m, k = m + 1 := ⟨k - 1, by omega⟩

theorem gcd_loop (k : Nat) : ∀ a b : Int, -9223372036854775807 ≤ a → a ≤ 9223372036854775807 → -9223372036854775807 ≤ b → b ≤ 9223372036854775807 → b.natAbs < k → param_Gcd.l0 k a b = some ((Int.gcd a b : Nat) : Int) := by
  induction k with
  | zero => intro a b _ _ _ _ h; omega
  | succ k ih =>
    intro a b ha1 ha2 hb1 hb2 hk
    simp only [param_Gcd.l0]
    by_cases h : b = 0
    · subst h
      rw [if_pos rfl, Int.gcd_zero_right, w64 (by omega) (by omega)]
      unfold mx
      congr 1
      split <;> omega
    · rw [if_neg h]
      have e : (Int.tmod a b).natAbs = a.natAbs % b.natAbs := Int.natAbs_tmod a b
      have hl : a.natAbs % b.natAbs < b.natAbs := Nat.mod_lt _ (by omega)
      rw [ih b (Int.tmod a b) hb1 hb2 (by omega) (by omega) (by omega)]
      congr 2
      rw [Int.gcd_eq_natAbs_gcd_natAbs, Int.gcd_eq_natAbs_gcd_natAbs, e, Nat.gcd_comm a.natAbs b.natAbs, Nat.gcd_rec b.natAbs a.natAbs, Nat.gcd_comm]
theorem Gcd_is (k : Nat) {a b : Int} (ha1 : -9223372036854775807 ≤ a) (ha2 : a ≤ 9223372036854775807) (hb1 : -9223372036854775807 ≤ b) (hb2 : b ≤ 9223372036854775807) (hk : b.natAbs < k) : param_Gcd.f k a b = some ((Int.gcd a b : Nat) : Int) :=
  gcd_loop k a b ha1 ha2 hb1 hb2 hk

theorem per_go (k : Nat) (hk : 2147483648 < k) (l : List S28) : ∀ (m : Nat), 0 < m → m ≤ 1048576 → (∀ s ∈ l, (tk s).ok) →
    period.go k l (m : Int) = some (if Hm.perFrom m (l.map fun s => s.f3.toNat) ≤ 1048576 then ((Hm.perFrom m (l.map fun s => s.f3.toNat) : Nat) : Int) else 0, if Hm.perFrom m (l.map fun s => s.f3.toNat) ≤ 1048576 then 0 else 16) := by
  induction l with
  | nil => intro m h0 h1 _; simp [period.go, Hm.perFrom, h1]
  | cons s l ih =>
    intro m h0 h1 hok
    obtain ⟨_, _, h2, h3, h4, h5, _, _⟩ := hok s (by simp)
    simp only [tk] at h2 h3 h4 h5
    obtain ⟨t, ht⟩ : ∃ t : Nat, s.f3 = (t : Int) := ⟨s.f3.toNat, by omega⟩
    unfold period.go
    rw [ht, Gcd_is k (by omega) (by omega) (by omega) (by omega) (by omega)]
    simp only [Option.bind_some]
    have hg : Int.gcd (m : Int) (t : Int) = Nat.gcd m t := by simp [Int.gcd_eq_natAbs_gcd_natAbs]
    rw [hg]
    have hgp : 0 < Nat.gcd m t := Nat.gcd_pos_of_pos_left t h0
    rw [if_neg (by omega)]
    have e1 : Int.tdiv (t : Int) ((Nat.gcd m t : Nat) : Int) = ((t / Nat.gcd m t : Nat) : Int) := by rw [Int.tdiv_eq_ediv_of_nonneg (by omega)]; exact (Int.natCast_ediv t (Nat.gcd m t)).symm
    have hq : t / Nat.gcd m t ≤ t := Nat.div_le_self _ _
    rw [e1, w64 (n := ((t / Nat.gcd m t : Nat) : Int)) (by have := Int.natCast_nonneg (t / Nat.gcd m t); omega) (by have : ((t / Nat.gcd m t : Nat) : Int) ≤ (t : Int) := Int.ofNat_le.2 hq; omega)]
    have e2 : (m : Int) * ((t / Nat.gcd m t : Nat) : Int) = ((Nat.lcm m t : Nat) : Int) := by rw [← Hm.mul_quo_gcd (m := m) (t := t) (by omega)]; simp
    have hlcm : Nat.lcm m t ≤ 1048576 * 2147483648 := by
      rw [← Hm.mul_quo_gcd (m := m) (t := t) (by omega)]
      exact Nat.mul_le_mul h1 (by omega)
    rw [e2, w64 (by omega) (by omega)]
    have e3 : (s :: l).map (fun s => s.f3.toNat) = t :: l.map (fun s => s.f3.toNat) := by simp [ht]
    rw [e3]
    rw [show Hm.perFrom m (t :: l.map fun s => s.f3.toNat) = Hm.perFrom (Nat.lcm m t) (l.map fun s => s.f3.toNat) from rfl]
    have hlp : 0 < Nat.lcm m t := Nat.lcm_pos h0 (by omega)
    by_cases hle : Nat.lcm m t ≤ 1048576
    · rw [if_pos (by omega)]
      exact ih (Nat.lcm m t) hlp hle (fun x hx => hok x (by simp [hx]))
    · have hbig : ¬ Hm.perFrom (Nat.lcm m t) (l.map fun s => s.f3.toNat) ≤ 1048576 := by
        have hpos : 0 < Hm.perFrom (Nat.lcm m t) (l.map fun s => s.f3.toNat) := Hm.perFrom_pos hlp (fun x hx => by
          obtain ⟨y, hy, rfl⟩ := List.mem_map.1 hx
          obtain ⟨_, _, g2, g3, g4, _⟩ := hok y (by simp [hy])
          simp only [tk] at g2 g3 g4
          omega)
        have := Nat.le_of_dvd hpos (Hm.perFrom_start (Nat.lcm m t) (l.map fun s => s.f3.toNat))
        omega
      rw [if_neg (by omega), if_neg hbig, if_neg hbig]
theorem per_map (l : List S28) : Hm.per (l.map tk) = Hm.perFrom 1 (l.map fun s => s.f3.toNat) := by
  unfold Hm.per; rw [List.map_map]; rfl
theorem Period_ok {l : List S28} (k : Nat) (h : okL l) (hk : 2147483648 < k) (hp : Hm.per (l.map tk) ≤ 1048576) : param_Period.f k l = some ((Hm.per (l.map tk) : Int), 0) := by
  unfold param_Period.f
  rw [row_yes h]; simp only [Option.bind_some, if_true]
  have e := per_go k hk l 1 (by omega) (by omega) h.2
  rw [← per_map] at e
  rw [if_pos hp, if_pos hp] at e
  exact e
theorem Period_over {l : List S28} (k : Nat) (h : okL l) (hk : 2147483648 < k) (hp : ¬ Hm.per (l.map tk) ≤ 1048576) : param_Period.f k l = some (0, 16) := by
  unfold param_Period.f
  rw [row_yes h]; simp only [Option.bind_some, if_true]
  have e := per_go k hk l 1 (by omega) (by omega) h.2
  rw [← per_map] at e
  rw [if_neg hp, if_neg hp] at e
  exact e
theorem Period_arg {l : List S28} (k : Nat) (h : ¬ okL l) : param_Period.f k l = some (0, 1) := by
  unfold param_Period.f
  rw [row_no h]; rfl

/-- Tasks by numbers. -/
def MadeP (r : List S28) : Prop := ∀ i (h : i < r.length), (r[i]).f0 = (i : Int) ∧ 1 ≤ (r[i]).f1 ∧ (r[i]).f1 ≤ (r[i]).f2 ∧ (r[i]).f2 ≤ (r[i]).f3 ∧ (r[i]).f3 ≤ 24 ∧ (r[i]).f4 = 1
theorem mod_rng (a : Int) {m : Int} (h : 1 ≤ m) (hm : m ≤ 24) : 1 ≤ wrap64 (1 + Int.tmod (wrap64 (Int.tmod a m + m)) m) ∧ wrap64 (1 + Int.tmod (wrap64 (Int.tmod a m + m)) m) ≤ m := by
  have h1 : -m < Int.tmod a m ∧ Int.tmod a m < m := by
    rcases Int.le_total 0 a with ha | ha
    · have h2 := Int.tmod_lt_of_pos a (show 0 < m by omega); have h3 := Int.tmod_nonneg m ha; omega
    · have h2 := Int.tmod_lt_of_pos (-a) (show 0 < m by omega); have h3 := Int.tmod_nonneg m (show 0 ≤ -a by omega)
      rw [Int.neg_tmod] at h2 h3; omega
  rw [w64 (n := Int.tmod a m + m) (by omega) (by omega)]
  have h4 := Int.tmod_lt_of_pos (Int.tmod a m + m) (show 0 < m by omega); have h5 := Int.tmod_nonneg m (show 0 ≤ Int.tmod a m + m by omega)
  rw [w64 (by omega) (by omega)]; omega
theorem made_loop (l : List S31) (d : Nat) : ∀ (k i : Nat) (r : List S28), i + d = min l.length 16 → d < k → r.length = i → MadeP r →
    ∃ r', horariumlaw09_made.l0 k l r (i : Int) = some r' ∧ r'.length = min l.length 16 ∧ MadeP r' := by
  induction d with
  | zero =>
    intro k i r hd hk hr hm
    obtain ⟨k, rfl⟩ := some_k hk
    refine ⟨r, ?_, by omega, hm⟩
    simp only [horariumlaw09_made.l0]
    by_cases h : (i : Int) < (l.length : Int)
    · rw [if_pos h, if_neg (by omega)]
    · rw [if_neg h]
  | succ d ih =>
    intro k i r hd hk hr hm
    obtain ⟨k, rfl⟩ := some_k (show 0 < k by omega)
    simp only [horariumlaw09_made.l0]
    rw [if_pos (by omega), if_pos (by omega), if_pos (by omega)]
    have hT := mod_rng (rd_T31 l (i : Int)).f2 (m := 24) (by omega) (by omega)
    generalize wrap64 (1 + Int.tmod (wrap64 (Int.tmod (rd_T31 l (i : Int)).f2 24 + 24)) 24) = T at hT ⊢
    rw [if_neg (by omega)]
    have hD := mod_rng (rd_T31 l (i : Int)).f1 (m := T) (by omega) (by omega)
    generalize wrap64 (1 + Int.tmod (wrap64 (Int.tmod (rd_T31 l (i : Int)).f1 T + T)) T) = D at hD ⊢
    rw [if_neg (by omega), if_pos (by omega)]
    have hC := mod_rng (rd_T31 l (i : Int)).f0 (m := D) (by omega) (by omega)
    generalize wrap64 (1 + Int.tmod (wrap64 (Int.tmod (rd_T31 l (i : Int)).f0 D + D)) D) = C at hC ⊢
    rw [w64 (n := (i : Int) + 1) (by omega) (by omega)]
    have e : ((i : Int) + 1) = ((i + 1 : Nat) : Int) := by omega
    rw [e]
    refine ih k (i + 1) _ (by omega) (by omega) (by simp [hr]) ?_
    intro j hj
    by_cases h : j < r.length
    · rw [List.getElem_append_left h]; exact hm j h
    · have hj2 : j = r.length := by simp at hj; omega
      subst hj2
      rw [List.getElem_append_right (by omega)]
      simp only [Nat.sub_self, List.getElem_cons_zero]
      exact ⟨by omega, by omega, by omega, by omega, by omega, trivial⟩
theorem made_is (l : List S31) (k : Nat) (hk : 16 < k) : ∃ r, horariumlaw09_made.f k l = some r ∧ r.length = min l.length 16 ∧ MadeP r := by
  unfold horariumlaw09_made.f
  exact made_loop l (min l.length 16) k 0 [] (by omega) (by omega) rfl (fun i h => by simp at h)
theorem MadeP.okL {r : List S28} (h : MadeP r) (hl : r.length ≤ 16) : okL r := by
  refine ⟨hl, fun s hs => ?_⟩
  obtain ⟨i, hi, rfl⟩ := List.getElem_of_mem hs
  have := h i hi
  unfold Hm.Tk.ok tk
  simp only
  omega
theorem rd_at {r : List S28} {i : Nat} (hi : i < r.length) : rd_T28 r (i : Int) = r[i] := by
  simp [rd_T28, hi]

theorem awake_is : ∀ k, 40 ≤ k → horariumlaw09_awake.f k = some true := by
  have h : horariumlaw09_awake.f 40 = some true := by decide +kernel
  intro k hk
  exact at_rounds (horariumlaw09_awake.mono) hk h

theorem take_okL {l : List S28} (h : okL l) (n : Nat) : okL (l.take n) := ⟨by have := h.1; simp; omega, fun s hs => h.2 s (List.mem_of_mem_take hs)⟩
section
variable {t : List S28} (hok : okL t) (ht : ∀ s ∈ t, s.f3 ≤ 24) {p : Nat} (hp0 : 0 < p) (hp : p ≤ 1048576)
include hok hp0 hp
/-- the inner loop: is what is left of p by x a multiple of all periods? -/
theorem inner (x : Nat) (hx2 : 2 ≤ x) (hx3 : x < 24) (d : Nat) : ∀ (k i : Nat) (b : Bool), i + d = t.length → d < k → (b = true → x ∣ p ∧ ∀ j (h : j < t.length), j < i → (t[j]).f3 ∣ ((p / x : Nat) : Int)) →
    (¬ (x ∣ p ∧ ∀ j (h : j < t.length), (t[j]).f3 ∣ ((p / x : Nat) : Int))) → ∃ k', k ≤ k' + d + 1 ∧ k' < k ∧ horariumlaw09_ParamPeriod.l2 k true t p x b i = horariumlaw09_ParamPeriod.l1 k' true t p (((x + 1 : Nat)) : Int) := by
  induction d with
  | zero =>
    intro k i b hd hk hb hno
    obtain ⟨k, rfl⟩ := some_k (show 0 < k by omega)
    refine ⟨k, by omega, by omega, ?_⟩
    simp only [horariumlaw09_ParamPeriod.l2]
    rw [if_neg (by omega)]
    cases b with
    | true => exact absurd ⟨(hb rfl).1, fun j h => (hb rfl).2 j h (by omega)⟩ hno
    | false => rw [if_neg (by decide), w64 (by omega) (by omega)]; rfl
  | succ d ih =>
    intro k i b hd hk hb hno
    obtain ⟨k, rfl⟩ := some_k (show 0 < k by omega)
    have hi : i < t.length := by omega
    have hlen := hok.1
    simp only [horariumlaw09_ParamPeriod.l2]
    rw [if_pos (by omega)]
    cases b with
    | false => exact ⟨k, by omega, by omega, by rw [if_neg (by decide), w64 (by omega) (by omega)]; rfl⟩
    | true =>
      obtain ⟨_, _, h2, h3, h4, h5, _, _⟩ := hok.2 _ (List.getElem_mem hi)
      simp only [tk] at h2 h3 h4 h5
      have hq : p / x ≤ p := Nat.div_le_self _ _
      have e1 : Int.tdiv (p : Int) (x : Int) = ((p / x : Nat) : Int) := by rw [Int.tdiv_eq_ediv_of_nonneg (by omega)]; exact (Int.natCast_ediv p x).symm
      rw [if_pos rfl, if_neg (by omega), if_pos (by omega), rd_at hi, if_neg (by omega), e1, w64 (n := ((p / x : Nat) : Int)) (by have := Int.natCast_nonneg (p / x); omega) (by have : ((p / x : Nat) : Int) ≤ (p : Int) := Int.ofNat_le.2 hq; omega), w64 (n := (i : Int) + 1) (by omega) (by omega)]
      obtain ⟨k', h1', h2', h3'⟩ := ih k (i + 1) (Int.tmod ((p / x : Nat) : Int) (t[i]).f3 == 0) (by omega) (by omega) (fun hbt => ⟨(hb rfl).1, fun j h hj => by
        rcases Nat.lt_succ_iff_lt_or_eq.1 hj with h | rfl
        · exact (hb rfl).2 j _ h
        · exact Int.dvd_of_tmod_eq_zero (by simpa using hbt)⟩) hno
      exact ⟨k', by omega, by omega, by rw [← h3']; rfl⟩
theorem outer (hl : ∀ x : Nat, 2 ≤ x → ¬ (x ∣ p ∧ ∀ j (h : j < t.length), (t[j]).f3 ∣ ((p / x : Nat) : Int))) (d : Nat) : ∀ (k x : Nat), 2 ≤ x → x + d = 24 → d * 20 + 30 ≤ k → horariumlaw09_ParamPeriod.l1 k true t p x = some true := by
  induction d with
  | zero =>
    intro k x h2 hx hk
    obtain ⟨k, rfl⟩ := some_k (show 0 < k by omega)
    simp only [horariumlaw09_ParamPeriod.l1]
    rw [if_neg (by omega)]
  | succ d ih =>
    intro k x h2 hx hk
    obtain ⟨k, rfl⟩ := some_k (show 0 < k by omega)
    have hlen := hok.1
    simp only [horariumlaw09_ParamPeriod.l1]
    rw [if_pos (by omega), if_neg (by omega)]
    obtain ⟨k', h1', h2', h3'⟩ := inner hok hp0 hp x h2 (by omega) t.length k 0 (Int.tmod (p : Int) (x : Int) == 0) (by omega) (by omega) (fun hb => ⟨by
      have h := Int.dvd_of_tmod_eq_zero (by simpa using hb : Int.tmod (p : Int) (x : Int) = 0)
      exact Int.natCast_dvd_natCast.1 h, fun j h hj => absurd hj (Nat.not_lt_zero _)⟩) (hl x h2)
    rw [show ((0 : Nat) : Int) = 0 from rfl] at h3'
    rw [h3']
    exact ih k' (x + 1) (by omega) (by omega) (by omega)
theorem divides (hl : ∀ x : Nat, 2 ≤ x → ¬ (x ∣ p ∧ ∀ j (h : j < t.length), (t[j]).f3 ∣ ((p / x : Nat) : Int))) (hdv : ∀ s ∈ t, s.f3 ∣ (p : Int)) (d : Nat) : ∀ (k i : Nat), i + d = t.length → d + 600 ≤ k → horariumlaw09_ParamPeriod.l0 k true t p i = some true := by
  induction d with
  | zero =>
    intro k i hd hk
    obtain ⟨k, rfl⟩ := some_k (show 0 < k by omega)
    simp only [horariumlaw09_ParamPeriod.l0]
    rw [if_neg (by omega)]
    exact outer hok hp0 hp hl 22 k 2 (by omega) (by omega) (by omega)
  | succ d ih =>
    intro k i hd hk
    obtain ⟨k, rfl⟩ := some_k (show 0 < k by omega)
    have hi : i < t.length := by omega
    have hlen := hok.1
    obtain ⟨_, _, h2, h3, h4, h5, _, _⟩ := hok.2 _ (List.getElem_mem hi)
    simp only [tk] at h2 h3 h4 h5
    simp only [horariumlaw09_ParamPeriod.l0]
    rw [if_pos (by omega), if_pos (by omega), rd_at hi, if_neg (by omega), Int.tmod_eq_zero_of_dvd (hdv _ (List.getElem_mem hi)), if_pos rfl, w64 (by omega) (by omega)]
    exact ih k (i + 1) (by omega) (by omega)
end
theorem period_end (k : Nat) (hk : 2147483648 + 1000 ≤ k) (t : List S28) (hok : okL t) (h24 : ∀ s ∈ t, s.f3 ≤ 24) : horariumlaw09_ParamPeriod.j0 k true t = some true := by
  obtain ⟨k, rfl⟩ := some_k (show 0 < k by omega)
  have hlen := hok.1
  simp only [horariumlaw09_ParamPeriod.j0]
  by_cases hp : Hm.per (t.map tk) ≤ 1048576
  · rw [Period_ok k hok (by omega) hp]
    simp only [Option.bind_some]
    have hpos := Hm.per_pos (okL_map hok)
    rw [if_neg (by omega)]
    simp only [if_true]
    have e : decide ((Hm.per (t.map tk) : Int) < 1) = false := by simp; omega
    rw [e]
    obtain ⟨k, rfl⟩ := some_k (show 0 < k by omega)
    simp only [horariumlaw09_ParamPeriod.j1]
    rw [if_neg (by decide)]
    refine divides hok hpos hp ?_ ?_ t.length k 0 (by omega) (by omega)
    · rintro x hx ⟨hd, hall⟩
      have h1 : Hm.per (t.map tk) ∣ Hm.per (t.map tk) / x := Hm.per_least (okL_map hok) (fun s hs => by
        obtain ⟨y, hy, rfl⟩ := List.mem_map.1 hs
        obtain ⟨j, hj, rfl⟩ := List.getElem_of_mem hy
        exact hall j hj)
      have h2 : 0 < Hm.per (t.map tk) / x := Nat.div_pos (Nat.le_of_dvd hpos hd) (by omega)
      have h3 := Nat.le_of_dvd h2 h1
      have h4 := Nat.div_lt_self hpos (show 1 < x by omega)
      omega
    · intro s hs
      exact Hm.per_dvd (okL_map hok) (t := tk s) (List.mem_map.2 ⟨s, hs, rfl⟩)
  · rw [Period_over k hok (by omega) hp]
    simp only [Option.bind_some]
    simp only [if_true]
    have h1 : Hm.per (t.map tk) ≤ 1 * 24 ^ ((t.map tk).map fun s => s.t.toNat).length := Hm.perFrom_le_mul (fun x hx => by
      obtain ⟨y, hy, rfl⟩ := List.mem_map.1 hx
      obtain ⟨z, hz, rfl⟩ := List.mem_map.1 hy
      have := h24 z hz
      simp only [tk]; omega) (by omega)
    have h2 : 3 < t.length := by
      by_cases h : t.length ≤ 3
      · have h3 : 24 ^ ((t.map tk).map fun s => s.t.toNat).length ≤ 24 ^ 3 := Nat.pow_le_pow_right (by omega) (by simpa using h)
        omega
      · omega
    simp; omega
theorem ParamPeriod : horariumlaw09_ParamPeriod.Pure := by
  intro l _ _
  obtain ⟨r, hr, hl, hm⟩ := made_is l 3000000000 (by omega)
  have hok := hm.okL (by omega)
  have h24 : ∀ s ∈ r, s.f3 ≤ 24 := fun s hs => by obtain ⟨i, hi, rfl⟩ := List.getElem_of_mem hs; have := hm i hi; omega
  refine ⟨3000000000, ?_⟩
  generalize hK : (3000000000 : Nat) = K at hr ⊢
  unfold horariumlaw09_ParamPeriod.f
  rw [awake_is K (by omega), hr]
  simp only [Option.bind_some]
  by_cases h6 : (r.length : Int) > 6
  · rw [if_pos h6, if_pos (by omega)]
    exact period_end K (by omega) _ (take_okL hok _) (fun s hs => h24 s (List.mem_of_mem_take hs))
  · rw [if_neg h6]
    exact period_end K (by omega) r hok h24
end Go.Proofs.Ytaifojmlbbaabaa.Pure
