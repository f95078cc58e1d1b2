/- ParamLoad, the plain part: one task more loads just its own part more; what loads more than all there is is over. -/
import Derived.Test.YtaifojmlbbaabaaPParamLoadx4
import Derived.Test.YtaifojmlbbaabaaMDem
import Derived.Test.YtaifojmlbbaabaaMLcm

namespace Go.Proofs.Ytaifojmlbbaabaa.Pure
open Go.RowKit Go.Proofs.Ytaifojmlbbaabaa.PParamLoad Go.Proofs.YtaifojmlbbaabaaW.PrintWords Go.Proofs.YtaifojmlbbaabaaW.PrintLast Go.Proofs.YtaifojmlbbaabaaW.PrintMore
set_option linter.unusedVariables false
set_option linter.unusedSimpArgs false

theorem w64 {n : Int} (h1 : -9223372036854775808 ≤ n) (h2 : n ≤ 9223372036854775807) : wrap64 n = n := by unfold wrap64; omega
theorem some_k {k : Nat} (h : 0 < k) : ∃ m, k = m + 1 := ⟨k - 1, by omega⟩
theorem tmod_rng (a : Int) {m : Int} (h : 0 < m) : -m < Int.tmod a m ∧ Int.tmod a m < m := by
  rcases Int.le_total 0 a with ha | ha
  · have h2 := Int.tmod_lt_of_pos a h; have h3 := Int.tmod_nonneg m ha; omega
  · have h2 := Int.tmod_lt_of_pos (-a) h; have h3 := Int.tmod_nonneg m (show 0 ≤ -a by omega)
    rw [Int.neg_tmod] at h2 h3; omega
theorem tmod_pos {a m : Int} (h : 0 < m) (ha : 0 ≤ a) : 0 ≤ Int.tmod a m ∧ Int.tmod a m < m := ⟨Int.tmod_nonneg m ha, Int.tmod_lt_of_pos a h⟩
theorem u64 (n : Int) : IntKind.u64.wrap n = n % 18446744073709551616 := by simp [IntKind.wrap, IntKind.bits, IntKind.signed]
theorem u64in {n : Int} (h1 : 0 ≤ n) (h2 : n < 18446744073709551616) : IntKind.u64.wrap n = n := by rw [u64]; omega

def tk (s : S28) : Hm.Tk := ⟨s.f0, s.f1, s.f2, s.f3, s.f4⟩
theorem taskB_ok (s : S28) : taskB s = true ↔ (tk s).ok := by
  unfold taskB Hm.Tk.ok tk
  simp only [Bool.and_eq_true, decide_eq_true_eq]
/-- Tasks may be. -/
def okL (l : List S28) : Prop := l.length ≤ 16 ∧ ∀ s ∈ l, (tk s).ok
theorem row_yes {l : List S28} (h : okL l) : param_Row.f l = some true := by
  unfold param_Row.f
  have h1 : l.all taskB = true := by rw [List.all_eq_true]; intro s hs; exact (taskB_ok s).2 (h.2 s hs)
  rw [h1]; simp [h.1]
theorem row_no {l : List S28} (h : ¬ okL l) : param_Row.f l = some false := by
  unfold param_Row.f
  by_cases h1 : l.length ≤ 16
  · have h2 : l.all taskB = false := by
      rw [Bool.eq_false_iff]; intro h3; rw [List.all_eq_true] at h3
      exact h ⟨h1, fun s hs => (taskB_ok s).1 (h3 s hs)⟩
    rw [h2]; simp
  · simp [h1]
theorem okL_map {l : List S28} (h : okL l) : ∀ t ∈ l.map tk, t.ok := by
  intro t ht; obtain ⟨s, hs, rfl⟩ := List.mem_map.1 ht; exact h.2 s hs
theorem rd_mid (pre : List S28) (s : S28) (suf : List S28) : rd_T28 (pre ++ s :: suf) (pre.length : Int) = s := by
  simp [rd_T28]

theorem gcd_loop (k : Nat) : ∀ a b : Int, -9223372036854775807 ≤ a → a ≤ 9223372036854775807 → -9223372036854775807 ≤ b → b ≤ 9223372036854775807 → b.natAbs < k → param_Gcd.l0 k a b = some ((Int.gcd a b : Nat) : Int) := by
  induction k with
  | zero => intro a b _ _ _ _ h; omega
  | succ k ih =>
    intro a b ha1 ha2 hb1 hb2 hk
    simp only [param_Gcd.l0]
    by_cases h : b = 0
    · subst h
      rw [if_pos rfl, Int.gcd_zero_right, w64 (by omega) (by omega)]
      unfold mx
      congr 1
      split <;> omega
    · rw [if_neg h]
      have e : (Int.tmod a b).natAbs = a.natAbs % b.natAbs := Int.natAbs_tmod a b
      have hl : a.natAbs % b.natAbs < b.natAbs := Nat.mod_lt _ (by omega)
      rw [ih b (Int.tmod a b) hb1 hb2 (by omega) (by omega) (by omega)]
      congr 2
      rw [Int.gcd_eq_natAbs_gcd_natAbs, Int.gcd_eq_natAbs_gcd_natAbs, e, Nat.gcd_comm a.natAbs b.natAbs, Nat.gcd_rec b.natAbs a.natAbs, Nat.gcd_comm]
theorem Gcd_is (k : Nat) {a b : Int} (ha1 : -9223372036854775807 ≤ a) (ha2 : a ≤ 9223372036854775807) (hb1 : -9223372036854775807 ≤ b) (hb2 : b ≤ 9223372036854775807) (hk : b.natAbs < k) : param_Gcd.f k a b = some ((Int.gcd a b : Nat) : Int) :=
  gcd_loop k a b ha1 ha2 hb1 hb2 hk

theorem per_go (k : Nat) (hk : 2147483648 < k) (l : List S28) : ∀ (m : Nat), 0 < m → m ≤ 1048576 → (∀ s ∈ l, (tk s).ok) →
    period.go k l (m : Int) = some (if Hm.perFrom m (l.map fun s => s.f3.toNat) ≤ 1048576 then ((Hm.perFrom m (l.map fun s => s.f3.toNat) : Nat) : Int) else 0, if Hm.perFrom m (l.map fun s => s.f3.toNat) ≤ 1048576 then 0 else 16) := by
  induction l with
  | nil => intro m h0 h1 _; simp [period.go, Hm.perFrom, h1]
  | cons s l ih =>
    intro m h0 h1 hok
    obtain ⟨_, _, h2, h3, h4, h5, _, _⟩ := hok s (by simp)
    simp only [tk] at h2 h3 h4 h5
    obtain ⟨t, ht⟩ : ∃ t : Nat, s.f3 = (t : Int) := ⟨s.f3.toNat, by omega⟩
    unfold period.go
    rw [ht, Gcd_is k (by omega) (by omega) (by omega) (by omega) (by omega)]
    simp only [Option.bind_some]
    have hg : Int.gcd (m : Int) (t : Int) = Nat.gcd m t := by simp [Int.gcd_eq_natAbs_gcd_natAbs]
    rw [hg]
    have hgp : 0 < Nat.gcd m t := Nat.gcd_pos_of_pos_left t h0
    rw [if_neg (by omega)]
    have e1 : Int.tdiv (t : Int) ((Nat.gcd m t : Nat) : Int) = ((t / Nat.gcd m t : Nat) : Int) := by rw [Int.tdiv_eq_ediv_of_nonneg (by omega)]; exact (Int.natCast_ediv t (Nat.gcd m t)).symm
    have hq : t / Nat.gcd m t ≤ t := Nat.div_le_self _ _
    rw [e1, w64 (n := ((t / Nat.gcd m t : Nat) : Int)) (by have := Int.natCast_nonneg (t / Nat.gcd m t); omega) (by have : ((t / Nat.gcd m t : Nat) : Int) ≤ (t : Int) := Int.ofNat_le.2 hq; omega)]
    have e2 : (m : Int) * ((t / Nat.gcd m t : Nat) : Int) = ((Nat.lcm m t : Nat) : Int) := by rw [← Hm.mul_quo_gcd (m := m) (t := t) (by omega)]; simp
    have hlcm : Nat.lcm m t ≤ 1048576 * 2147483648 := by
      rw [← Hm.mul_quo_gcd (m := m) (t := t) (by omega)]
      exact Nat.mul_le_mul h1 (by omega)
    rw [e2, w64 (by omega) (by omega)]
    have e3 : (s :: l).map (fun s => s.f3.toNat) = t :: l.map (fun s => s.f3.toNat) := by simp [ht]
    rw [e3]
    rw [show Hm.perFrom m (t :: l.map fun s => s.f3.toNat) = Hm.perFrom (Nat.lcm m t) (l.map fun s => s.f3.toNat) from rfl]
    have hlp : 0 < Nat.lcm m t := Nat.lcm_pos h0 (by omega)
    by_cases hle : Nat.lcm m t ≤ 1048576
    · rw [if_pos (by omega)]
      exact ih (Nat.lcm m t) hlp hle (fun x hx => hok x (by simp [hx]))
    · have hbig : ¬ Hm.perFrom (Nat.lcm m t) (l.map fun s => s.f3.toNat) ≤ 1048576 := by
        have hpos : 0 < Hm.perFrom (Nat.lcm m t) (l.map fun s => s.f3.toNat) := Hm.perFrom_pos hlp (fun x hx => by
          obtain ⟨y, hy, rfl⟩ := List.mem_map.1 hx
          obtain ⟨_, _, g2, g3, g4, _⟩ := hok y (by simp [hy])
          simp only [tk] at g2 g3 g4
          omega)
        have := Nat.le_of_dvd hpos (Hm.perFrom_start (Nat.lcm m t) (l.map fun s => s.f3.toNat))
        omega
      rw [if_neg (by omega), if_neg hbig, if_neg hbig]
theorem per_map (l : List S28) : Hm.per (l.map tk) = Hm.perFrom 1 (l.map fun s => s.f3.toNat) := by
  unfold Hm.per; rw [List.map_map]; rfl
theorem Period_ok {l : List S28} (k : Nat) (h : okL l) (hk : 2147483648 < k) (hp : Hm.per (l.map tk) ≤ 1048576) : param_Period.f k l = some ((Hm.per (l.map tk) : Int), 0) := by
  unfold param_Period.f
  rw [row_yes h]; simp only [Option.bind_some, if_true]
  have e := per_go k hk l 1 (by omega) (by omega) h.2
  rw [← per_map] at e
  rw [if_pos hp, if_pos hp] at e
  exact e
theorem Period_over {l : List S28} (k : Nat) (h : okL l) (hk : 2147483648 < k) (hp : ¬ Hm.per (l.map tk) ≤ 1048576) : param_Period.f k l = some (0, 16) := by
  unfold param_Period.f
  rw [row_yes h]; simp only [Option.bind_some, if_true]
  have e := per_go k hk l 1 (by omega) (by omega) h.2
  rw [← per_map] at e
  rw [if_neg hp, if_neg hp] at e
  exact e
theorem Period_arg {l : List S28} (k : Nat) (h : ¬ okL l) : param_Period.f k l = some (0, 1) := by
  unfold param_Period.f
  rw [row_no h]; rfl

theorem load_loop {p : Int} (h0 : 0 < p) (h1 : p ≤ 1048576) (suf : List S28) : ∀ (pre : List S28) (k : Nat) (acc : Int), okL (pre ++ suf) → suf.length < k → 0 ≤ acc → acc ≤ (pre.length : Int) * 1048576 →
    param_Load.l0 k p acc (pre ++ suf) ((pre ++ suf).length : Int) (pre.length : Int) = some (acc + Hm.loadN (suf.map tk) p, p, 0) := by
  induction suf with
  | nil =>
    intro pre k acc _ hk _ _
    obtain ⟨k, rfl⟩ := some_k hk
    simp only [param_Load.l0, List.append_nil, List.map_nil, Hm.loadN]
    rw [if_neg (by omega)]; simp
  | cons s suf ih =>
    intro pre k acc hok hk ha hb
    obtain ⟨k, rfl⟩ := some_k (show 0 < k by omega)
    have hs : (tk s).ok := hok.2 s (by simp)
    have hw := Hm.load_le hs (p := p) (by omega)
    have hlen := hok.1
    simp only [List.length_append, List.length_cons] at hlen hk
    have hc : (tk s).c = s.f1 := rfl
    have ht : (tk s).t = s.f3 := rfl
    rw [hc, ht] at hw
    obtain ⟨_, _, h2, h3, h4, h5, _, _⟩ := hs
    simp only [tk] at h2 h3 h4 h5
    have i1 : ((pre ++ s :: suf).length : Int) = (pre.length : Int) + ((suf.length : Int) + 1) := by simp
    have i2 := ih (pre ++ [s]) k (acc + s.f1 * (p / s.f3)) (by simpa using hok) (by omega) (by omega) (by simp only [List.length_append, List.length_singleton]; omega)
    simp only [List.append_assoc, List.cons_append, List.nil_append] at i2
    have i3 : ((pre ++ [s]).length : Int) = (pre.length : Int) + 1 := by simp
    rw [i3] at i2
    have hq := Int.ediv_nonneg (show 0 ≤ p by omega) (show 0 ≤ s.f3 by omega)
    have hq2 := Int.ediv_le_self s.f3 (show 0 ≤ p by omega)
    simp only [param_Load.l0]
    rw [if_pos (by omega), if_pos (by omega), if_pos (by omega), rd_mid, if_neg (by omega), Int.tdiv_eq_ediv_of_nonneg (by omega), w64 (n := p / s.f3) (by omega) (by omega)]
    rw [w64 (n := s.f1 * (p / s.f3)) (by omega) (by omega), w64 (n := acc + s.f1 * (p / s.f3)) (by omega) (by omega), w64 (n := (pre.length : Int) + 1) (by omega) (by omega), i2]
    simp only [List.map_cons, Hm.loadN, hc, ht]
    congr 2; omega
theorem Load_ok {l : List S28} (k : Nat) (h : okL l) (hk : 2147483648 < k) (hp : Hm.per (l.map tk) ≤ 1048576) : param_Load.f k l = some (Hm.loadN (l.map tk) (Hm.per (l.map tk) : Int), (Hm.per (l.map tk) : Int), 0) := by
  unfold param_Load.f
  rw [Period_ok k h hk hp]; simp only [Option.bind_some]
  have hpos := Hm.per_pos (okL_map h)
  have hl := h.1
  have := load_loop (p := (Hm.per (l.map tk) : Int)) (by omega) (by omega) l [] k 0 (by simpa using h) (by omega) (by omega) (by simp)
  simpa using this
theorem Load_over {l : List S28} (k : Nat) (h : okL l) (hk : 2147483648 < k) (hp : ¬ Hm.per (l.map tk) ≤ 1048576) : param_Load.f k l = some (0, 0, 16) := by
  unfold param_Load.f
  rw [Period_over k h hk hp]; rfl
theorem Load_arg {l : List S28} (k : Nat) (h : ¬ okL l) : param_Load.f k l = some (0, 0, 1) := by
  unfold param_Load.f
  rw [Period_arg k h]; rfl

/-- Tasks by numbers. -/
def MadeP (r : List S28) : Prop := ∀ i (h : i < r.length), (r[i]).f0 = (i : Int) ∧ 1 ≤ (r[i]).f1 ∧ (r[i]).f1 ≤ (r[i]).f2 ∧ (r[i]).f2 ≤ (r[i]).f3 ∧ (r[i]).f3 ≤ 24 ∧ (r[i]).f4 = 1
theorem mod_rng (a : Int) {m : Int} (h : 1 ≤ m) (hm : m ≤ 24) : 1 ≤ wrap64 (1 + Int.tmod (wrap64 (Int.tmod a m + m)) m) ∧ wrap64 (1 + Int.tmod (wrap64 (Int.tmod a m + m)) m) ≤ m := by
  have h1 : -m < Int.tmod a m ∧ Int.tmod a m < m := by
    rcases Int.le_total 0 a with ha | ha
    · have h2 := Int.tmod_lt_of_pos a (show 0 < m by omega); have h3 := Int.tmod_nonneg m ha; omega
    · have h2 := Int.tmod_lt_of_pos (-a) (show 0 < m by omega); have h3 := Int.tmod_nonneg m (show 0 ≤ -a by omega)
      rw [Int.neg_tmod] at h2 h3; omega
  rw [w64 (n := Int.tmod a m + m) (by omega) (by omega)]
  have h4 := Int.tmod_lt_of_pos (Int.tmod a m + m) (show 0 < m by omega); have h5 := Int.tmod_nonneg m (show 0 ≤ Int.tmod a m + m by omega)
  rw [w64 (by omega) (by omega)]; omega
theorem made_loop (l : List S31) (d : Nat) : ∀ (k i : Nat) (r : List S28), i + d = min l.length 16 → d < k → r.length = i → MadeP r →
    ∃ r', horariumlaw09_made.l0 k l r (i : Int) = some r' ∧ r'.length = min l.length 16 ∧ MadeP r' := by
  induction d with
  | zero =>
    intro k i r hd hk hr hm
    obtain ⟨k, rfl⟩ := some_k hk
    refine ⟨r, ?_, by omega, hm⟩
    simp only [horariumlaw09_made.l0]
    by_cases h : (i : Int) < (l.length : Int)
    · rw [if_pos h, if_neg (by omega)]
    · rw [if_neg h]
  | succ d ih =>
    intro k i r hd hk hr hm
    obtain ⟨k, rfl⟩ := some_k (show 0 < k by omega)
    simp only [horariumlaw09_made.l0]
    rw [if_pos (by omega), if_pos (by omega), if_pos (by omega)]
    have hT := mod_rng (rd_T31 l (i : Int)).f2 (m := 24) (by omega) (by omega)
    generalize wrap64 (1 + Int.tmod (wrap64 (Int.tmod (rd_T31 l (i : Int)).f2 24 + 24)) 24) = T at hT ⊢
    rw [if_neg (by omega)]
    have hD := mod_rng (rd_T31 l (i : Int)).f1 (m := T) (by omega) (by omega)
    generalize wrap64 (1 + Int.tmod (wrap64 (Int.tmod (rd_T31 l (i : Int)).f1 T + T)) T) = D at hD ⊢
    rw [if_neg (by omega), if_pos (by omega)]
    have hC := mod_rng (rd_T31 l (i : Int)).f0 (m := D) (by omega) (by omega)
    generalize wrap64 (1 + Int.tmod (wrap64 (Int.tmod (rd_T31 l (i : Int)).f0 D + D)) D) = C at hC ⊢
    rw [w64 (n := (i : Int) + 1) (by omega) (by omega)]
    have e : ((i : Int) + 1) = ((i + 1 : Nat) : Int) := by omega
    rw [e]
    refine ih k (i + 1) _ (by omega) (by omega) (by simp [hr]) ?_
    intro j hj
    by_cases h : j < r.length
    · rw [List.getElem_append_left h]; exact hm j h
    · have hj2 : j = r.length := by simp at hj; omega
      subst hj2
      rw [List.getElem_append_right (by omega)]
      simp only [Nat.sub_self, List.getElem_cons_zero]
      exact ⟨by omega, by omega, by omega, by omega, by omega, trivial⟩
theorem made_is (l : List S31) (k : Nat) (hk : 16 < k) : ∃ r, horariumlaw09_made.f k l = some r ∧ r.length = min l.length 16 ∧ MadeP r := by
  unfold horariumlaw09_made.f
  exact made_loop l (min l.length 16) k 0 [] (by omega) (by omega) rfl (fun i h => by simp at h)
theorem MadeP.okL {r : List S28} (h : MadeP r) (hl : r.length ≤ 16) : okL r := by
  refine ⟨hl, fun s hs => ?_⟩
  obtain ⟨i, hi, rfl⟩ := List.getElem_of_mem hs
  have := h i hi
  unfold Hm.Tk.ok tk
  simp only
  omega
theorem rd_at {r : List S28} {i : Nat} (hi : i < r.length) : rd_T28 r (i : Int) = r[i] := by
  simp [rd_T28, hi]

theorem awake_is : ∀ k, 40 ≤ k → horariumlaw09_awake.f k = some true := by
  have h : horariumlaw09_awake.f 40 = some true := by decide +kernel
  intro k hk
  exact at_rounds (horariumlaw09_awake.mono) hk h

theorem take_okL {l : List S28} (h : okL l) (n : Nat) : okL (l.take n) := ⟨by have := h.1; simp; omega, fun s hs => h.2 s (List.mem_of_mem_take hs)⟩
theorem load_scale {l : List Hm.Tk} (h : ∀ t ∈ l, t.ok) {p q : Int} (hp : 0 < p) (hd : ∀ t ∈ l, t.t ∣ p) (hq : p ∣ q) : Hm.loadN l q = Hm.loadN l p * (q / p) := by
  induction l with
  | nil => simp [Hm.loadN]
  | cons t l ih =>
    obtain ⟨_, _, h2, h3, h4, h5, _, _⟩ := h t (by simp)
    have e : q / t.t = p / t.t * (q / p) := by
      obtain ⟨a, ha⟩ := hd t (by simp)
      obtain ⟨b, hb⟩ := hq
      rw [hb, Int.mul_ediv_cancel_left _ (show p ≠ 0 by omega), ha, Int.mul_ediv_cancel_left _ (show t.t ≠ 0 by omega), Int.mul_assoc, Int.mul_ediv_cancel_left _ (show t.t ≠ 0 by omega)]
    simp only [Hm.loadN]
    rw [ih (fun s hs => h s (by simp [hs])) (fun s hs => hd s (by simp [hs])), Int.add_mul, e, Int.mul_assoc]
theorem load_end (k : Nat) (hk : 2147483648 + 100 ≤ k) (t : List S28) (hok : okL t) (h5 : t.length ≤ 5) (x : S28) (hx : (tk x).ok) :
    ∀ v1 v2 v3 v4 v5 v6, param_Load.f k t = some (v1, v2, v3) → param_Load.f k (t ++ [x]) = some (v4, v5, v6) →
      horariumlaw09_ParamLoad.j1 k true t v1 v2 v3 v4 v5 v6 x.f0 x.f1 x.f2 x.f3 x.f4 = some true := by
  intro v1 v2 v3 v4 v5 v6 e1 e2
  have hok2 : okL (t ++ [x]) := ⟨by simp; omega, fun s hs => by
    rcases List.mem_append.1 hs with h | h
    · exact hok.2 s h
    · simp at h; rw [h]; exact hx⟩
  obtain ⟨k', rfl⟩ := some_k (show 0 < k by omega)
  simp only [horariumlaw09_ParamLoad.j1, if_true]
  by_cases hp : Hm.per (t.map tk) ≤ 1048576
  · rw [Load_ok _ hok (by omega) hp] at e1
    simp only [Option.some.injEq, Prod.mk.injEq] at e1
    obtain ⟨rfl, rfl, rfl⟩ := e1
    rw [if_pos rfl]
    by_cases hq : Hm.per ((t ++ [x]).map tk) ≤ 1048576
    · rw [Load_ok _ hok2 (by omega) hq] at e2
      simp only [Option.some.injEq, Prod.mk.injEq] at e2
      obtain ⟨rfl, rfl, rfl⟩ := e2
      rw [if_pos rfl]
      unfold param_Over.f
      rw [Load_ok k' hok (by omega) hp]
      simp only [Option.bind_some]
      obtain ⟨k', rfl⟩ := some_k (show 0 < k' by omega)
      simp only [horariumlaw09_ParamLoad.j2, if_true]
      have p0 := Hm.per_pos (okL_map hok)
      have q0 := Hm.per_pos (okL_map hok2)
      have hdv : (Hm.per (t.map tk) : Int) ∣ (Hm.per ((t ++ [x]).map tk) : Int) := Int.natCast_dvd_natCast.2 (Hm.per_least (okL_map hok) (fun s hs => Hm.per_dvd (okL_map hok2) (by simp only [List.map_append]; exact List.mem_append_left _ hs)))
      have hx2 : x.f3 ∣ (Hm.per ((t ++ [x]).map tk) : Int) := Hm.per_dvd (okL_map hok2) (t := tk x) (by simp)
      have hsc := load_scale (okL_map hok) (p := (Hm.per (t.map tk) : Int)) (q := (Hm.per ((t ++ [x]).map tk) : Int)) (by omega) (fun s hs => Hm.per_dvd (okL_map hok) hs) hdv
      have hsum : Hm.loadN ((t ++ [x]).map tk) (Hm.per ((t ++ [x]).map tk) : Int) = Hm.loadN (t.map tk) (Hm.per (t.map tk) : Int) * ((Hm.per ((t ++ [x]).map tk) : Int) / (Hm.per (t.map tk) : Int)) + x.f1 * ((Hm.per ((t ++ [x]).map tk) : Int) / x.f3) := by
        rw [List.map_append, Hm.loadN_append, ← List.map_append, hsc]; simp [Hm.loadN, tk]
      have b1 := Hm.loadN_le (okL_map hok) (p := (Hm.per (t.map tk) : Int)) (by omega)
      have b2 := Hm.loadN_le (okL_map hok) (p := (Hm.per ((t ++ [x]).map tk) : Int)) (by omega)
      have b3 := Hm.load_le hx (p := (Hm.per ((t ++ [x]).map tk) : Int)) (by omega)
      have hlen : ((t.map tk).length : Int) ≤ 5 := by simp; omega
      have b4 := Int.mul_le_mul_of_nonneg_right hlen (show (0 : Int) ≤ (Hm.per ((t ++ [x]).map tk) : Int) by omega)
      rw [hsc] at b2
      simp only [show (tk x).c = x.f1 from rfl, show (tk x).t = x.f3 from rfl] at b3
      obtain ⟨_, _, h2, h3, h4, h5', _, _⟩ := hx
      simp only [tk] at h2 h3 h4 h5'
      have e3 : Int.tmod (Hm.per ((t ++ [x]).map tk) : Int) (Hm.per (t.map tk) : Int) = 0 := Int.tmod_eq_zero_of_dvd hdv
      have e4 : Int.tdiv (Hm.per ((t ++ [x]).map tk) : Int) (Hm.per (t.map tk) : Int) = (Hm.per ((t ++ [x]).map tk) : Int) / (Hm.per (t.map tk) : Int) := Int.tdiv_eq_ediv_of_dvd hdv
      have e5 : Int.tdiv (Hm.per ((t ++ [x]).map tk) : Int) x.f3 = (Hm.per ((t ++ [x]).map tk) : Int) / x.f3 := Int.tdiv_eq_ediv_of_dvd hx2
      have q1 := Int.ediv_nonneg (show 0 ≤ (Hm.per ((t ++ [x]).map tk) : Int) by omega) (show 0 ≤ (Hm.per (t.map tk) : Int) by omega)
      have q2 := Int.ediv_le_self (Hm.per (t.map tk) : Int) (show 0 ≤ (Hm.per ((t ++ [x]).map tk) : Int) by omega)
      have q3 := Int.ediv_nonneg (show 0 ≤ (Hm.per ((t ++ [x]).map tk) : Int) by omega) (show 0 ≤ x.f3 by omega)
      have q4 := Int.ediv_le_self x.f3 (show 0 ≤ (Hm.per ((t ++ [x]).map tk) : Int) by omega)
      rw [if_neg (by omega), e3, if_pos rfl, if_neg (by omega), e4, e5, hsum]
      rw [w64 (n := (Hm.per ((t ++ [x]).map tk) : Int) / (Hm.per (t.map tk) : Int)) (by omega) (by omega), w64 (n := (Hm.per ((t ++ [x]).map tk) : Int) / x.f3) (by omega) (by omega), w64 (n := Hm.loadN (t.map tk) (Hm.per (t.map tk) : Int) * ((Hm.per ((t ++ [x]).map tk) : Int) / (Hm.per (t.map tk) : Int))) (by omega) (by omega), w64 (n := x.f1 * ((Hm.per ((t ++ [x]).map tk) : Int) / x.f3)) (by omega) (by omega), w64 (by omega) (by omega), if_pos rfl]
      simp
    · rw [Load_over _ hok2 (by omega) hq] at e2
      simp only [Option.some.injEq, Prod.mk.injEq] at e2
      obtain ⟨rfl, rfl, rfl⟩ := e2
      rw [if_neg (by omega)]
      simp
  · rw [Load_over _ hok (by omega) hp] at e1
    simp only [Option.some.injEq, Prod.mk.injEq] at e1
    obtain ⟨rfl, rfl, rfl⟩ := e1
    rw [if_neg (by omega), if_pos rfl]
theorem load_all {l : List S28} (k : Nat) (h : okL l) (hk : 2147483648 < k) : ∃ a b c, param_Load.f k l = some (a, b, c) := by
  by_cases hp : Hm.per (l.map tk) ≤ 1048576
  · exact ⟨_, _, _, Load_ok k h hk hp⟩
  · exact ⟨_, _, _, Load_over k h hk hp⟩
theorem load_mid (k : Nat) (hk : 2147483648 + 200 ≤ k) (t : List S28) (hok : okL t) (h5 : t.length ≤ 5) (a b c : Int) : horariumlaw09_ParamLoad.j0 k true t a b c = some true := by
  obtain ⟨k, rfl⟩ := some_k (show 0 < k by omega)
  simp only [horariumlaw09_ParamLoad.j0]
  obtain ⟨r, hr, hl, hm⟩ := made_is [⟨a, b, c⟩] k (by omega)
  have hl1 : r.length = 1 := by simpa using hl
  obtain ⟨x, rfl⟩ : ∃ x, r = [x] := by
    match r, hl1 with
    | [x], _ => exact ⟨x, rfl⟩
  have hx : (tk x).ok := (hm.okL (by simp)).2 x (by simp)
  rw [hr]
  simp only [Option.bind_some]
  have e0 : rd_T28 [x] 0 = x := rfl
  have hok2 : okL (t ++ [x]) := ⟨by simp; omega, fun s hs => by
    rcases List.mem_append.1 hs with h | h
    · exact hok.2 s h
    · simp at h; rw [h]; exact hx⟩
  obtain ⟨v1, v2, v3, e1⟩ := load_all k hok (by omega)
  obtain ⟨v4, v5, v6, e2⟩ := load_all k hok2 (by omega)
  rw [if_pos (by simp), e1, e0]
  simp only [Option.bind_some, List.nil_append]
  rw [if_pos (by simp; omega), if_pos (by simp; omega)]
  rw [show ([⟨x.f0, x.f1, x.f2, x.f3, x.f4⟩] : List S28) = [x] from rfl, e2]
  simp only [Option.bind_some]
  exact load_end k (by omega) t hok h5 x hx v1 v2 v3 v4 v5 v6 e1 e2
theorem ParamLoad : horariumlaw09_ParamLoad.Pure := by
  intro l a b c _ _ _ _ _
  obtain ⟨r, hr, hl, hm⟩ := made_is l 3000000000 (by omega)
  have hok := hm.okL (by omega)
  refine ⟨3000000000, ?_⟩
  generalize hK : (3000000000 : Nat) = K at hr ⊢
  unfold horariumlaw09_ParamLoad.f
  rw [awake_is K (by omega), hr]
  simp only [Option.bind_some]
  by_cases h5 : (r.length : Int) > 5
  · rw [if_pos h5, if_pos (by omega)]
    exact load_mid K (by omega) _ (take_okL hok _) (by simp; omega) a b c
  · rw [if_neg h5]
    exact load_mid K (by omega) r hok (by omega) a b c
end Go.Proofs.Ytaifojmlbbaabaa.Pure
