/- QpaRuns, the plain part: a run is late just if tasks don't fit, and first when there is first too much work. -/
import Derived.Test.YthiepacmdlgajaaPQpaRunsx8
import Derived.Test.YthiepacmdlgajaaMRangeX
import Derived.Test.YthiepacmdlgajaaMDem
import Derived.Test.YthiepacmdlgajaaMWork
import Derived.Test.YthiepacmdlgajaaMDead
import Derived.Test.YthiepacmdlgajaaMDead2
import Derived.Test.YthiepacmdlgajaaMLcm
import Derived.Test.YthiepacmdlgajaaMBusy
import Derived.Test.YthiepacmdlgajaaMQpa
import Derived.Test.YthiepacmdlgajaaMEdf1

namespace Go.Proofs.Ythiepacmdlgajaa.Pure
open Go.RowKit Go.Proofs.Ythiepacmdlgajaa.PQpaRuns Go.Proofs.YthiepacmdlgajaaW.PrintWords Go.Proofs.YthiepacmdlgajaaW.PrintLast Go.Proofs.YthiepacmdlgajaaW.PrintMore
set_option linter.unusedVariables false
set_option linter.unusedSimpArgs false

theorem getD_lt {α : Type} (l : List α) (i : Nat) (z : α) (h : i < l.length) : l.getD i z = l[i] := by simp [List.getD_eq_getElem?_getD, h]
theorem getD_set_same (l : List Int) (i : Nat) (v : Int) (h : i < l.length) : (l.set i v).getD i 0 = v := by simp [List.getD_eq_getElem?_getD, h]
theorem getD_set_ne (l : List Int) (i j : Nat) (v : Int) (h : i ≠ j) : (l.set i v).getD j 0 = l.getD j 0 := by simp [List.getD_eq_getElem?_getD, List.getElem?_set_ne h]
/-- The jobs that a run keeps. -/
def mkJ (l : List S28) (xs ds : List Int) : List Hm.J := (List.range l.length).map fun i => ⟨tk (l.getD i z28), xs.getD i 0, ds.getD i 0⟩
theorem mkJ_get (l : List S28) (xs ds : List Int) (i : Nat) (h : i < (mkJ l xs ds).length) : (mkJ l xs ds)[i] = ⟨tk (l.getD i z28), xs.getD i 0, ds.getD i 0⟩ := by simp [mkJ]
theorem mkJ_t (l : List S28) (xs ds : List Int) : (mkJ l xs ds).map Hm.J.t = l.map tk := by
  unfold mkJ
  rw [List.map_map]
  apply List.ext_getElem
  · simp
  · intro i h1 h2
    simp only [List.length_map, List.length_range] at h1
    simp [h1]
theorem late_mkJ (l : List S28) (xs ds : List Int) (now : Int) : lateB l.length xs ds now = true ↔ Hm.late now (mkJ l xs ds) := by
  unfold lateB Hm.late mkJ
  rw [List.any_eq_true]
  constructor
  · rintro ⟨i, hi, h⟩
    simp only [Bool.and_eq_true, decide_eq_true_eq] at h
    exact ⟨_, List.mem_map.2 ⟨i, hi, rfl⟩, h⟩
  · rintro ⟨x, hx, h⟩
    obtain ⟨i, hi, rfl⟩ := List.mem_map.1 hx
    exact ⟨i, hi, by simp only [Bool.and_eq_true, decide_eq_true_eq]; exact h⟩
theorem relX_get (l : List S28) (now : Int) (xs : List Int) (j : Nat) : ∀ n, n ≤ xs.length → (relX l now n xs).getD j 0 = if j < n ∧ now % (l.getD j z28).f3 = 0 then (l.getD j z28).f1 else xs.getD j 0 := by
  intro n
  induction n with
  | zero => intro _; rw [if_neg (by omega)]; rfl
  | succ n ih =>
    intro hn
    have ih := ih (by omega)
    unfold relX
    split
    · rename_i hm
      by_cases e : n = j
      · subst e; rw [getD_set_same _ _ _ (by rw [relX_len]; omega), if_pos ⟨by omega, hm⟩]
      · rw [getD_set_ne _ _ _ _ e, ih]
        by_cases h2 : j < n ∧ now % (l.getD j z28).f3 = 0
        · rw [if_pos h2, if_pos ⟨by omega, h2.2⟩]
        · rw [if_neg h2, if_neg (fun h3 => h2 ⟨by omega, h3.2⟩)]
    · rename_i hm
      rw [ih]
      by_cases h2 : j < n ∧ now % (l.getD j z28).f3 = 0
      · rw [if_pos h2, if_pos ⟨by omega, h2.2⟩]
      · rw [if_neg h2, if_neg (fun h3 => h2 ⟨by rcases Nat.lt_succ_iff_lt_or_eq.1 h3.1 with h | rfl; exact h; exact absurd h3.2 hm, h3.2⟩)]
theorem relD_get (l : List S28) (now : Int) (ds : List Int) (j : Nat) : ∀ n, n ≤ ds.length → (relD l now n ds).getD j 0 = if j < n ∧ now % (l.getD j z28).f3 = 0 then now + (l.getD j z28).f2 else ds.getD j 0 := by
  intro n
  induction n with
  | zero => intro _; rw [if_neg (by omega)]; rfl
  | succ n ih =>
    intro hn
    have ih := ih (by omega)
    unfold relD
    split
    · rename_i hm
      by_cases e : n = j
      · subst e; rw [getD_set_same _ _ _ (by rw [relD_len]; omega), if_pos ⟨by omega, hm⟩]
      · rw [getD_set_ne _ _ _ _ e, ih]
        by_cases h2 : j < n ∧ now % (l.getD j z28).f3 = 0
        · rw [if_pos h2, if_pos ⟨by omega, h2.2⟩]
        · rw [if_neg h2, if_neg (fun h3 => h2 ⟨by omega, h3.2⟩)]
    · rename_i hm
      rw [ih]
      by_cases h2 : j < n ∧ now % (l.getD j z28).f3 = 0
      · rw [if_pos h2, if_pos ⟨by omega, h2.2⟩]
      · rw [if_neg h2, if_neg (fun h3 => h2 ⟨by rcases Nat.lt_succ_iff_lt_or_eq.1 h3.1 with h | rfl; exact h; exact absurd h3.2 hm, h3.2⟩)]
theorem mkJ_rel {l : List S28} {xs ds : List Int} (h8 : l.length ≤ 8) (hx : xs.length = 8) (hd : ds.length = 8) (now : Int) : mkJ l (relX l now l.length xs) (relD l now l.length ds) = (mkJ l xs ds).map (Hm.J.rel now) := by
  unfold mkJ
  rw [List.map_map]
  apply List.map_congr_left
  intro i hi
  have hi : i < l.length := by simpa using hi
  simp only [Function.comp_def]
  rw [relX_get _ _ _ _ _ (by omega), relD_get _ _ _ _ _ (by omega)]
  unfold Hm.J.rel tk
  simp only
  by_cases hm : now % (l.getD i z28).f3 = 0
  · rw [if_pos ⟨hi, hm⟩, if_pos ⟨hi, hm⟩, if_pos hm]
  · rw [if_neg (fun h => hm h.2), if_neg (fun h => hm h.2), if_neg hm]
theorem bestN_spec (xs ds : List Int) (n : Nat) : (bestN xs ds n = -1 ∧ ∀ i, i < n → ¬ xs.getD i 0 > 0) ∨ ∃ b : Nat, bestN xs ds n = (b : Int) ∧ b < n ∧ xs.getD b 0 > 0 ∧ ∀ i, i < n → xs.getD i 0 > 0 → ds.getD b 0 ≤ ds.getD i 0 := by
  induction n with
  | zero => exact Or.inl ⟨rfl, fun i hi => absurd hi (Nat.not_lt_zero _)⟩
  | succ n ih =>
    unfold bestN
    rcases ih with ⟨h1, h2⟩ | ⟨b, h1, h2, h3, h4⟩
    · rw [h1]
      by_cases hx : xs.getD n 0 > 0
      · rw [if_pos ⟨hx, Or.inl (by omega)⟩]
        refine Or.inr ⟨n, rfl, by omega, hx, fun i hi hp => ?_⟩
        rcases Nat.lt_succ_iff_lt_or_eq.1 hi with h | rfl
        · exact absurd hp (h2 i h)
        · exact Int.le_refl _
      · rw [if_neg (fun h => hx h.1)]
        refine Or.inl ⟨rfl, fun i hi => ?_⟩
        rcases Nat.lt_succ_iff_lt_or_eq.1 hi with h | rfl
        · exact h2 i h
        · exact hx
    · rw [h1, Int.toNat_natCast]
      by_cases hx : xs.getD n 0 > 0 ∧ ((b : Int) < 0 ∨ ds.getD n 0 < ds.getD b 0)
      · rw [if_pos hx]
        refine Or.inr ⟨n, rfl, by omega, hx.1, fun i hi hp => ?_⟩
        rcases Nat.lt_succ_iff_lt_or_eq.1 hi with h | rfl
        · have := h4 i h hp; rcases hx.2 with h5 | h5 <;> omega
        · exact Int.le_refl _
      · rw [if_neg hx]
        refine Or.inr ⟨b, rfl, by omega, h3, fun i hi hp => ?_⟩
        rcases Nat.lt_succ_iff_lt_or_eq.1 hi with h | rfl
        · exact h4 i h hp
        · exact Int.not_lt.1 fun h5 => hx ⟨hp, Or.inr h5⟩
theorem mkJ_does {l : List S28} {xs ds : List Int} (h8 : l.length ≤ 8) (hx : xs.length = 8) : Hm.Does (mkJ l xs ds) (mkJ l (decX xs (bestN xs ds l.length)) ds) := by
  rcases bestN_spec xs ds l.length with ⟨h1, h2⟩ | ⟨b, h1, h2, h3, h4⟩
  · rw [h1]
    refine Or.inl ⟨rfl, fun x hx => ?_⟩
    unfold mkJ at hx
    obtain ⟨i, hi, rfl⟩ := List.mem_map.1 hx
    have := h2 i (by simpa using hi)
    simp only; omega
  · rw [h1]
    have hb : b < (mkJ l xs ds).length := by unfold mkJ; simpa using h2
    have hget : (mkJ l xs ds)[b] = ⟨tk (l.getD b z28), xs.getD b 0, ds.getD b 0⟩ := mkJ_get _ _ _ _ _
    have hdec : decX xs (b : Int) = xs.set b (xs.getD b 0 - 1) := by unfold decX; rw [if_pos (by omega), Int.toNat_natCast]
    have hset : mkJ l (decX xs (b : Int)) ds = (mkJ l xs ds).set b ⟨tk (l.getD b z28), xs.getD b 0 - 1, ds.getD b 0⟩ := by
      rw [hdec]
      apply List.ext_getElem
      · unfold mkJ; simp
      · intro i h5 h6
        rw [List.getElem_set]
        split
        · rename_i e
          subst e
          rw [mkJ_get, getD_set_same _ _ _ (by omega)]
        · rename_i e
          rw [mkJ_get, mkJ_get, getD_set_ne _ _ _ _ e]
    refine Or.inr ⟨(mkJ l xs ds).take b, (mkJ l xs ds)[b], (mkJ l xs ds).drop (b + 1), ?_, ?_, ?_, ?_⟩
    · rw [← List.drop_eq_getElem_cons hb, List.take_append_drop]
    · rw [hset, List.set_eq_take_append_cons_drop, if_pos hb, hget]
    · rw [hget]; simp only; omega
    · intro y hy hp
      unfold mkJ at hy
      obtain ⟨i, hi, rfl⟩ := List.mem_map.1 hy
      rw [hget]
      exact h4 i (by simpa using hi) hp
theorem run_fits {l : List S28} (hok : okL l) (h8 : l.length ≤ 8) {e : Int} {L0 : List Hm.J} (hL : L0.map Hm.J.t = l.map tk) (hz : ∀ x ∈ L0, x.left = 0) (hf : ∀ y, 0 ≤ y → Hm.of (l.map tk) y ≤ y) : ∀ (k : Nat) (now : Int) (xs ds : List Int), Hm.Ran now L0 (mkJ l xs ds) → xs.length = 8 → ds.length = 8 → runF l e k now xs ds = 0 := by
  have hok0 : ∀ x ∈ L0, x.t.ok := fun x hx => okL_map hok _ (by rw [← hL]; exact List.mem_map.2 ⟨x, hx, rfl⟩)
  intro k
  induction k with
  | zero => intro now xs ds _ _ _; rfl
  | succ k ih =>
    intro now xs ds hr hx hd
    have hlt := (Hm.ran_late hr hok0 hz).2 (fun y h0 _ => by rw [hL]; exact hf y h0)
    have hlb : ¬ lateB l.length xs ds now = true := fun h => hlt ((late_mkJ l xs ds now).1 h)
    unfold runF
    by_cases hne : now ≤ e
    · rw [if_pos hne, if_neg hlb]
      refine ih _ _ _ (Hm.Ran.step hr hlt ?_) (by rw [decX_len, relX_len, hx]) (by rw [relD_len, hd])
      rw [← mkJ_rel h8 hx hd]
      exact mkJ_does h8 (by rw [relX_len, hx])
    · rw [if_neg hne]
theorem run_late {l : List S28} (hok : okL l) (h8 : l.length ≤ 8) {e m : Int} {L0 : List Hm.J} (hL : L0.map Hm.J.t = l.map tk) (hz : ∀ x ∈ L0, x.left = 0) (hm1 : m ≤ e) (hm : m < Hm.of (l.map tk) m) (hf : ∀ y, 0 ≤ y → y < m → Hm.of (l.map tk) y ≤ y) : ∀ (k : Nat) (now : Int) (xs ds : List Int), Hm.Ran now L0 (mkJ l xs ds) → now ≤ m → m - now < k → xs.length = 8 → ds.length = 8 → runF l e k now xs ds = m := by
  have hok0 : ∀ x ∈ L0, x.t.ok := fun x hx => okL_map hok _ (by rw [← hL]; exact List.mem_map.2 ⟨x, hx, rfl⟩)
  intro k
  induction k with
  | zero => intro now xs ds _ _ h; omega
  | succ k ih =>
    intro now xs ds hr hn hk hx hd
    obtain ⟨r1, r2⟩ := Hm.ran_late hr hok0 hz
    rw [hL] at r1 r2
    unfold runF
    rw [if_pos (by omega)]
    by_cases e1 : now = m
    · subst e1
      have hlb : lateB l.length xs ds now = true := (late_mkJ l xs ds now).2 (Classical.byContradiction fun h => by have := r1 h; omega)
      rw [if_pos hlb]
    · have hlt := r2 (fun y h0 h1 => hf y h0 (by omega))
      have hlb : ¬ lateB l.length xs ds now = true := fun h => hlt ((late_mkJ l xs ds now).1 h)
      rw [if_neg hlb]
      refine ih _ _ _ (Hm.Ran.step hr hlt ?_) (by omega) (by omega) (by rw [decX_len, relX_len, hx]) (by rw [relD_len, hd])
      rw [← mkJ_rel h8 hx hd]
      exact mkJ_does h8 (by rw [relX_len, hx])
theorem zeros_left (l : List S28) : ∀ x ∈ mkJ l zeros8 zeros8, x.left = 0 := by
  intro x hx
  unfold mkJ at hx
  obtain ⟨i, hi, rfl⟩ := List.mem_map.1 hx
  simp only [zeros8, List.getD_eq_getElem?_getD]
  match i with
  | 0 | 1 | 2 | 3 | 4 | 5 | 6 | 7 => rfl
  | i + 8 => rfl

theorem gcd_loop (k : Nat) : ∀ a b : Int, -9223372036854775807 ≤ a → a ≤ 9223372036854775807 → -9223372036854775807 ≤ b → b ≤ 9223372036854775807 → b.natAbs < k → param_Gcd.l0 k a b = some ((Int.gcd a b : Nat) : Int) := by
  induction k with
  | zero => intro a b _ _ _ _ h; omega
  | succ k ih =>
    intro a b ha1 ha2 hb1 hb2 hk
    simp only [param_Gcd.l0]
    by_cases h : b = 0
    · subst h
      rw [if_pos rfl, Int.gcd_zero_right, w64 (by omega) (by omega)]
      unfold mx
      congr 1
      split <;> omega
    · rw [if_neg h]
      have e : (Int.tmod a b).natAbs = a.natAbs % b.natAbs := Int.natAbs_tmod a b
      have hl : a.natAbs % b.natAbs < b.natAbs := Nat.mod_lt _ (by omega)
      rw [ih b (Int.tmod a b) hb1 hb2 (by omega) (by omega) (by omega)]
      congr 2
      rw [Int.gcd_eq_natAbs_gcd_natAbs, Int.gcd_eq_natAbs_gcd_natAbs, e, Nat.gcd_comm a.natAbs b.natAbs, Nat.gcd_rec b.natAbs a.natAbs, Nat.gcd_comm]
theorem Gcd_is (k : Nat) {a b : Int} (ha1 : -9223372036854775807 ≤ a) (ha2 : a ≤ 9223372036854775807) (hb1 : -9223372036854775807 ≤ b) (hb2 : b ≤ 9223372036854775807) (hk : b.natAbs < k) : param_Gcd.f k a b = some ((Int.gcd a b : Nat) : Int) :=
  gcd_loop k a b ha1 ha2 hb1 hb2 hk

theorem per_go (k : Nat) (hk : 2147483648 < k) (l : List S28) : ∀ (m : Nat), 0 < m → m ≤ 1048576 → (∀ s ∈ l, (tk s).ok) →
    period.go k l (m : Int) = some (if Hm.perFrom m (l.map fun s => s.f3.toNat) ≤ 1048576 then ((Hm.perFrom m (l.map fun s => s.f3.toNat) : Nat) : Int) else 0, if Hm.perFrom m (l.map fun s => s.f3.toNat) ≤ 1048576 then 0 else 16) := by
  induction l with
  | nil => intro m h0 h1 _; simp [period.go, Hm.perFrom, h1]
  | cons s l ih =>
    intro m h0 h1 hok
    obtain ⟨_, _, h2, h3, h4, h5, _, _⟩ := hok s (by simp)
    simp only [tk] at h2 h3 h4 h5
    obtain ⟨t, ht⟩ : ∃ t : Nat, s.f3 = (t : Int) := ⟨s.f3.toNat, by omega⟩
    unfold period.go
    rw [ht, Gcd_is k (by omega) (by omega) (by omega) (by omega) (by omega)]
    simp only [Option.bind_some]
    have hg : Int.gcd (m : Int) (t : Int) = Nat.gcd m t := by simp [Int.gcd_eq_natAbs_gcd_natAbs]
    rw [hg]
    have hgp : 0 < Nat.gcd m t := Nat.gcd_pos_of_pos_left t h0
    rw [if_neg (by omega)]
    have e1 : Int.tdiv (t : Int) ((Nat.gcd m t : Nat) : Int) = ((t / Nat.gcd m t : Nat) : Int) := by rw [Int.tdiv_eq_ediv_of_nonneg (by omega)]; exact (Int.natCast_ediv t (Nat.gcd m t)).symm
    have hq : t / Nat.gcd m t ≤ t := Nat.div_le_self _ _
    rw [e1, w64 (n := ((t / Nat.gcd m t : Nat) : Int)) (by have := Int.natCast_nonneg (t / Nat.gcd m t); omega) (by have : ((t / Nat.gcd m t : Nat) : Int) ≤ (t : Int) := Int.ofNat_le.2 hq; omega)]
    have e2 : (m : Int) * ((t / Nat.gcd m t : Nat) : Int) = ((Nat.lcm m t : Nat) : Int) := by rw [← Hm.mul_quo_gcd (m := m) (t := t) (by omega)]; simp
    have hlcm : Nat.lcm m t ≤ 1048576 * 2147483648 := by
      rw [← Hm.mul_quo_gcd (m := m) (t := t) (by omega)]
      exact Nat.mul_le_mul h1 (by omega)
    rw [e2, w64 (by omega) (by omega)]
    have e3 : (s :: l).map (fun s => s.f3.toNat) = t :: l.map (fun s => s.f3.toNat) := by simp [ht]
    rw [e3]
    rw [show Hm.perFrom m (t :: l.map fun s => s.f3.toNat) = Hm.perFrom (Nat.lcm m t) (l.map fun s => s.f3.toNat) from rfl]
    have hlp : 0 < Nat.lcm m t := Nat.lcm_pos h0 (by omega)
    by_cases hle : Nat.lcm m t ≤ 1048576
    · rw [if_pos (by omega)]
      exact ih (Nat.lcm m t) hlp hle (fun x hx => hok x (by simp [hx]))
    · have hbig : ¬ Hm.perFrom (Nat.lcm m t) (l.map fun s => s.f3.toNat) ≤ 1048576 := by
        have hpos : 0 < Hm.perFrom (Nat.lcm m t) (l.map fun s => s.f3.toNat) := Hm.perFrom_pos hlp (fun x hx => by
          obtain ⟨y, hy, rfl⟩ := List.mem_map.1 hx
          obtain ⟨_, _, g2, g3, g4, _⟩ := hok y (by simp [hy])
          simp only [tk] at g2 g3 g4
          omega)
        have := Nat.le_of_dvd hpos (Hm.perFrom_start (Nat.lcm m t) (l.map fun s => s.f3.toNat))
        omega
      rw [if_neg (by omega), if_neg hbig, if_neg hbig]
theorem per_map (l : List S28) : Hm.per (l.map tk) = Hm.perFrom 1 (l.map fun s => s.f3.toNat) := by
  unfold Hm.per; rw [List.map_map]; rfl
theorem Period_ok {l : List S28} (k : Nat) (h : okL l) (hk : 2147483648 < k) (hp : Hm.per (l.map tk) ≤ 1048576) : param_Period.f k l = some ((Hm.per (l.map tk) : Int), 0) := by
  unfold param_Period.f
  rw [row_yes h]; simp only [Option.bind_some, if_true]
  have e := per_go k hk l 1 (by omega) (by omega) h.2
  rw [← per_map] at e
  rw [if_pos hp, if_pos hp] at e
  exact e
theorem Period_over {l : List S28} (k : Nat) (h : okL l) (hk : 2147483648 < k) (hp : ¬ Hm.per (l.map tk) ≤ 1048576) : param_Period.f k l = some (0, 16) := by
  unfold param_Period.f
  rw [row_yes h]; simp only [Option.bind_some, if_true]
  have e := per_go k hk l 1 (by omega) (by omega) h.2
  rw [← per_map] at e
  rw [if_neg hp, if_neg hp] at e
  exact e
theorem Period_arg {l : List S28} (k : Nat) (h : ¬ okL l) : param_Period.f k l = some (0, 1) := by
  unfold param_Period.f
  rw [row_no h]; rfl

theorem load_loop {p : Int} (h0 : 0 < p) (h1 : p ≤ 1048576) (suf : List S28) : ∀ (pre : List S28) (k : Nat) (acc : Int), okL (pre ++ suf) → suf.length < k → 0 ≤ acc → acc ≤ (pre.length : Int) * 1048576 →
    param_Load.l0 k p acc (pre ++ suf) ((pre ++ suf).length : Int) (pre.length : Int) = some (acc + Hm.loadN (suf.map tk) p, p, 0) := by
  induction suf with
  | nil =>
    intro pre k acc _ hk _ _
    obtain ⟨k, rfl⟩ := some_k hk
    simp only [param_Load.l0, List.append_nil, List.map_nil, Hm.loadN]
    rw [if_neg (by omega)]; simp
  | cons s suf ih =>
    intro pre k acc hok hk ha hb
    obtain ⟨k, rfl⟩ := some_k (show 0 < k by omega)
    have hs : (tk s).ok := hok.2 s (by simp)
    have hw := Hm.load_le hs (p := p) (by omega)
    have hlen := hok.1
    simp only [List.length_append, List.length_cons] at hlen hk
    have hc : (tk s).c = s.f1 := rfl
    have ht : (tk s).t = s.f3 := rfl
    rw [hc, ht] at hw
    obtain ⟨_, _, h2, h3, h4, h5, _, _⟩ := hs
    simp only [tk] at h2 h3 h4 h5
    have i1 : ((pre ++ s :: suf).length : Int) = (pre.length : Int) + ((suf.length : Int) + 1) := by simp
    have i2 := ih (pre ++ [s]) k (acc + s.f1 * (p / s.f3)) (by simpa using hok) (by omega) (by omega) (by simp only [List.length_append, List.length_singleton]; omega)
    simp only [List.append_assoc, List.cons_append, List.nil_append] at i2
    have i3 : ((pre ++ [s]).length : Int) = (pre.length : Int) + 1 := by simp
    rw [i3] at i2
    have hq := Int.ediv_nonneg (show 0 ≤ p by omega) (show 0 ≤ s.f3 by omega)
    have hq2 := Int.ediv_le_self s.f3 (show 0 ≤ p by omega)
    simp only [param_Load.l0]
    rw [if_pos (by omega), if_pos (by omega), if_pos (by omega), rd_mid, if_neg (by omega), Int.tdiv_eq_ediv_of_nonneg (by omega), w64 (n := p / s.f3) (by omega) (by omega)]
    rw [w64 (n := s.f1 * (p / s.f3)) (by omega) (by omega), w64 (n := acc + s.f1 * (p / s.f3)) (by omega) (by omega), w64 (n := (pre.length : Int) + 1) (by omega) (by omega), i2]
    simp only [List.map_cons, Hm.loadN, hc, ht]
    congr 2; omega
theorem Load_ok {l : List S28} (k : Nat) (h : okL l) (hk : 2147483648 < k) (hp : Hm.per (l.map tk) ≤ 1048576) : param_Load.f k l = some (Hm.loadN (l.map tk) (Hm.per (l.map tk) : Int), (Hm.per (l.map tk) : Int), 0) := by
  unfold param_Load.f
  rw [Period_ok k h hk hp]; simp only [Option.bind_some]
  have hpos := Hm.per_pos (okL_map h)
  have hl := h.1
  have := load_loop (p := (Hm.per (l.map tk) : Int)) (by omega) (by omega) l [] k 0 (by simpa using h) (by omega) (by omega) (by simp)
  simpa using this
theorem Load_over {l : List S28} (k : Nat) (h : okL l) (hk : 2147483648 < k) (hp : ¬ Hm.per (l.map tk) ≤ 1048576) : param_Load.f k l = some (0, 0, 16) := by
  unfold param_Load.f
  rw [Period_over k h hk hp]; rfl
theorem Load_arg {l : List S28} (k : Nat) (h : ¬ okL l) : param_Load.f k l = some (0, 0, 1) := by
  unfold param_Load.f
  rw [Period_arg k h]; rfl

theorem Over_ok {l : List S28} (k : Nat) (h : okL l) (hk : 2147483648 < k) (hp : Hm.per (l.map tk) ≤ 1048576) : param_Over.f k l = some (decide (Hm.loadN (l.map tk) (Hm.per (l.map tk) : Int) > (Hm.per (l.map tk) : Int)), 0) := by
  unfold param_Over.f; rw [Load_ok k h hk hp]; rfl
theorem right_fits {l : List S28} (k : Nat) (h : okL l) (hk : 2147483648 < k) (hp : Hm.per (l.map tk) ≤ 1048576) (hf : Hm.loadN (l.map tk) (Hm.per (l.map tk) : Int) ≤ (Hm.per (l.map tk) : Int)) : busy_right.f k l = some 0 := by
  unfold busy_right.f; rw [Over_ok k h hk hp]; simp only [Option.bind_some, if_true]
  rw [if_neg (by simp; omega)]
theorem right_over {l : List S28} (k : Nat) (h : okL l) (hk : 2147483648 < k) (hp : Hm.per (l.map tk) ≤ 1048576) (hf : Hm.loadN (l.map tk) (Hm.per (l.map tk) : Int) > (Hm.per (l.map tk) : Int)) : busy_right.f k l = some 17 := by
  unfold busy_right.f; rw [Over_ok k h hk hp]; simp only [Option.bind_some, if_true]
  rw [if_pos (by simp; omega)]
theorem right_long {l : List S28} (k : Nat) (h : okL l) (hk : 2147483648 < k) (hp : ¬ Hm.per (l.map tk) ≤ 1048576) : busy_right.f k l = some 16 := by
  unfold busy_right.f param_Over.f; rw [Load_over k h hk hp]; rfl
theorem right_arg {l : List S28} (k : Nat) (h : ¬ okL l) : busy_right.f k l = some 1 := by
  unfold busy_right.f param_Over.f; rw [Load_arg k h]; rfl
theorem lastV_cons {x : Int} {xs : List Int} (h : xs ≠ []) : lastV (x :: xs) = lastV xs := by
  unfold lastV; cases xs with
  | nil => exact absurd rfl h
  | cons y ys => rfl
theorem sumF_is {l : List S28} (h : okL l) : sumF l = Hm.sumC (l.map tk) := by
  have key : ∀ (pre suf : List S28), l = pre ++ suf → sumF pre = Hm.sumC (pre.map tk) := by
    intro pre
    generalize hn : pre.length = n
    induction n generalizing pre with
    | zero => intro suf _; have : pre = [] := List.length_eq_zero_iff.1 hn; subst this; rfl
    | succ n ih =>
      intro suf e
      obtain ⟨p, s, rfl⟩ : ∃ p s, pre = p ++ [s] := ⟨pre.dropLast, pre.getLast (by intro h; simp [h] at hn), (List.dropLast_concat_getLast _).symm⟩
      have h1 := ih p (by simpa using hn) (s :: suf) (by simpa using e)
      have h2 : ∀ t ∈ (p ++ [s]).map tk, t.ok := fun t ht => by
        obtain ⟨y, hy, rfl⟩ := List.mem_map.1 ht; exact h.2 y (by rw [e]; exact List.mem_append_left _ hy)
      have h3 := Hm.sumC_le h2
      have hlen := h.1
      rw [e] at hlen
      simp only [List.length_append, List.length_map, List.length_cons, List.length_nil] at hlen h3
      have e2 : Hm.sumC ((p ++ [s]).map tk) = Hm.sumC (p.map tk) + s.f1 := by rw [List.map_append, Hm.sumC_append]; simp [Hm.sumC, tk]
      rw [sumF_snoc, h1, e2, w64 (by omega) (by omega)]
  exact key l [] (by simp)
theorem steps_fix {l : List S28} (hok : okL l) {P : Int} (hP1 : P ≤ 1099511627776) (hP : Hm.work (l.map tk) P ≤ P) : ∀ (k : Nat) (x : Int), (P - x).toNat < k → 0 ≤ x → x ≤ P → x ≤ Hm.work (l.map tk) x →
    ∃ xs, stepsL l k x = some xs ∧ xs ≠ [] ∧ Hm.work (l.map tk) (lastV xs) = lastV xs ∧ x ≤ lastV xs ∧ lastV xs ≤ P ∧ ∀ y, x ≤ y → y < lastV xs → y < Hm.work (l.map tk) y := by
  intro k
  induction k with
  | zero => intro x h; omega
  | succ k ih =>
    intro x hk h0 h1 h2
    have hv := workV_yes hok h0 (show x ≤ 1099511627776 by omega)
    have hm := Hm.work_mono (okL_map hok) h1
    unfold stepsL
    rw [hv]
    by_cases he : Hm.work (l.map tk) x = x
    · rw [if_pos he]
      exact ⟨[x], rfl, by simp, he, Int.le_refl _, h1, fun y hy1 hy2 => by have e : lastV [x] = x := rfl; omega⟩
    · rw [if_neg he]
      obtain ⟨xs, e1, e2, e3, e4, e5, e6⟩ := ih (Hm.work (l.map tk) x) (by omega) (by omega) (by omega) (Hm.work_mono (okL_map hok) h2)
      rw [e1]
      refine ⟨x :: xs, rfl, by simp, ?_⟩
      rw [lastV_cons e2]
      refine ⟨e3, by omega, e5, fun y hy1 hy2 => ?_⟩
      by_cases hy : Hm.work (l.map tk) x ≤ y
      · exact e6 y hy hy2
      · have := Hm.work_mono (okL_map hok) hy1; omega
/-- The length, where tasks fit. -/
theorem Length_fits {l : List S28} (k : Nat) (h : okL l) (hk : 2147483648 < k) (hl : l ≠ []) (hp : Hm.per (l.map tk) ≤ 1048576) (hf : Hm.loadN (l.map tk) (Hm.per (l.map tk) : Int) ≤ (Hm.per (l.map tk) : Int)) :
    ∃ n, busy_Length.f k l = some (n, 0) ∧ Hm.work (l.map tk) n = n ∧ 1 ≤ n ∧ n ≤ (Hm.per (l.map tk) : Int) ∧ ∀ y, 1 ≤ y → y < n → y < Hm.work (l.map tk) y := by
  have hpos := Hm.per_pos (okL_map h)
  have hlen := List.length_pos_iff.2 hl
  have hS := Hm.sumC_le (okL_map h)
  rw [List.length_map] at hS
  have h16 := h.1
  have hW := Hm.work_load (okL_map h) (p := (Hm.per (l.map tk) : Int)) (fun t ht => Hm.per_dvd (okL_map h) ht)
  have h1 := Hm.work_one (okL_map h)
  have hm1 := Hm.work_mono (okL_map h) (show (1 : Int) ≤ (Hm.per (l.map tk) : Int) by omega)
  have hm2 := Hm.work_mono (okL_map h) (show (1 : Int) ≤ Hm.sumC (l.map tk) by omega)
  obtain ⟨xs, e1, e2, e3, e4, e5, e6⟩ := steps_fix h (P := (Hm.per (l.map tk) : Int)) (by omega) (by omega) k (Hm.sumC (l.map tk)) (by omega) (by omega) (by omega) (by omega)
  refine ⟨lastV xs, ?_, e3, by omega, e5, fun y hy1 hy2 => ?_⟩
  · unfold busy_Length.f
    rw [right_fits k h hk hp hf]; simp only [Option.bind_some, if_true]
    rw [if_neg hl, sumF_is h, e1]; rfl
  · by_cases hy : Hm.sumC (l.map tk) ≤ y
    · exact e6 y hy hy2
    · have := Hm.work_mono (okL_map h) hy1; omega
theorem Length_none (k : Nat) (hk : 2147483648 < k) : busy_Length.f k [] = some (0, 0) := by
  have h : okL [] := ⟨by simp, by simp⟩
  unfold busy_Length.f
  rw [right_fits k h hk (by simp [Hm.per, Hm.perFrom]) (by simp [Hm.per, Hm.perFrom, Hm.loadN])]; rfl
theorem Length_over {l : List S28} (k : Nat) (h : okL l) (hk : 2147483648 < k) (hp : Hm.per (l.map tk) ≤ 1048576) (hf : Hm.loadN (l.map tk) (Hm.per (l.map tk) : Int) > (Hm.per (l.map tk) : Int)) : busy_Length.f k l = some (0, 17) := by
  unfold busy_Length.f
  rw [right_over k h hk hp hf]; rfl

theorem beforeV_yes {l : List S28} {x : Int} (hok : okL l) (h0 : 0 ≤ x) (h1 : x ≤ 1099511627776) : beforeV l x = (Hm.before (l.map tk) x, decide (Hm.before (l.map tk) x > 0)) := by
  unfold beforeV; rw [if_pos (mayB_ok.2 ⟨hok, h0, h1⟩)]
theorem ofV_ok {l : List S28} {y : Int} (hok : okL l) (h0 : 0 ≤ y) (h1 : y ≤ 1099511627776) : ofV l y = Hm.of (l.map tk) y := by
  unfold ofV; rw [if_pos (mayB_ok.2 ⟨hok, h0, h1⟩)]
theorem of_least {l : List S28} (hok : okL l) {y : Int} (h : y < leastV l) : Hm.of (l.map tk) y = 0 := by
  unfold leastV at h
  rw [if_pos ((rowB_ok l).2 hok)] at h
  have key : ∀ s ∈ l, y < s.f2 := by
    intro s hs
    cases l with
    | nil => simp at hs
    | cons a r =>
      have := Hm.minL_le_mem (m := a.f2) (l := (a :: r).map fun t => t.f2) (x := s.f2) (List.mem_map.2 ⟨s, hs, rfl⟩)
      simp only at h
      omega
  clear h hok
  induction l with
  | nil => rfl
  | cons s l ih =>
    simp only [List.map_cons, Hm.of]
    rw [Hm.many_lo (show y < (tk s).d from key s (by simp)), ih (fun a ha => key a (by simp [ha]))]; simp
/-- A path from a time on. -/
def PathOk (l : List S28) (L : Int) (p : Int × Bool) (xs : List (Int × Int)) : Prop :=
  (p.2 = false ↔ xs = []) ∧ (∀ q ∈ xs, q.2 = Hm.of (l.map tk) q.1 ∧ 1 ≤ q.1 ∧ q.1 ≤ p.1) ∧
  (∀ i (h : i + 1 < xs.length), xs[i + 1].1 < xs[i].1 ∧ xs[i].2 ≤ xs[i].1) ∧ ((∀ q ∈ xs, q.2 ≤ q.1) → ∀ y, 1 ≤ y → y < L → Hm.of (l.map tk) y ≤ y)
theorem path_walk {l : List S28} (hok : okL l) {L : Int} (hL : L ≤ 1099511627776) : ∀ (c : Nat) (p : Int × Bool), 0 < c → (p.2 = true → 1 ≤ p.1 ∧ p.1 < L ∧ p.1.toNat < c) →
    (p.2 = true → Hm.of (l.map tk) p.1 ≤ p.1 → ∀ y, p.1 ≤ y → y < L → Hm.of (l.map tk) y ≤ y) → (p.2 = false → ∀ y, 1 ≤ y → y < L → Hm.of (l.map tk) y ≤ y) →
    ∃ xs, pathGo l (leastV l) c p = some xs ∧ xs.length ≤ c ∧ PathOk l L p xs := by
  have hm := okL_map hok
  intro c
  induction c with
  | zero => intro p h; omega
  | succ c ih =>
    intro p _ h1 h2 h3
    obtain ⟨x, is⟩ := p
    unfold pathGo
    cases is with
    | false => exact ⟨[], by simp, by simp, by simp, by simp, by simp, fun _ => h3 rfl⟩
    | true =>
      obtain ⟨g1, g2, g3⟩ := h1 rfl
      simp only at g1 g2 g3 h2
      replace h2 := h2 trivial
      rw [if_pos rfl]
      simp only
      rw [ofV_ok hok (by omega) (by omega)]
      by_cases hs : Hm.of (l.map tk) x > x ∨ Hm.of (l.map tk) x ≤ leastV l
      · rw [if_pos hs]
        refine ⟨_, rfl, by simp, by simp, by simp; omega, by simp, fun hq => ?_⟩
        have hq1 : Hm.of (l.map tk) x ≤ x := hq (x, _) (by simp)
        rcases hs with hs | hs
        · omega
        · intro y hy1 hy2
          by_cases hyx : x ≤ y
          · exact h2 hq1 y hyx hy2
          · by_cases hyl : y < leastV l
            · rw [of_least hok hyl]; omega
            · have := Hm.of_mono hm (show y ≤ x by omega); omega
      · rw [if_neg hs]
        have hw : Hm.of (l.map tk) x ≤ x := by omega
        have hge := Hm.of_nonneg hm (show 0 ≤ x by omega)
        have fin : ∀ p' : Int × Bool, (p'.2 = true → 1 ≤ p'.1 ∧ p'.1 < x) → (p'.2 = true → Hm.of (l.map tk) p'.1 ≤ p'.1 → ∀ y, p'.1 ≤ y → y < L → Hm.of (l.map tk) y ≤ y) → (p'.2 = false → ∀ y, 1 ≤ y → y < L → Hm.of (l.map tk) y ≤ y) →
            ∃ xs, (pathGo l (leastV l) c p').map ((x, Hm.of (l.map tk) x) :: ·) = some xs ∧ xs.length ≤ c + 1 ∧ PathOk l L (x, true) xs := by
          intro p' k1 k2 k3
          obtain ⟨xs, e, e0, e1, e2, e3, e4⟩ := ih p' (by omega) (fun hp => by have := k1 hp; omega) k2 k3
          refine ⟨_, by rw [e]; rfl, by simp; omega, by simp, ?_, ?_, ?_⟩
          · intro q hq
            rcases List.mem_cons.1 hq with rfl | hq
            · exact ⟨rfl, g1, Int.le_refl _⟩
            · have := e2 q hq
              have hp : p'.2 = true := by
                cases hb : p'.2 with
                | true => rfl
                | false => rw [e1.1 hb] at hq; simp at hq
              have := k1 hp
              exact ⟨by omega, by omega, by simp only; omega⟩
          · intro i hi
            cases i with
            | zero =>
              cases xs with
              | nil => simp at hi
              | cons q xs =>
                have hp : p'.2 = true := by
                  cases hb : p'.2 with
                  | true => rfl
                  | false => have := e1.1 hb; simp at this
                have := k1 hp
                have := e2 q (by simp)
                simp only [List.getElem_cons_succ, List.getElem_cons_zero]
                omega
            | succ i => exact e3 i (by simp at hi; omega)
          · intro hq; exact e4 (fun q hq' => hq q (by simp [hq']))
        by_cases hlt : Hm.of (l.map tk) x < x
        · rw [if_pos hlt]
          have hle : 0 ≤ leastV l := by
            unfold leastV; split
            · cases l with
              | nil => simp
              | cons a r =>
                simp only
                rcases Hm.minL_mem a.f2 ((a :: r).map fun t => t.f2) with h | h
                · rw [h]; have := hok.2 a (by simp); obtain ⟨_, _, _, h4, _⟩ := this; simp only [tk] at *; omega
                · obtain ⟨b, hb, hb2⟩ := List.mem_map.1 h
                  have := hok.2 b hb; obtain ⟨_, _, _, h4, _⟩ := this; simp only [tk] at *; omega
            · omega
          refine fin _ (fun _ => ⟨by simp only; omega, hlt⟩) (fun _ _ y hy1 hy2 => ?_) (fun h => by simp at h)
          simp only at hy1
          by_cases hyx : x ≤ y
          · exact h2 hw y hyx hy2
          · have := Hm.of_mono hm (show y ≤ x by omega); omega
        · rw [if_neg hlt, beforeV_yes hok (by omega) (by omega)]
          have hb := Hm.before_ge (l.map tk) x
          refine fin _ (fun h => ?_) (fun _ hq y hy1 hy2 => ?_) (fun h y hy1 hy2 => ?_)
          · simp only [decide_eq_true_eq] at h ⊢
            exact ⟨by omega, Hm.before_lt hm (by omega)⟩
          · simp only at hq hy1
            by_cases hyx : x ≤ y
            · exact h2 hw y hyx hy2
            · rw [Hm.of_before hm hy1 (by omega)]; omega
          · simp only [decide_eq_false_iff_not] at h
            by_cases hyx : x ≤ y
            · exact h2 hw y hyx hy2
            · rw [Hm.of_before hm (x := x) (by omega) (by omega), show Hm.before (l.map tk) x = 0 by omega, Hm.of_zero hm]; omega
/-- Tasks fit. -/
def fitL (l : List S28) : Prop := Hm.loadN (l.map tk) (Hm.per (l.map tk) : Int) ≤ (Hm.per (l.map tk) : Int) ∧ ∀ y, 0 ≤ y → Hm.of (l.map tk) y ≤ y
theorem path_from {l : List S28} (hok : okL l) {L : Int} (hL0 : 0 ≤ L) (hL : L ≤ 1099511627776) (c : Nat) (hc : L.toNat < c) :
    ∃ xs, pathGo l (leastV l) c (beforeV l L) = some xs ∧ xs.length ≤ c ∧ PathOk l L (beforeV l L) xs := by
  have hm := okL_map hok
  have hb := Hm.before_ge (l.map tk) L
  rw [beforeV_yes hok hL0 hL]
  refine path_walk hok hL c _ (by omega) (fun h => ?_) (fun _ hq y hy1 hy2 => ?_) (fun h y hy1 hy2 => ?_)
  · simp only [decide_eq_true_eq] at h ⊢
    have := Hm.before_lt hm (x := L) (by omega)
    omega
  · simp only at hq hy1
    rw [Hm.of_before hm hy1 (by omega)]; omega
  · simp only [decide_eq_false_iff_not] at h
    rw [Hm.of_before hm (x := L) (by omega) (by omega), show Hm.before (l.map tk) L = 0 by omega, Hm.of_zero hm]; omega
/-- What a path tells of tasks whose load is not above 1. -/
theorem path_res {l : List S28} (hok : okL l) (hp : Hm.per (l.map tk) ≤ 1048576) (hf : Hm.loadN (l.map tk) (Hm.per (l.map tk) : Int) ≤ (Hm.per (l.map tk) : Int)) (k : Nat) (hk : 2147500000 < k) :
    ∃ L xs, busy_Length.f k l = some (L, 0) ∧ 0 ≤ L ∧ L ≤ (Hm.per (l.map tk) : Int) ∧ pathGo l (leastV l) k (beforeV l L) = some xs ∧ xs.length ≤ 1048577 ∧ PathOk l L (beforeV l L) xs ∧ (xs.all (fun p => decide (p.2 ≤ p.1)) = true ↔ fitL l) ∧ (∀ y, 1 ≤ y → y < L → Hm.of (l.map tk) y ≤ y) = fitL l := by
  have hm := okL_map hok
  by_cases hl : l = []
  · subst hl
    obtain ⟨xs, e1, e2, e3⟩ := path_from (l := []) hok (L := 0) (by omega) (by omega) 1 (by omega)
    have hx : xs = [] := e3.1.1 (by rw [beforeV_yes hok (by omega) (by omega)]; rfl)
    subst hx
    have hfit : fitL [] := ⟨hf, fun y hy => by simpa [Hm.of] using hy⟩
    refine ⟨0, [], Length_none k (by omega), by omega, by omega, ?_, by simp, e3, by simp [hfit], ?_⟩
    · exact pathGo_le (by omega) e1
    · simp only [hfit, eq_iff_iff, iff_true]; intro y _ _; omega
  · obtain ⟨L, a1, a2, a3, a4, a5⟩ := Length_fits k hok (by omega) hl hp hf
    obtain ⟨xs, e1, e2, e3⟩ := path_from hok (L := L) (by omega) (by omega) 1048577 (by omega)
    have hall : (∀ y, 1 ≤ y → y < L → Hm.of (l.map tk) y ≤ y) ↔ fitL l := ⟨fun h => ⟨hf, fun y hy => Hm.fits_all hm a3 a2 h y.toNat y (Nat.le_refl _) hy⟩, fun h y h1 h2 => h.2 y (by omega)⟩
    refine ⟨L, xs, a1, by omega, a4, pathGo_le (by omega) e1, e2, e3, ⟨fun h => hall.1 (e3.2.2.2 (by simpa using h)), fun h => ?_⟩, propext hall⟩
    simp only [List.all_eq_true, decide_eq_true_eq]
    intro q hq
    have := e3.2.1 q hq
    rw [this.1]; exact h.2 _ (by omega)
theorem Test_yes {l : List S28} (hok : okL l) (hp : Hm.per (l.map tk) ≤ 1048576) (k : Nat) (hk : 2147500000 < k) (h : fitL l) : qpa_Test.f k l = some 0 := by
  obtain ⟨L, xs, a1, a2, a3, a4, a5, a6, a7, _⟩ := path_res hok hp h.1 k hk
  unfold qpa_Test.f
  rw [a1]; simp only [Option.bind_some, if_true]
  rw [a4]; simp only [Option.bind_some]
  rw [if_pos (a7.2 h)]
theorem Test_not {l : List S28} (hok : okL l) (hp : Hm.per (l.map tk) ≤ 1048576) (k : Nat) (hk : 2147500000 < k) (h : ¬ fitL l) : qpa_Test.f k l = some 17 := by
  unfold qpa_Test.f
  by_cases hf : Hm.loadN (l.map tk) (Hm.per (l.map tk) : Int) ≤ (Hm.per (l.map tk) : Int)
  · obtain ⟨L, xs, a1, a2, a3, a4, a5, a6, a7, _⟩ := path_res hok hp hf k hk
    rw [a1]; simp only [Option.bind_some, if_true]
    rw [a4]; simp only [Option.bind_some]
    rw [if_neg (fun h' => h (a7.1 h'))]
  · rw [Length_over k hok (by omega) hp (by omega)]; rfl

/-- the first of some times that are so -/
theorem first_int {p : Int → Prop} : ∀ (n : Nat) (y : Int), 1 ≤ y → y.toNat ≤ n → p y → ∃ m, 1 ≤ m ∧ m ≤ y ∧ p m ∧ ∀ z, 1 ≤ z → z < m → ¬ p z := by
  intro n
  induction n with
  | zero => intro y h1 h2; omega
  | succ n ih =>
    intro y h1 h2 hp
    by_cases h : ∃ z, 1 ≤ z ∧ z < y ∧ p z
    · obtain ⟨z, z1, z2, z3⟩ := h
      obtain ⟨m, m1, m2, m3, m4⟩ := ih z z1 (by omega) z3
      exact ⟨m, m1, by omega, m3, m4⟩
    · exact ⟨y, h1, Int.le_refl _, hp, fun z z1 z2 z3 => h ⟨z, z1, z2, z3⟩⟩
/-- What does not fit, though its load is not above 1, has a first time of too much work, within the busy length. -/
theorem miss_first {l : List S28} (hok : okL l) (hp : Hm.per (l.map tk) ≤ 1048576) (hf : Hm.loadN (l.map tk) (Hm.per (l.map tk) : Int) ≤ (Hm.per (l.map tk) : Int)) (h : ¬ fitL l) (k : Nat) (hk : 2147500000 < k) :
    ∃ L m, busy_Length.f k l = some (L, 0) ∧ L ≤ (Hm.per (l.map tk) : Int) ∧ 1 ≤ m ∧ m < L ∧ m < Hm.of (l.map tk) m ∧ ∀ z, 1 ≤ z → z < m → Hm.of (l.map tk) z ≤ z := by
  obtain ⟨L, xs, a1, a2, a3, a4, a5, a6, a7, a8⟩ := path_res hok hp hf k hk
  have h2 : ¬ ∀ y, 1 ≤ y → y < L → Hm.of (l.map tk) y ≤ y := by rw [a8]; exact h
  have h3 : ∃ y, 1 ≤ y ∧ y < L ∧ y < Hm.of (l.map tk) y := by
    refine Classical.byContradiction fun hn => h2 fun y h4 h5 => ?_
    refine Classical.byContradiction fun h6 => hn ⟨y, h4, h5, by omega⟩
  obtain ⟨y, y1, y2, y3⟩ := h3
  obtain ⟨m, m1, m2, m3, m4⟩ := first_int (p := fun y => y < Hm.of (l.map tk) y) y.toNat y y1 (Nat.le_refl _) y3
  exact ⟨L, m, a1, a3, m1, by omega, m3, fun z z1 z2 => Int.not_lt.1 (m4 z z1 z2)⟩

theorem Length_long {l : List S28} (k : Nat) (h : okL l) (hk : 2147483648 < k) (hp : ¬ Hm.per (l.map tk) ≤ 1048576) : busy_Length.f k l = some (0, 16) := by
  unfold busy_Length.f
  rw [right_long k h hk hp]; rfl
theorem Length_arg {l : List S28} (k : Nat) (h : ¬ okL l) : busy_Length.f k l = some (0, 1) := by
  unfold busy_Length.f
  rw [right_arg k h]; rfl

theorem Test_long {l : List S28} (hok : okL l) (hp : ¬ Hm.per (l.map tk) ≤ 1048576) (k : Nat) (hk : 2147500000 < k) : qpa_Test.f k l = some 16 := by
  unfold qpa_Test.f
  rw [Length_long k hok (by omega) hp]; rfl
theorem Test_arg {l : List S28} (hok : ¬ okL l) (k : Nat) : qpa_Test.f k l = some 1 := by
  unfold qpa_Test.f
  rw [Length_arg k hok]; rfl

theorem rd_midI (pre : List Int) (s : Int) (suf : List Int) : rd (pre ++ s :: suf) (pre.length : Int) = s := by
  simp [rd]
theorem least_loop (suf : List Int) : ∀ (pre : List Int) (k : Nat) (m : Int), (pre ++ suf).length ≤ 1000 → suf.length < k →
    demand_least.l0 k m (pre ++ suf) ((pre ++ suf).length : Int) (pre.length : Int) = some (Hm.minL m suf) := by
  induction suf with
  | nil =>
    intro pre k m _ hk
    obtain ⟨k, rfl⟩ := some_k hk
    simp only [demand_least.l0, List.append_nil, Hm.minL]
    rw [if_neg (by omega)]
  | cons s suf ih =>
    intro pre k m hl hk
    obtain ⟨k, rfl⟩ := some_k (show 0 < k by omega)
    simp only [List.length_append, List.length_cons] at hl hk
    have i1 : ((pre ++ s :: suf).length : Int) = (pre.length : Int) + ((suf.length : Int) + 1) := by simp
    have i2 := ih (pre ++ [s]) k (mn m s) (by simp; omega) (by omega)
    simp only [List.append_assoc, List.cons_append, List.nil_append] at i2
    rw [show ((pre ++ [s]).length : Int) = (pre.length : Int) + 1 from by simp] at i2
    simp only [demand_least.l0]
    rw [if_pos (by omega), if_pos (by omega), if_pos (by omega), rd_midI, w64 (by omega) (by omega)]
    exact i2
theorem least_is (x : Int) (l : List Int) (k : Nat) (hl : l.length ≤ 900) (hk : 1000 ≤ k) : demand_least.f k (x :: l) = some (Hm.minL x (x :: l)) := by
  unfold demand_least.f
  rw [if_pos (by simp only [List.length_cons]; omega)]
  have := least_loop (x :: l) [] k x (by simp only [List.nil_append, List.length_cons]; omega) (by simp only [List.length_cons]; omega)
  simpa [rd] using this
theorem next_loop {x : Int} (h0 : 0 ≤ x) (h1 : x ≤ 1099511627776) (suf : List S28) : ∀ (pre : List S28) (k : Nat), okL (pre ++ suf) → (pre ++ suf) ≠ [] → suf.length + 1001 ≤ k →
    demand_Next.l0 k x (pre.map fun s => Hm.due (tk s) x) (pre ++ suf) ((pre ++ suf).length : Int) (pre.length : Int) =
      some (if Hm.next ((pre ++ suf).map tk) x > 1099511627776 then (0, false) else (Hm.next ((pre ++ suf).map tk) x, true)) := by
  induction suf with
  | nil =>
    intro pre k hok hne hk
    obtain ⟨k, rfl⟩ := some_k (show 0 < k by omega)
    simp only [List.append_nil] at hok hne ⊢
    simp only [demand_Next.l0]
    rw [if_neg (by omega)]
    match pre, hok, hne with
    | s :: r, hok, _ =>
      have hlen := hok.1
      simp only [List.length_cons] at hlen
      rw [List.map_cons, least_is _ _ k (by simp; omega) (by simp at hk; omega)]
      simp only [Option.bind_some]
      have e : Hm.minL (Hm.due (tk s) x) (Hm.due (tk s) x :: r.map fun s => Hm.due (tk s) x) = Hm.next ((s :: r).map tk) x := by
        simp [Hm.next, List.map_map, Function.comp_def]
      rw [e]
      split <;> rfl
  | cons s suf ih =>
    intro pre k hok _ hk
    obtain ⟨k, rfl⟩ := some_k (show 0 < k by omega)
    have hs : (tk s).ok := hok.2 s (by simp)
    have hlen := hok.1
    simp only [List.length_append, List.length_cons] at hlen hk
    have hw := Hm.due_le hs h0
    have hg := Hm.due_gt (t := tk s) (x := x) (by obtain ⟨_, _, _, _, _, _, _, _⟩ := hs; omega)
    have hmn := Hm.many_nonneg (t := tk s) (x := x) (by obtain ⟨_, _, _, _, _, _, _, _⟩ := hs; omega)
    obtain ⟨_, _, h2, h3, h4, h5, _, _⟩ := id hs
    have hd : (tk s).d = s.f2 := rfl
    have ht : (tk s).t = s.f3 := rfl
    have hdue : Hm.due (tk s) x = s.f2 + s.f3 * Hm.many (tk s) x := rfl
    rw [hdue] at hw hg
    rw [hd] at h3 h4; rw [ht] at h4 h5 hw
    have hmm := Int.mul_nonneg (show 0 ≤ s.f3 by omega) hmn
    have i1 : ((pre ++ s :: suf).length : Int) = (pre.length : Int) + ((suf.length : Int) + 1) := by simp
    have i2 := ih (pre ++ [s]) k (by simpa using hok) (by simp) (by omega)
    simp only [List.append_assoc, List.cons_append, List.nil_append, List.map_append, List.map_cons, List.map_nil] at i2
    rw [show ((pre ++ [s]).length : Int) = (pre.length : Int) + 1 from by simp, hdue] at i2
    simp only [demand_Next.l0]
    rw [if_pos (by omega), if_pos (by omega), if_pos (by omega), rd_mid, many_is hs (by omega) (by omega)]
    simp only [Option.bind_some]
    rw [if_pos (by simp; omega), w64 (n := s.f3 * Hm.many (tk s) x) (by omega) (by omega), w64 (n := s.f2 + s.f3 * Hm.many (tk s) x) (by omega) (by omega), w64 (n := (pre.length : Int) + 1) (by omega) (by omega), i2]
    simp
theorem Next_is {l : List S28} {x : Int} (k : Nat) (h : okL l) (hne : l ≠ []) (h0 : 0 ≤ x) (h1 : x ≤ 1099511627776) (hk : 1100 ≤ k) :
    demand_Next.f k l x = some (if Hm.next (l.map tk) x > 1099511627776 then (0, false) else (Hm.next (l.map tk) x, true)) := by
  unfold demand_Next.f
  rw [may_yes h h0 h1]; simp only [Option.bind_some, if_true]
  obtain ⟨k, rfl⟩ := some_k (show 0 < k by omega)
  simp only [demand_Next.j0]
  have hl := h.1
  have hz : ((l.length : Int) == 0) = false := by
    rw [beq_eq_false_iff_ne]; intro e; exact hne (List.length_eq_zero_iff.1 (by omega))
  rw [hz]; simp only [Bool.false_eq_true, if_false]
  have := next_loop h0 h1 l [] k (by simpa using h) (by simpa using hne) (by omega)
  simpa using this
theorem Next_nil {x : Int} (k : Nat) (hk : 1 ≤ k) : demand_Next.f k [] x = some (0, false) := by
  unfold demand_Next.f
  obtain ⟨k, rfl⟩ := some_k (show 0 < k by omega)
  by_cases h : 0 ≤ x ∧ x ≤ 1099511627776
  · rw [may_yes (l := []) ⟨by simp, by simp⟩ h.1 h.2]; simp [demand_Next.j0]
  · rw [may_no (l := []) (fun hh => h hh.2)]; simp [demand_Next.j0]
theorem Next_no {l : List S28} {x : Int} (k : Nat) (h : ¬ (okL l ∧ 0 ≤ x ∧ x ≤ 1099511627776)) (hk : 1 ≤ k) : demand_Next.f k l x = some (0, false) := by
  unfold demand_Next.f
  obtain ⟨k, rfl⟩ := some_k (show 0 < k by omega)
  rw [may_no h]; simp [demand_Next.j0]

/-- What Next tells. -/
def nextV (l : List S28) (x : Int) : Int × Bool := if (mayB l x && !l.isEmpty && !decide (Hm.next (l.map tk) x > 1099511627776)) = true then (Hm.next (l.map tk) x, true) else (0, false)
theorem Next_all (k : Nat) (l : List S28) (x : Int) (hk : 1100 ≤ k) : demand_Next.f k l x = some (nextV l x) := by
  unfold nextV
  by_cases h : mayB l x = true
  · obtain ⟨h1, h2, h3⟩ := mayB_ok.1 h
    by_cases hne : l = []
    · subst hne; rw [Next_nil k (by omega)]; simp
    · rw [Next_is k h1 hne h2 h3 hk]
      have he : l.isEmpty = false := by simpa using hne
      by_cases hg : Hm.next (l.map tk) x > 1099511627776
      · simp [h, he, hg]
      · simp [h, he, hg]
  · rw [Next_no k (fun h' => h (mayB_ok.2 h')) (by omega)]
    simp [Bool.eq_false_iff.2 h]
theorem nextV_cases {l : List S28} {y : Int} (hok : okL l) (hne : l ≠ []) (h0 : 0 ≤ y) (h1 : y ≤ 1099511627776) : nextV l y = if Hm.next (l.map tk) y > 1099511627776 then (0, false) else (Hm.next (l.map tk) y, true) := by
  have hm : mayB l y = true := mayB_ok.2 ⟨hok, h0, h1⟩
  have he : l.isEmpty = false := by simpa using hne
  unfold nextV
  by_cases hg : Hm.next (l.map tk) y > 1099511627776
  · simp [hm, he, hg]
  · simp [hm, he, hg]

theorem miss_loop {l : List S28} (hok : okL l) (hne : l ≠ []) {L m : Int} (hL : L ≤ 1048576) (hm1 : 1 ≤ m) (hmL : m < L) (hx : m < Hm.of (l.map tk) m) (hz : ∀ z, 1 ≤ z → z < m → Hm.of (l.map tk) z ≤ z) : ∀ (d : Nat) (k : Nat) (y : Int), 0 ≤ y → y < m → (m - y).toNat ≤ d → 1200 + d < k →
    qpa_Miss.l0 k l L (nextV l y).1 (nextV l y).2 = some (m, 0) := by
  have hm := okL_map hok
  have hne2 : l.map tk ≠ [] := by simpa using hne
  intro d
  induction d with
  | zero => intro k y h0 h1 h2; omega
  | succ d ih =>
    intro k y h0 h1 h2 hk
    obtain ⟨k, rfl⟩ := some_k (show 0 < k by omega)
    have hy : Hm.of (l.map tk) y ≤ y := by
      by_cases h : y = 0
      · subst h; rw [Hm.of_zero hm]; omega
      · exact hz y (by omega) h1
    have hgt := Hm.next_gt hne2 hm y
    have hle : Hm.next (l.map tk) y ≤ m := by
      refine Int.not_lt.1 fun h => ?_
      have := Hm.of_const hm (show y ≤ m by omega) h
      omega
    rw [nextV_cases hok hne h0 (by omega), if_neg (by omega)]
    simp only [qpa_Miss.l0]
    generalize Hm.next (l.map tk) y = n at hgt hle ⊢
    rw [if_pos trivial, if_pos (by omega), Of_yes k hok (by omega) (by omega) (by omega)]
    simp only [Option.bind_some]
    by_cases hn : n = m
    · subst hn; rw [if_neg (by omega)]
    · have := hz n (by omega) (by omega)
      rw [if_pos this, Next_all k l n (by omega)]
      simp only [Option.bind_some]
      exact ih k n (by omega) (by omega) (by omega) (by omega)

theorem Miss_fits {l : List S28} {e : Int} (k : Nat) (h : qpa_Test.f k l = some e) (he : e ≠ 17) : qpa_Miss.f k l = some (0, e) := by
  unfold qpa_Miss.f
  rw [h]; simp only [Option.bind_some]; rw [if_neg he]
theorem Miss_over {l : List S28} (hok : okL l) (hp : Hm.per (l.map tk) ≤ 1048576) (k : Nat) (hk : 2151000000 < k) (hf : ¬ Hm.loadN (l.map tk) (Hm.per (l.map tk) : Int) ≤ (Hm.per (l.map tk) : Int)) : qpa_Miss.f k l = some (0, 0) := by
  unfold qpa_Miss.f
  rw [Test_not hok hp k (by omega) (fun h => hf h.1)]; simp only [Option.bind_some]; rw [if_pos trivial, Length_over k hok (by omega) hp (by omega)]; rfl
/-- The first time of too much work, or none. -/
theorem Miss_at {l : List S28} (hok : okL l) (hp : Hm.per (l.map tk) ≤ 1048576) (k : Nat) (hk : 2151000000 < k) (hf : Hm.loadN (l.map tk) (Hm.per (l.map tk) : Int) ≤ (Hm.per (l.map tk) : Int)) (h : ¬ fitL l) :
    ∃ m, qpa_Miss.f k l = some (m, 0) ∧ 1 ≤ m ∧ m ≤ (Hm.per (l.map tk) : Int) ∧ m < Hm.of (l.map tk) m ∧ ∀ z, 1 ≤ z → z < m → Hm.of (l.map tk) z ≤ z := by
  obtain ⟨L, m, a1, a2, a3, a4, a5, a6⟩ := miss_first hok hp hf h k (by omega)
  have hne : l ≠ [] := by
    intro e; subst e
    simp [Hm.of] at a5; omega
  refine ⟨m, ?_, a3, by omega, a5, a6⟩
  unfold qpa_Miss.f
  rw [Test_not hok hp k (by omega) h]; simp only [Option.bind_some]; rw [if_pos trivial, a1]; simp only [Option.bind_some]
  rw [if_pos trivial, Next_all k l 0 (by omega)]; simp only [Option.bind_some]
  exact miss_loop hok hne (L := L) (by omega) a3 a4 a5 a6 m.toNat k 0 (by omega) (by omega) (by omega) (by omega)

theorem rcheck_is (s : S28) : horariumref09_Check.f s.f0 s.f1 s.f2 s.f3 s.f4 = some (taskB s) := by
  have e : taskB s = true ↔ (tk s).ok := taskB_ok s
  unfold Hm.Tk.ok tk at e
  simp only at e
  unfold horariumref09_Check.f
  by_cases h : taskB s = true
  · obtain ⟨h1, h2, h3, h4, h5, h6, h7, h8⟩ := e.1 h
    rw [h, if_pos (by omega), if_pos (by omega), if_pos (by omega), if_pos (by omega), if_pos (by omega), if_pos (by omega), if_pos (by omega), decide_eq_true h8]
  · have hf : taskB s = false := Bool.eq_false_iff.2 h
    rw [hf]
    repeat' split
    all_goals first | rfl | skip
    all_goals (congr 1; rw [decide_eq_false_iff_not]; intro h8; exact h (e.2 ⟨by omega, by omega, by omega, by omega, by omega, by omega, by omega, h8⟩))

theorem rrow_loop (suf : List S28) : ∀ (pre : List S28) (k : Nat), (∀ s ∈ suf, (tk s).ok) → ((pre ++ suf).length : Int) ≤ 16 → suf.length < k → horariumref09_Row.l0 k (pre ++ suf) (pre.length : Int) = some true := by
  induction suf with
  | nil =>
    intro pre k _ hlen hk
    obtain ⟨k, rfl⟩ := some_k hk
    simp only [horariumref09_Row.l0, List.append_nil] at hlen ⊢
    rw [if_neg (by omega), decide_eq_true hlen]
  | cons s suf ih =>
    intro pre k hok hlen hk
    obtain ⟨k, rfl⟩ := some_k (show 0 < k by omega)
    have i1 : ((pre ++ s :: suf).length : Int) = (pre.length : Int) + ((suf.length : Int) + 1) := by simp
    have i2 := ih (pre ++ [s]) k (fun x hx => hok x (by simp [hx])) (by simpa using hlen) (by simp at hk; omega)
    simp only [List.append_assoc, List.cons_append, List.nil_append] at i2
    rw [show ((pre ++ [s]).length : Int) = (pre.length : Int) + 1 from by simp] at i2
    simp only [horariumref09_Row.l0]
    rw [if_pos (by omega), if_pos (by omega), rd_mid, rcheck_is, (taskB_ok s).2 (hok s (by simp))]
    simp only [Option.bind_some, if_true]
    rw [w64 (by omega) (by omega)]
    exact i2
theorem rrow_yes {l : List S28} (k : Nat) (h : okL l) (hk : 16 < k) : horariumref09_Row.f k l = some true := by
  have hl := h.1
  have := rrow_loop l [] k h.2 (by simp; omega) (by omega)
  exact this
theorem rgcd_is : ∀ (k : Nat) (a b : Int), 0 ≤ a → 0 ≤ b → b ≤ 9223372036854775807 → a ≤ 9223372036854775807 → b.toNat < k → horariumref09_Gcd.f k a b = some ((Int.gcd a b : Nat) : Int) := by
  intro k
  induction k with
  | zero => intro a b _ _ _ _ h; omega
  | succ k ih =>
    intro a b ha hb hb2 ha2 hk
    unfold horariumref09_Gcd.f
    rw [if_neg (by omega), if_neg (by omega)]
    by_cases h : b = 0
    · subst h; rw [if_pos rfl, Int.gcd_zero_right]; congr 1; omega
    · rw [if_neg h]
      have e : (Int.tmod a b).natAbs = a.natAbs % b.natAbs := Int.natAbs_tmod a b
      have h1 := Int.tmod_nonneg b ha
      have h2 := Int.tmod_lt_of_pos a (show 0 < b by omega)
      rw [ih b (Int.tmod a b) hb h1 (by omega) (by omega) (by omega)]
      simp only [Option.bind_some]
      congr 2
      rw [Int.gcd_eq_natAbs_gcd_natAbs, Int.gcd_eq_natAbs_gcd_natAbs, e, Nat.gcd_comm a.natAbs b.natAbs, Nat.gcd_rec b.natAbs a.natAbs, Nat.gcd_comm]
theorem rper_loop (k0 : Nat) (hk0 : 2147483648 ≤ k0) (suf : List S28) : ∀ (pre : List S28) (k m : Nat), k0 + suf.length < k → (pre ++ suf).length ≤ 16 → 0 < m → m ≤ 1048576 → (∀ s ∈ suf, (tk s).ok) →
    Hm.perFrom m (suf.map fun s => s.f3.toNat) ≤ 1048576 → horariumref09_Period.l0 k (pre ++ suf) (m : Int) (pre.length : Int) = some (((Hm.perFrom m (suf.map fun s => s.f3.toNat) : Nat) : Int), 0) := by
  induction suf with
  | nil =>
    intro pre k m hk hlen h0 h1 _ _
    obtain ⟨k, rfl⟩ := some_k (show 0 < k by omega)
    simp only [horariumref09_Period.l0, List.append_nil, List.map_nil, Hm.perFrom]
    rw [if_neg (by omega)]
  | cons s suf ih =>
    intro pre k m hk hlen h0 h1 hok hp
    obtain ⟨k, rfl⟩ := some_k (show 0 < k by omega)
    obtain ⟨_, _, h2, h3, h4, h5, _, _⟩ := hok s (by simp)
    simp only [tk] at h2 h3 h4 h5
    obtain ⟨t, ht⟩ : ∃ t : Nat, s.f3 = (t : Int) := ⟨s.f3.toNat, by omega⟩
    have hg : Int.gcd (m : Int) (t : Int) = Nat.gcd m t := by simp [Int.gcd_eq_natAbs_gcd_natAbs]
    have hgp : 0 < Nat.gcd m t := Nat.gcd_pos_of_pos_left t h0
    have e3 : (s :: suf).map (fun s => s.f3.toNat) = t :: suf.map (fun s => s.f3.toNat) := by simp [ht]
    rw [e3] at hp ⊢
    rw [show Hm.perFrom m (t :: suf.map fun s => s.f3.toNat) = Hm.perFrom (Nat.lcm m t) (suf.map fun s => s.f3.toNat) from rfl] at hp ⊢
    have hlp : 0 < Nat.lcm m t := Nat.lcm_pos h0 (by omega)
    have hpos : 0 < Hm.perFrom (Nat.lcm m t) (suf.map fun s => s.f3.toNat) := Hm.perFrom_pos hlp (fun x hx => by
      obtain ⟨y, hy, rfl⟩ := List.mem_map.1 hx
      obtain ⟨_, _, g2, g3, g4, _⟩ := hok y (by simp [hy])
      simp only [tk] at g2 g3 g4
      omega)
    have hle : Nat.lcm m t ≤ 1048576 := Nat.le_trans (Nat.le_of_dvd hpos (Hm.perFrom_start (Nat.lcm m t) (suf.map fun s => s.f3.toNat))) hp
    have hlen' := hlen
    simp only [List.length_append, List.length_cons] at hlen' hk
    have i1 : ((pre ++ s :: suf).length : Int) = (pre.length : Int) + ((suf.length : Int) + 1) := by simp
    have i2 := ih (pre ++ [s]) k (Nat.lcm m t) (by omega) (by simp; omega) hlp hle (fun x hx => hok x (by simp [hx])) hp
    simp only [List.append_assoc, List.cons_append, List.nil_append] at i2
    rw [show ((pre ++ [s]).length : Int) = (pre.length : Int) + 1 from by simp] at i2
    have e1 : Int.tdiv (m : Int) ((Nat.gcd m t : Nat) : Int) = ((m / Nat.gcd m t : Nat) : Int) := by rw [Int.tdiv_eq_ediv_of_nonneg (by omega)]; exact (Int.natCast_ediv m (Nat.gcd m t)).symm
    have hq : m / Nat.gcd m t ≤ m := Nat.div_le_self _ _
    have e2 : ((m / Nat.gcd m t : Nat) : Int) * (t : Int) = ((Nat.lcm m t : Nat) : Int) := by
      rw [← Int.natCast_mul]; congr 1
      unfold Nat.lcm
      rw [Nat.mul_comm, ← Nat.mul_div_assoc t (Nat.gcd_dvd_left m t), Nat.mul_comm]
    simp only [horariumref09_Period.l0]
    rw [if_pos (by omega), if_pos (by omega), rd_mid, ht, rgcd_is k _ _ (by omega) (by omega) (by omega) (by omega) (by omega), hg]
    simp only [Option.bind_some]
    rw [if_neg (by omega), e1, w64 (n := ((m / Nat.gcd m t : Nat) : Int)) (by have := Int.natCast_nonneg (m / Nat.gcd m t); omega) (by have : ((m / Nat.gcd m t : Nat) : Int) ≤ (m : Int) := Int.ofNat_le.2 hq; omega), e2, w64 (n := ((Nat.lcm m t : Nat) : Int)) (by omega) (by omega), if_neg (by omega), w64 (by omega) (by omega)]
    exact i2
theorem rPeriod_ok {l : List S28} (k : Nat) (h : okL l) (hk : 2147483700 < k) (hp : Hm.per (l.map tk) ≤ 1048576) : horariumref09_Period.f k l = some ((Hm.per (l.map tk) : Int), 0) := by
  have e0 : Hm.per (l.map tk) = Hm.perFrom 1 (l.map fun s => s.f3.toNat) := by unfold Hm.per; rw [List.map_map]; rfl
  have hl := h.1
  have := rper_loop 2147483648 (by omega) l [] k 1 (by omega) (by simpa using hl) (by omega) (by omega) h.2 (by rw [← e0]; exact hp)
  unfold horariumref09_Period.f
  rw [rrow_yes k h (by omega)]; simp only [Option.bind_some, if_true]
  rw [e0]; exact this
theorem rload_loop {p : Int} (h0 : 0 < p) (h1 : p ≤ 1048576) (suf : List S28) : ∀ (pre : List S28) (k : Nat) (acc : Int), okL (pre ++ suf) → suf.length < k → 0 ≤ acc → acc ≤ (pre.length : Int) * 1048576 →
    horariumref09_Load.l0 k (pre ++ suf) p acc (pre.length : Int) = some (acc + Hm.loadN (suf.map tk) p, p, 0) := by
  induction suf with
  | nil =>
    intro pre k acc _ hk _ _
    obtain ⟨k, rfl⟩ := some_k hk
    simp only [horariumref09_Load.l0, List.append_nil, List.map_nil, Hm.loadN]
    rw [if_neg (by omega)]; simp
  | cons s suf ih =>
    intro pre k acc hok hk ha hb
    obtain ⟨k, rfl⟩ := some_k (show 0 < k by omega)
    have hs : (tk s).ok := hok.2 s (by simp)
    have hw := Hm.load_le hs (p := p) (by omega)
    have hlen := hok.1
    simp only [List.length_append, List.length_cons] at hlen hk
    have hc : (tk s).c = s.f1 := rfl
    have ht : (tk s).t = s.f3 := rfl
    rw [hc, ht] at hw
    obtain ⟨_, _, h2, h3, h4, h5, _, _⟩ := hs
    simp only [tk] at h2 h3 h4 h5
    have i1 : ((pre ++ s :: suf).length : Int) = (pre.length : Int) + ((suf.length : Int) + 1) := by simp
    have i2 := ih (pre ++ [s]) k (acc + s.f1 * (p / s.f3)) (by simpa using hok) (by omega) (by omega) (by simp only [List.length_append, List.length_singleton]; omega)
    simp only [List.append_assoc, List.cons_append, List.nil_append] at i2
    have i3 : ((pre ++ [s]).length : Int) = (pre.length : Int) + 1 := by simp
    rw [i3] at i2
    have hq := Int.ediv_nonneg (show 0 ≤ p by omega) (show 0 ≤ s.f3 by omega)
    have hq2 := Int.ediv_le_self s.f3 (show 0 ≤ p by omega)
    simp only [horariumref09_Load.l0]
    rw [if_pos (by omega), if_pos (by omega), rd_mid, if_neg (by omega), Int.tdiv_eq_ediv_of_nonneg (by omega), w64 (n := p / s.f3) (by omega) (by omega)]
    rw [w64 (n := s.f1 * (p / s.f3)) (by omega) (by omega), w64 (n := acc + s.f1 * (p / s.f3)) (by omega) (by omega), w64 (n := (pre.length : Int) + 1) (by omega) (by omega), i2]
    simp only [List.map_cons, Hm.loadN, hc, ht]
    congr 2; omega
theorem rLoad_ok {l : List S28} (k : Nat) (h : okL l) (hk : 2147483700 < k) (hp : Hm.per (l.map tk) ≤ 1048576) : horariumref09_Load.f k l = some (Hm.loadN (l.map tk) (Hm.per (l.map tk) : Int), (Hm.per (l.map tk) : Int), 0) := by
  unfold horariumref09_Load.f
  rw [rPeriod_ok k h hk hp]; simp only [Option.bind_some, if_true]
  have hpos := Hm.per_pos (okL_map h)
  have hl := h.1
  have := rload_loop (p := (Hm.per (l.map tk) : Int)) (by omega) (by omega) l [] k 0 (by simpa using h) (by omega) (by omega) (by simp)
  simpa using this

/-- Rows of tasks whose periods divide 120. -/
def Ok120 (l : List S28) : Prop := okL l ∧ ∀ s ∈ l, s.f3 ∣ 120
def fits (l : List S28) : Prop := Hm.loadN (l.map tk) 120 ≤ 120
theorem Ok120.dvd {l : List S28} (h : Ok120 l) : ∀ t ∈ l.map tk, t.t ∣ 120 := fun t ht => by
  obtain ⟨y, hy, rfl⟩ := List.mem_map.1 ht; exact h.2 y hy
theorem Ok120.per {l : List S28} (h : Ok120 l) : Hm.per (l.map tk) ≤ 120 := Nat.le_of_dvd (by omega) (Hm.per_least (okL_map h.1) h.dvd)
theorem Ok120.fits {l : List S28} (h : Ok120 l) : fits l ↔ Hm.loadN (l.map tk) (Hm.per (l.map tk) : Int) ≤ (Hm.per (l.map tk) : Int) := Hm.fits_at (okL_map h.1) (by omega) h.dvd
theorem Length_120 {l : List S28} (k : Nat) (h : Ok120 l) (hk : 2147483648 < k) : ∃ n e, busy_Length.f k l = some (n, e) ∧ (e = 0 ∧ fits l ∧ 0 ≤ n ∧ n ≤ 120 ∧ Hm.work (l.map tk) n = n ∧ (l ≠ [] → 1 ≤ n) ∧ (∀ y, 1 ≤ y → y < n → y < Hm.work (l.map tk) y) ∨ e = 17 ∧ n = 0 ∧ ¬ fits l) := by
  have hp := h.per
  by_cases hf : fits l
  · by_cases hl : l = []
    · subst hl
      exact ⟨0, 0, Length_none k hk, Or.inl ⟨rfl, hf, by omega, by omega, rfl, fun h => absurd rfl h, fun y h1 h2 => by omega⟩⟩
    · obtain ⟨n, e1, e2, e3, e4, e5⟩ := Length_fits k h.1 hk hl (by omega) (h.fits.1 hf)
      exact ⟨n, 0, e1, Or.inl ⟨rfl, hf, by omega, by omega, e2, fun _ => e3, e5⟩⟩
  · exact ⟨0, 17, Length_over k h.1 hk (by omega) (Int.not_le.1 (fun h' => hf (h.fits.2 h'))), Or.inr ⟨rfl, rfl, hf⟩⟩

theorem and_7 (n : Int) : Go.bits .and .i64 n 7 = n % 8 := by
  have h127 : (BitVec.ofInt 64 7).toNat = 2 ^ 3 - 1 := by decide
  have key : (BitVec.ofInt 64 n &&& BitVec.ofInt 64 7).toNat = (n % ((2 ^ 64 : Nat) : Int)).toNat % 2 ^ 3 := by
    rw [BitVec.toNat_and, BitVec.toNat_ofInt, h127, Nat.and_two_pow_sub_one_eq_mod]
  show IntKind.i64.wrap ((BitVec.ofInt 64 n &&& BitVec.ofInt 64 7).toNat : Nat) = n % 8
  rw [key, IntKind.wrap_i64]
  omega

theorem and_15 (n : Int) : Go.bits .and .i64 n 15 = n % 16 := by
  have h127 : (BitVec.ofInt 64 15).toNat = 2 ^ 4 - 1 := by decide
  have key : (BitVec.ofInt 64 n &&& BitVec.ofInt 64 15).toNat = (n % ((2 ^ 64 : Nat) : Int)).toNat % 2 ^ 4 := by
    rw [BitVec.toNat_and, BitVec.toNat_ofInt, h127, Nat.and_two_pow_sub_one_eq_mod]
  show IntKind.i64.wrap ((BitVec.ofInt 64 n &&& BitVec.ofInt 64 15).toNat : Nat) = n % 16
  rw [key, IntKind.wrap_i64]
  omega

/-- Tasks by numbers. -/
def MadeP (r : List S28) : Prop := ∀ i (h : i < r.length), (r[i]).f0 = (i : Int) ∧ 1 ≤ (r[i]).f1 ∧ (r[i]).f1 ≤ (r[i]).f2 ∧ (r[i]).f2 ≤ (r[i]).f3 ∧ 2 ≤ (r[i]).f3 ∧ (r[i]).f3 ≤ 12 ∧ (r[i]).f3 ∣ 120 ∧ 1 ≤ (r[i]).f4 ∧ (r[i]).f4 ≤ 15
theorem mod_rng (a : Int) {m : Int} (h : 1 ≤ m) (hm : m ≤ 24) : 1 ≤ wrap64 (1 + Int.tmod (wrap64 (Int.tmod a m + m)) m) ∧ wrap64 (1 + Int.tmod (wrap64 (Int.tmod a m + m)) m) ≤ m := by
  have h1 : -m < Int.tmod a m ∧ Int.tmod a m < m := by
    rcases Int.le_total 0 a with ha | ha
    · have h2 := Int.tmod_lt_of_pos a (show 0 < m by omega); have h3 := Int.tmod_nonneg m ha; omega
    · have h2 := Int.tmod_lt_of_pos (-a) (show 0 < m by omega); have h3 := Int.tmod_nonneg m (show 0 ≤ -a by omega)
      rw [Int.neg_tmod] at h2 h3; omega
  rw [w64 (n := Int.tmod a m + m) (by omega) (by omega)]
  have h4 := Int.tmod_lt_of_pos (Int.tmod a m + m) (show 0 < m by omega); have h5 := Int.tmod_nonneg m (show 0 ≤ Int.tmod a m + m by omega)
  rw [w64 (by omega) (by omega)]; omega
theorem per_rng (j : Int) (h0 : 0 ≤ j) (h1 : j < 8) : 2 ≤ rd [2, 3, 4, 5, 6, 8, 10, 12] j ∧ rd [2, 3, 4, 5, 6, 8, 10, 12] j ≤ 12 ∧ rd [2, 3, 4, 5, 6, 8, 10, 12] j ∣ 120 := by
  have : j = 0 ∨ j = 1 ∨ j = 2 ∨ j = 3 ∨ j = 4 ∨ j = 5 ∨ j = 6 ∨ j = 7 := by omega
  rcases this with rfl | rfl | rfl | rfl | rfl | rfl | rfl | rfl <;> decide
theorem mode_rng (x : Int) : 1 ≤ wrap64 (1 + Int.tmod (bits BinOp.and IntKind.i64 x 15) 15) ∧ wrap64 (1 + Int.tmod (bits BinOp.and IntKind.i64 x 15) 15) ≤ 15 := by
  rw [and_15, Int.tmod_eq_emod_of_nonneg (by omega), w64 (by omega) (by omega)]; omega
theorem made_loop (l : List S31) (d : Nat) : ∀ (k i : Nat) (r : List S28), i + d = min l.length 8 → d < k → r.length = i → MadeP r →
    ∃ r', horariumlaw12_made.l0 k l r (i : Int) 2 3 4 5 6 8 10 12 = some r' ∧ r'.length = min l.length 8 ∧ MadeP r' := by
  induction d with
  | zero =>
    intro k i r hd hk hr hm
    obtain ⟨k, rfl⟩ := some_k hk
    refine ⟨r, ?_, by omega, hm⟩
    simp only [horariumlaw12_made.l0]
    by_cases h : (i : Int) < (l.length : Int)
    · rw [if_pos h, if_neg (by omega)]
    · rw [if_neg h]
  | succ d ih =>
    intro k i r hd hk hr hm
    obtain ⟨k, rfl⟩ := some_k (show 0 < k by omega)
    simp only [horariumlaw12_made.l0]
    rw [and_7, if_pos (by omega), if_pos (by omega), if_pos (by omega), if_pos (by omega), if_pos (by omega)]
    have hT := per_rng ((rd_T31 l (i : Int)).f2 % 8) (by omega) (by omega)
    generalize rd [2, 3, 4, 5, 6, 8, 10, 12] ((rd_T31 l (i : Int)).f2 % 8) = T at hT ⊢
    rw [if_neg (by omega)]
    have hD := mod_rng (rd_T31 l (i : Int)).f1 (m := T) (by omega) (by omega)
    generalize wrap64 (1 + Int.tmod (wrap64 (Int.tmod (rd_T31 l (i : Int)).f1 T + T)) T) = D at hD ⊢
    rw [if_neg (by omega), if_pos (by omega)]
    have hC := mod_rng (rd_T31 l (i : Int)).f0 (m := D) (by omega) (by omega)
    generalize wrap64 (1 + Int.tmod (wrap64 (Int.tmod (rd_T31 l (i : Int)).f0 D + D)) D) = C at hC ⊢
    have hM := mode_rng ((rd_T31 l (i : Int)).f2 / 8)
    rw [w64 (n := (i : Int) + 1) (by omega) (by omega)]
    have e : ((i : Int) + 1) = ((i + 1 : Nat) : Int) := by omega
    rw [e]
    refine ih k (i + 1) _ (by omega) (by omega) (by simp [hr]) ?_
    intro j hj
    by_cases h : j < r.length
    · rw [List.getElem_append_left h]; exact hm j h
    · have hj2 : j = r.length := by simp at hj; omega
      subst hj2
      rw [List.getElem_append_right (by omega)]
      simp only [Nat.sub_self, List.getElem_cons_zero]
      refine ⟨by omega, by omega, by omega, by omega, by omega, by omega, hT.2.2, ?_, ?_⟩ <;> omega
theorem made_is (l : List S31) (k : Nat) (hk : 8 < k) : ∃ r, horariumlaw12_made.f k l = some r ∧ r.length = min l.length 8 ∧ MadeP r := by
  unfold horariumlaw12_made.f
  exact made_loop l (min l.length 8) k 0 [] (by omega) (by omega) rfl (fun i h => by simp at h)
theorem MadeP.okL {r : List S28} (h : MadeP r) (hl : r.length ≤ 16) : okL r := by
  refine ⟨hl, fun s hs => ?_⟩
  obtain ⟨i, hi, rfl⟩ := List.getElem_of_mem hs
  have := h i hi
  unfold Hm.Tk.ok tk
  simp only
  omega
theorem rd_at {r : List S28} {i : Nat} (hi : i < r.length) : rd_T28 r (i : Int) = r[i] := by
  simp [rd_T28, hi]

theorem awake_is : ∀ k, 60 ≤ k → horariumlaw12_awake.f k = some true := by
  have h : horariumlaw12_awake.f 60 = some true := by decide +kernel
  intro k hk
  exact at_rounds (horariumlaw12_awake.mono) hk h

theorem QpaRuns : horariumlaw12_QpaRuns.Pure := by
  intro l _ _
  obtain ⟨K, hK⟩ : ∃ K : Nat, 2151000000 < K := ⟨2151000001, by omega⟩
  obtain ⟨t, hr, hl, hmp⟩ := made_is l (K + 1) (by omega)
  have hl8 : t.length ≤ 8 := by omega
  have hok : okL t := hmp.okL (by omega)
  have h120 : Ok120 t := ⟨hok, fun s hs => by
    obtain ⟨i, hi, rfl⟩ := List.getElem_of_mem hs
    exact (hmp i hi).2.2.2.2.2.2.1⟩
  have hp := h120.per
  have hpp := Hm.per_pos (okL_map hok)
  refine ⟨K + 1, ?_⟩
  unfold horariumlaw12_QpaRuns.f
  rw [awake_is (K + 1) (by omega)]; simp only [Option.bind_some]
  rw [hr]; simp only [Option.bind_some]
  rw [rLoad_ok (K + 1) hok (by omega) (by omega)]; simp only [Option.bind_some]
  rw [if_pos trivial]
  simp only [horariumlaw12_QpaRuns.j0]
  by_cases hf : Hm.loadN (t.map tk) (Hm.per (t.map tk) : Int) ≤ (Hm.per (t.map tk) : Int)
  · rw [if_neg (by simp; omega)]
    have hokr : okRun t (Hm.per (t.map tk) : Int) = true := by
      unfold okRun
      simp only [Bool.and_eq_true, decide_eq_true_eq, List.all_eq_true]
      refine ⟨⟨⟨hl8, fun s hs => ?_⟩, by omega⟩, by omega⟩
      obtain ⟨i, hi, rfl⟩ := List.getElem_of_mem hs
      have := hmp i hi
      omega
    have hrf : horariumlaw12_run.f t (Hm.per (t.map tk) : Int) = some (runF t (Hm.per (t.map tk) : Int) ((Hm.per (t.map tk) : Int) + 2).toNat 0 zeros8 zeros8) := by
      unfold horariumlaw12_run.f
      rw [if_pos hokr]
    rw [hrf]
    by_cases h : fitL t
    · have hrun := run_fits hok hl8 (e := (Hm.per (t.map tk) : Int)) (mkJ_t t zeros8 zeros8) (zeros_left t) h.2 ((Hm.per (t.map tk) : Int) + 2).toNat 0 zeros8 zeros8 (Hm.Ran.start _) rfl rfl
      rw [hrun, Test_yes hok (by omega) K (by omega) h]; simp only [Option.bind_some]
      rw [Miss_fits K (Test_yes hok (by omega) K (by omega) h) (by omega)]
      simp
    · obtain ⟨m, b1, b2, b3, b4, b5⟩ := Miss_at hok (by omega) K hK hf h
      have hrun := run_late hok hl8 (e := (Hm.per (t.map tk) : Int)) (mkJ_t t zeros8 zeros8) (zeros_left t) b3 b4 (fun y h0 h1 => by
        by_cases e : y = 0
        · subst e; rw [Hm.of_zero (okL_map hok)]; omega
        · exact b5 y (by omega) h1) ((Hm.per (t.map tk) : Int) + 2).toNat 0 zeros8 zeros8 (Hm.Ran.start _) (by omega) (by omega) rfl rfl
      rw [hrun, Test_not hok (by omega) K (by omega) h]; simp only [Option.bind_some]
      rw [b1]
      have hm0 : ¬ m = 0 := by omega
      simp [hm0]
  · rw [if_pos (by simp; omega), if_pos trivial, Test_not hok (by omega) K (by omega) (fun h => hf h.1)]
    rfl
end Go.Proofs.Ythiepacmdlgajaa.Pure
