-- Made by px.py (a program of this session, over the kit's printer) out of the translation. Not trusted: Lean checks it.
import Derived.Test.YtbkjoojfpmokaaaPWideSumsx0
import Derived.Test.YtbkjoojfpmokaaaPWideSumsx5
namespace Go.Proofs.Ytbkjoojfpmokaaa.PWideSums
open Go.RowKit Go.Proofs.YtbkjoojfpmokaaaW.PrintWords Go.Proofs.YtbkjoojfpmokaaaW.PrintLast Go.Proofs.YtbkjoojfpmokaaaW.PrintMore
attribute [local go_sem] max2_int min2_int max_two min_two max_three min_three max_four min_four   -- for this text's walks alone
set_option linter.unusedVariables false
set_option linter.unusedSimpArgs false

/-! ### horariumref01_Sub: function 56 (by hand) -/
def horariumref01_Sub.f (a0_0 a0_1 a1_0 a1_1 : Int) : Option (Int × Int × Bool) := if 0 ≤ a0_0 ∧ a0_0 < 18446744073709551616 ∧ 0 ≤ a0_1 ∧ a0_1 < 18446744073709551616 ∧ 0 ≤ a1_0 ∧ a1_0 < 18446744073709551616 ∧ 0 ≤ a1_1 ∧ a1_1 < 18446744073709551616 then some (if (a0_0 * 18446744073709551616 + a0_1) < (a1_0 * 18446744073709551616 + a1_1) then (0, 0, false) else backI ((a0_0 * 18446744073709551616 + a0_1) - (a1_0 * 18446744073709551616 + a1_1))) else none
theorem horariumref01_Sub.calls (a0_0 a0_1 a1_0 a1_1 : Int) (r1 r2 : Int) (r3 : Bool) (w : World) (h : horariumref01_Sub.f a0_0 a0_1 a1_0 a1_1 = some (r1, r2, r3)) :
    Calls Try.prog 56 #[.agg #[.int .u64 a0_0, .int .u64 a0_1], .agg #[.int .u64 a1_0, .int .u64 a1_1]] w fun e w' => e = .returned (.tuple #[.agg #[.int .u64 r1, .int .u64 r2], .bool r3]) ∧ Below w.heap.size w w' := by
  unfold horariumref01_Sub.f at h
  by_cases hr : 0 ≤ a0_0 ∧ a0_0 < 18446744073709551616 ∧ 0 ≤ a0_1 ∧ a0_1 < 18446744073709551616 ∧ 0 ≤ a1_0 ∧ a1_0 < 18446744073709551616 ∧ 0 ≤ a1_1 ∧ a1_1 < 18446744073709551616
  case neg => rw [if_neg hr] at h; cases h
  rw [if_pos hr] at h
  obtain ⟨h1, h2, h3, h4, h5, h6, h7, h8⟩ := hr
  obtain ⟨ah, rfl⟩ := Int.eq_ofNat_of_zero_le h1
  obtain ⟨al, rfl⟩ := Int.eq_ofNat_of_zero_le h3
  obtain ⟨bh, rfl⟩ := Int.eq_ofNat_of_zero_le h5
  obtain ⟨bl, rfl⟩ := Int.eq_ofNat_of_zero_le h7
  have n1 := num_int (show ah < 18446744073709551616 by omega) (show al < 18446744073709551616 by omega)
  have n2 := num_int (show bh < 18446744073709551616 by omega) (show bl < 18446744073709551616 by omega)
  have ec := cmpB_is n1 n2
  refine (subW.calls ah al bh bl (by omega) (by omega) (by omega) (by omega) w).mono ?_
  rintro e1 w1 ⟨rfl, q⟩
  refine ⟨?_, q⟩
  by_cases c : (ah : Int) * 18446744073709551616 + (al : Int) < (bh : Int) * 18446744073709551616 + (bl : Int)
  · rw [if_pos c] at h
    cases Option.some.inj h
    rw [if_pos]
    rw [ec]; unfold cmpI; rw [if_pos c]; decide
  · rw [if_neg c] at h
    have e := back_is (sub_int n1 n2 (by omega))
    rw [if_neg, e.1, e.2.1, Option.some.inj h]
    · have e3 : r3 = true := by
        have := Option.some.inj h
        unfold backI at this
        rw [if_pos (by omega)] at this
        cases this; rfl
      rw [e3]
    · rw [ec]; unfold cmpI; rw [if_neg c]; split <;> decide

/-! ### horariumref01_Cmp: function 57 (by hand) -/
def horariumref01_Cmp.f (a0_0 a0_1 a1_0 a1_1 : Int) : Option Int := if 0 ≤ a0_0 ∧ a0_0 < 18446744073709551616 ∧ 0 ≤ a0_1 ∧ a0_1 < 18446744073709551616 ∧ 0 ≤ a1_0 ∧ a1_0 < 18446744073709551616 ∧ 0 ≤ a1_1 ∧ a1_1 < 18446744073709551616 then some (cmpI (a0_0 * 18446744073709551616 + a0_1) (a1_0 * 18446744073709551616 + a1_1)) else none
theorem horariumref01_Cmp.calls (a0_0 a0_1 a1_0 a1_1 : Int) (r : Int) (w : World) (h : horariumref01_Cmp.f a0_0 a0_1 a1_0 a1_1 = some r) :
    Calls Try.prog 57 #[.agg #[.int .u64 a0_0, .int .u64 a0_1], .agg #[.int .u64 a1_0, .int .u64 a1_1]] w fun e w' => e = .returned (.int .i64 r) ∧ Below w.heap.size w w' := by
  unfold horariumref01_Cmp.f at h
  by_cases hr : 0 ≤ a0_0 ∧ a0_0 < 18446744073709551616 ∧ 0 ≤ a0_1 ∧ a0_1 < 18446744073709551616 ∧ 0 ≤ a1_0 ∧ a1_0 < 18446744073709551616 ∧ 0 ≤ a1_1 ∧ a1_1 < 18446744073709551616
  case neg => rw [if_neg hr] at h; cases h
  rw [if_pos hr] at h
  obtain ⟨h1, h2, h3, h4, h5, h6, h7, h8⟩ := hr
  obtain ⟨ah, rfl⟩ := Int.eq_ofNat_of_zero_le h1
  obtain ⟨al, rfl⟩ := Int.eq_ofNat_of_zero_le h3
  obtain ⟨bh, rfl⟩ := Int.eq_ofNat_of_zero_le h5
  obtain ⟨bl, rfl⟩ := Int.eq_ofNat_of_zero_le h7
  have n1 := num_int (show ah < 18446744073709551616 by omega) (show al < 18446744073709551616 by omega)
  have n2 := num_int (show bh < 18446744073709551616 by omega) (show bl < 18446744073709551616 by omega)
  refine (cmpW.calls ah al bh bl (by omega) (by omega) (by omega) (by omega) w).mono ?_
  rintro e1 w1 ⟨rfl, q⟩
  refine ⟨?_, q⟩
  rw [cmpB_is n1 n2, Option.some.inj h]

/-! ### horariumref01_Mul: function 58 (by hand) -/
def horariumref01_Mul.f (a0 a1 : Int) : Option (Int × Int) := if 0 ≤ a0 ∧ a0 < 18446744073709551616 ∧ 0 ≤ a1 ∧ a1 < 18446744073709551616 then some (a0 * a1 / 18446744073709551616, a0 * a1 % 18446744073709551616) else none
theorem horariumref01_Mul.calls (a0 a1 : Int) (r1 r2 : Int) (w : World) (h : horariumref01_Mul.f a0 a1 = some (r1, r2)) :
    Calls Try.prog 58 #[.int .u64 a0, .int .u64 a1] w fun e w' => e = .returned (.agg #[.int .u64 r1, .int .u64 r2]) ∧ Below w.heap.size w w' := by
  unfold horariumref01_Mul.f at h
  by_cases hr : 0 ≤ a0 ∧ a0 < 18446744073709551616 ∧ 0 ≤ a1 ∧ a1 < 18446744073709551616
  case neg => rw [if_neg hr] at h; cases h
  rw [if_pos hr] at h
  obtain ⟨h1, h2, h3, h4⟩ := hr
  obtain ⟨a, rfl⟩ := Int.eq_ofNat_of_zero_le h1
  obtain ⟨b, rfl⟩ := Int.eq_ofNat_of_zero_le h3
  have ha : a < 18446744073709551616 := by omega
  have hb : b < 18446744073709551616 := by omega
  have n1 : ((Hb.part (Hb.num 0 a) (Hb.num 0 b) 128).toNat : Int) = (a : Int) * (b : Int) := by rw [Hb.part_num ha hb, Int.natCast_mul]
  have e := back_is n1
  have hl : (a : Int) * (b : Int) < 340282366920938463463374607431768211456 := by
    have := Nat.mul_lt_mul'' ha hb
    have h5 : ((a * b : Nat) : Int) < ((18446744073709551616 * 18446744073709551616 : Nat) : Int) := Int.ofNat_lt.2 this
    rw [Int.natCast_mul] at h5
    exact h5
  refine (mulW.calls a b ha hb w).mono ?_
  rintro e1 w1 ⟨rfl, q⟩
  refine ⟨?_, q⟩
  rw [e.1, e.2.1]
  unfold backI
  rw [if_pos hl]
  cases Option.some.inj h
  rfl

end Go.Proofs.Ytbkjoojfpmokaaa.PWideSums
