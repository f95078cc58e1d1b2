-- Made by px.py (a program of this session, over the kit's printer) out of the translation. Not trusted: Lean checks it.
import Derived.Test.YtbkjoojfpmokaaaPWidePartsx0
import Derived.Test.YtbkjoojfpmokaaaPWidePartsx1
import Derived.Test.YtbkjoojfpmokaaaPWidePartsx3
import Derived.Test.YtbkjoojfpmokaaaPWidePartsx4
import Derived.Test.YtbkjoojfpmokaaaPWidePartsx5
namespace Go.Proofs.Ytbkjoojfpmokaaa.PWideParts
open Go.RowKit Go.Proofs.YtbkjoojfpmokaaaW.PrintWords Go.Proofs.YtbkjoojfpmokaaaW.PrintLast Go.Proofs.YtbkjoojfpmokaaaW.PrintMore
attribute [local go_sem] max2_int min2_int max_two min_two max_three min_three max_four min_four   -- for this text's walks alone
set_option linter.unusedVariables false
set_option linter.unusedSimpArgs false

attribute [local go_sem high] eqA44
/-! ### horariumref01_Text: function 38 (by hand) -/
/-- The digits, none of 0. -/
def tdig (n : Nat) : List Int := if n = 0 then [] else (Hm.rdig n).reverse
theorem tdig_step {n : Nat} (h : n ≠ 0) : tdig n = tdig (n / 10) ++ [((48 + n % 10 : Nat) : Int)] := by
  unfold tdig
  rw [if_neg h]
  by_cases c : n < 10
  · rw [Hm.rdig_lo c, if_pos (by omega), Nat.mod_eq_of_lt c]; rfl
  · rw [Hm.rdig_hi c, if_neg (by omega), List.reverse_cons]
theorem one_str (W : World) (r : Nat) : (convert 118 9 (.slice (some ⟨W.heap.size, 0, none⟩) 1 1)).run Try.prog (W.alloc (.cells #[.int .u8 (48 + (r : Int))] 5)) = .ok (.string (strOfNums [48 + (r : Int)])) (W.alloc (.cells #[.int .u8 (48 + (r : Int))] 5)) := by
  refine string_of_reads Try.underlying118 Try.underlying5 Try.underlying9 ⟨rfl, by omega, fun _ => ⟨⟨W.heap.size, 0, none⟩, rfl, fun j hj => ?_⟩⟩
  obtain rfl : j = 0 := by omega
  have e : (⟨W.heap.size, 0, none⟩ : Addr).add 0 = ⟨W.heap.size, 0, none⟩ := by unfold Addr.add; split <;> simp_all
  rw [e, blk_cell (heap_alloc_new W _) 0]
  rfl
theorem str_app (a b : List Int) : strOfNums a ++ strOfNums b = strOfNums (a ++ b) := by
  apply ByteArray.ext
  apply Array.ext'
  rw [ByteArray.data_append]
  simp [strOfNums]
theorem str_ne {L : List Int} (h : L ≠ []) : (strOfNums L).toList.isEmpty = false := by
  unfold strOfNums
  rw [ByteArray.toList_mk]
  cases L with
  | nil => exact absurd rfl h
  | cons a l => rfl
theorem str_nil : (strOfNums []).toList.isEmpty = true := by
  unfold strOfNums
  rw [ByteArray.toList_mk]; rfl
set_option maxHeartbeats 8000000 in
set_option maxRecDepth 100000 in
theorem textW.calls (ah al : Nat) (hah : ah < 18446744073709551616) (hal : al < 18446744073709551616) (w : World) : Calls Try.prog 38 #[.agg #[.int .u64 (ah : Int), .int .u64 (al : Int)]] w fun e w' => e = .returned (.string (strOfNums (Hm.rdig (ah * 18446744073709551616 + al)).reverse)) ∧ Below w.heap.size w w' := by
  have HAH := Lib.hid hah
  have HAL := Lib.hid hal
  clear hah hal
  obtain ⟨N, hN⟩ : ∃ N, ah * 18446744073709551616 + al = N := ⟨_, rfl⟩
  rw [hN]
  have HNL := Lib.hid (show N < 340282366920938463463374607431768211456 by have := HAH.out; have := HAL.out; omega)
  go_enter Try.func38, Try.ntmps38
  go_wp2
  obtain ⟨W, hW⟩ : ∃ W, w.alloc (.cells #[.int .u64 (ah : Int), .int .u64 (al : Int)] 44) = W := ⟨_, rfl⟩
  have HX : Hid (W.heap[w.heap.size]? = some (.cells #[.int .u64 ((N / 18446744073709551616 : Nat) : Int), .int .u64 ((N % 18446744073709551616 : Nat) : Int)] 44 (0, 0))) := by
    rw [← hW, show N / 18446744073709551616 = ah by have := HAL.out; omega, show N % 18446744073709551616 = al by have := HAL.out; omega]; exact heap_alloc_new w _
  have HB : Hid (Below w.heap.size w W) := by rw [← hW]; exact below_alloc (Below.refl _ _) _
  rw [hW]
  clear hW hN
  obtain ⟨b1, hb1⟩ : ∃ b, w.heap.size = b := ⟨_, rfl⟩
  rw [hb1] at HX ⊢
  have HB1 := Lib.hid hb1
  have HTN : Hid ((tdig N).length ≤ 39) := Lib.hid (by
    unfold tdig
    by_cases q : N = 0
    · rw [if_pos q]; simp
    · rw [if_neg q, List.length_reverse]
      have : (10 : Nat) ^ 39 = 1000000000000000000000000000000000000000 := by decide
      exact Hm.rdig_len (by have := HNL.out; omega) (by omega))
  go_loopg [3] (N + 2) (fun k v3 wr => ∃ (n : Nat) (L : List Int), v3 = .string (strOfNums L) ∧ n < k ∧ n ≤ N ∧ Hid (tdig N = tdig n ++ L) ∧ Hid (wr.heap[b1]? = some (.cells #[.int .u64 ((n / 18446744073709551616 : Nat) : Int), .int .u64 ((n % 18446744073709551616 : Nat) : Int)] 44 (0, 0))) ∧ Hid (Below w.heap.size w wr))
  case atStart => exact ⟨N, [], rfl, by omega, Nat.le_refl _, Lib.hid (List.append_nil _).symm, HX, HB⟩
  case round =>
    clear HX HB
    obtain ⟨n, L, rfl, hk, hn, HL, HX, HB⟩ := hrel
    by_cases h0 : n = 0
    · subst h0
      have c0 : wr.cell? ⟨b1, 0, none⟩ = some (.int .u64 0) := (blk_cell HX.out 0).trans rfl
      have c1 : wr.cell? ⟨b1, 1, none⟩ = some (.int .u64 0) := (blk_cell HX.out 1).trans rfl
      by_cases hL : L = []
      · subst hL
        have hN0 : N = 0 := by
          by_cases q : N = 0
          · exact q
          · have := HL.out
            rw [tdig_step q] at this
            simp [tdig] at this
        have HE : Hid (strOfNums (Hm.rdig N).reverse = ⟨#[48]⟩) := Lib.hid (by rw [hN0, Hm.rdig_lo (by omega)]; rfl)
        have he := str_nil
        clear hN0
        go_wp2
        go_ret
        exact ⟨by rw [HE.out]; rfl, HB.out⟩
      · have he := str_ne hL
        have HE : Hid (strOfNums (Hm.rdig N).reverse = strOfNums L) := Lib.hid (by
          have h1 := HL.out
          unfold tdig at h1
          rw [if_pos rfl, List.nil_append] at h1
          by_cases q : N = 0
          · rw [if_pos q] at h1; exact absurd h1.symm hL
          · rw [if_neg q] at h1; rw [h1])
        clear hL
        go_wp2
        go_ret
        exact ⟨by rw [HE.out]; rfl, HB.out⟩
    · obtain ⟨qh, hqh⟩ : ∃ q, n / 18446744073709551616 = q := ⟨_, rfl⟩
      obtain ⟨ql, hql⟩ : ∃ q, n % 18446744073709551616 = q := ⟨_, rfl⟩
      obtain ⟨ph, hph⟩ : ∃ q, n / 10 / 18446744073709551616 = q := ⟨_, rfl⟩
      obtain ⟨pl, hpl⟩ : ∃ q, n / 10 % 18446744073709551616 = q := ⟨_, rfl⟩
      obtain ⟨rm, hrm⟩ : ∃ q, n % 10 = q := ⟨_, rfl⟩
      rw [hqh, hql] at HX
      have e2 : qh * 18446744073709551616 + ql = n := by omega
      have HDIV : Hid (∀ W, Calls Try.prog 36 #[.agg #[.int .u64 (qh : Int), .int .u64 (ql : Int)], .int .u64 10] W fun e w' => e = .returned (.agg #[.int .u64 (ph : Int), .int .u64 (pl : Int), .int .u64 (rm : Int), .bool true]) ∧ Below W.heap.size W w') := Lib.hid (fun W => by
        have := divW.calls qh ql 10 (by have := HNL.out; omega) (by omega) (by decide) (by decide) W
        rw [e2, hph, hpl, hrm] at this
        exact this)
      have HTD := Lib.hid (tdig_step h0)
      rw [hrm] at HTD
      have HPH := Lib.hid hph
      have HPL := Lib.hid hpl
      have HNZ := Lib.hid h0
      have r0 : (0 : Int) ≤ (rm : Int) := by omega
      have r1 : (rm : Int) < 10 := by omega
      have r2 : (rm : Int) ≤ 9 := by omega
      have HQN := Lib.hid e2
      clear hqh hql hph hpl hrm h0 e2
      have HLL : Hid (L.length ≤ 39) := Lib.hid (by
        have h1 := congrArg List.length HL.out
        rw [List.length_append] at h1
        have := HTN.out
        omega)
      have hsz : ¬ 9223372036854775807 < (strOfNums [48 + (rm : Int)]).size + (strOfNums L).size := by rw [strOfNums_size, strOfNums_size]; have := HLL.out; simp; omega
      have c0 : wr.cell? ⟨b1, 0, none⟩ = some (.int .u64 (qh : Int)) := (blk_cell HX.out 0).trans rfl
      have c1 : wr.cell? ⟨b1, 1, none⟩ = some (.int .u64 (ql : Int)) := (blk_cell HX.out 1).trans rfl
      by_cases hh : qh = 0
      · have hz : (qh : Int) = 0 := by omega
        have HDV2 := HDIV.out
        rw [hz] at HDV2 HX c0
        replace HDIV := Lib.hid HDV2
        have hq : ¬ (ql : Int) = 0 := by have := HQN.out; have := HNZ.out; omega
        clear HDV2 hz hh
        have hqz : ((ql : Int) == 0) = false := by simp; omega
        have hqn : ((ql : Int) != 0) = true := by simp; omega
        go_wp2_with (go_at_call 36; refine (HDIV.out _).mono ?_; rintro e w5 ⟨rfl, q1⟩; replace HX := Lib.hid (blk_below HX.out q1); replace HB := Lib.hid (below_step HB.out q1); clear q1 c0 c1; have d0 := (blk_cell HX.out 0).trans rfl; have d1 := (blk_cell HX.out 1).trans rfl; have f0 := blk_frozen HX.out 0; have f1 := blk_frozen HX.out 1; have l1 := blk_lt HX.out; have m1 : ¬ b1 = w5.heap.size := (by omega); have m2 : ¬ w5.heap.size = b1 := (by omega); have m3 : ¬ b1 = w5.heap.size + 1 := (by omega); have m4 : ¬ w5.heap.size + 1 = b1 := (by omega); have hcv := one_str (w5.alloc (.cells #[.int .u64 (ph : Int), .int .u64 (pl : Int), .int .u64 (rm : Int), .bool true] 49)) rm; rw [World.size_alloc] at hcv)
        clear hsz hcv d0 d1 f0 f1 l1 m1 m2 m3 m4
        go_roundg (n / 10 + 1)
        case measure => have := HNZ.out; omega
        case rel => exact ⟨n / 10, [48 + (rm : Int)] ++ L, by rw [str_app], by omega, by omega, Lib.hid (by rw [HL.out, HTD.out, List.append_assoc]; rfl), Lib.hid (blk_alloc (blk_alloc (blk_put (blk_put HX.out 0 _ rfl) 1 _ (by rw [HPH.out, HPL.out]; rfl)) _) _), Lib.hid (below_alloc (below_alloc ((HB.out.setCell (p := ⟨b1, 0, none⟩) (by show w.heap.size ≤ b1; omega) _).setCell (p := ⟨b1, 1, none⟩) (by show w.heap.size ≤ b1; omega) _) _) _)⟩
      · have hq : ¬ (qh : Int) = 0 := by omega
        have hqz : ((qh : Int) == 0) = false := by simp; omega
        have hqn : ((qh : Int) != 0) = true := by simp; omega
        clear hh
        go_wp2_with (go_at_call 36; refine (HDIV.out _).mono ?_; rintro e w5 ⟨rfl, q1⟩; replace HX := Lib.hid (blk_below HX.out q1); replace HB := Lib.hid (below_step HB.out q1); clear q1 c0 c1; have d0 := (blk_cell HX.out 0).trans rfl; have d1 := (blk_cell HX.out 1).trans rfl; have f0 := blk_frozen HX.out 0; have f1 := blk_frozen HX.out 1; have l1 := blk_lt HX.out; have m1 : ¬ b1 = w5.heap.size := (by omega); have m2 : ¬ w5.heap.size = b1 := (by omega); have m3 : ¬ b1 = w5.heap.size + 1 := (by omega); have m4 : ¬ w5.heap.size + 1 = b1 := (by omega); have hcv := one_str (w5.alloc (.cells #[.int .u64 (ph : Int), .int .u64 (pl : Int), .int .u64 (rm : Int), .bool true] 49)) rm; rw [World.size_alloc] at hcv)
        clear hsz hcv d0 d1 f0 f1 l1 m1 m2 m3 m4
        go_roundg (n / 10 + 1)
        case measure => have := HNZ.out; omega
        case rel => exact ⟨n / 10, [48 + (rm : Int)] ++ L, by rw [str_app], by omega, by omega, Lib.hid (by rw [HL.out, HTD.out, List.append_assoc]; rfl), Lib.hid (blk_alloc (blk_alloc (blk_put (blk_put HX.out 0 _ rfl) 1 _ (by rw [HPH.out, HPL.out]; rfl)) _) _), Lib.hid (below_alloc (below_alloc ((HB.out.setCell (p := ⟨b1, 0, none⟩) (by show w.heap.size ≤ b1; omega) _).setCell (p := ⟨b1, 1, none⟩) (by show w.heap.size ≤ b1; omega) _) _) _)⟩
def horariumref01_Text.f (a0_0 a0_1 : Int) : Option ByteArray := if 0 ≤ a0_0 ∧ a0_0 < 18446744073709551616 ∧ 0 ≤ a0_1 ∧ a0_1 < 18446744073709551616 then some (strOfNums (Hm.rdig (a0_0 * 18446744073709551616 + a0_1).toNat).reverse) else none
theorem horariumref01_Text.calls (a0_0 a0_1 : Int) (r : ByteArray) (w : World) (h : horariumref01_Text.f a0_0 a0_1 = some r) :
    Calls Try.prog 38 #[.agg #[.int .u64 a0_0, .int .u64 a0_1]] w fun e w' => e = .returned (.string r) ∧ Below w.heap.size w w' := by
  unfold horariumref01_Text.f at h
  by_cases hr : 0 ≤ a0_0 ∧ a0_0 < 18446744073709551616 ∧ 0 ≤ a0_1 ∧ a0_1 < 18446744073709551616
  case neg => rw [if_neg hr] at h; cases h
  rw [if_pos hr] at h
  obtain ⟨h1, h2, h3, h4⟩ := hr
  obtain ⟨ah, rfl⟩ := Int.eq_ofNat_of_zero_le h1
  obtain ⟨al, rfl⟩ := Int.eq_ofNat_of_zero_le h3
  obtain rfl := Option.some.inj h
  refine (textW.calls ah al (by omega) (by omega) w).mono ?_
  rintro e1 w1 ⟨rfl, q⟩
  refine ⟨?_, q⟩
  rw [show ((ah : Int) * 18446744073709551616 + (al : Int)).toNat = ah * 18446744073709551616 + al by omega]

/-! ### horariumref01_Less: function 40 (by hand) -/
def horariumref01_Less.f (a0 a1 a2 a3 : Int) : Option Bool := if 0 ≤ a0 ∧ a0 < 18446744073709551616 ∧ 0 ≤ a1 ∧ a1 < 18446744073709551616 ∧ 0 ≤ a2 ∧ a2 < 18446744073709551616 ∧ 0 ≤ a3 ∧ a3 < 18446744073709551616 then some (decide (a1 ≠ 0 ∧ a3 ≠ 0 ∧ a0 * a3 < a2 * a1)) else none
theorem horariumref01_Less.calls (a0 a1 a2 a3 : Int) (r : Bool) (w : World) (h : horariumref01_Less.f a0 a1 a2 a3 = some r) :
    Calls Try.prog 40 #[.int .u64 a0, .int .u64 a1, .int .u64 a2, .int .u64 a3] w fun e w' => e = .returned (.bool r) ∧ Below w.heap.size w w' := by
  unfold horariumref01_Less.f at h
  by_cases hr : 0 ≤ a0 ∧ a0 < 18446744073709551616 ∧ 0 ≤ a1 ∧ a1 < 18446744073709551616 ∧ 0 ≤ a2 ∧ a2 < 18446744073709551616 ∧ 0 ≤ a3 ∧ a3 < 18446744073709551616
  case neg => rw [if_neg hr] at h; cases h
  rw [if_pos hr] at h
  obtain rfl := Option.some.inj h
  obtain ⟨h1, h2, h3, h4, h5, h6, h7, h8⟩ := hr
  by_cases c1 : a1 = 0
  · subst c1
    rw [show decide ((0 : Int) ≠ 0 ∧ a3 ≠ 0 ∧ a0 * a3 < a2 * 0) = false from by simp]
    exact lessZ1.calls a0 a2 a3 w
  · by_cases c3 : a3 = 0
    · subst c3
      rw [show decide (a1 ≠ 0 ∧ (0 : Int) ≠ 0 ∧ a0 * 0 < a2 * a1) = false from by simp]
      exact lessZ2.calls a0 a1 a2 c1 w
    · obtain ⟨a, rfl⟩ := Int.eq_ofNat_of_zero_le h1
      obtain ⟨b, rfl⟩ := Int.eq_ofNat_of_zero_le h3
      obtain ⟨c, rfl⟩ := Int.eq_ofNat_of_zero_le h5
      obtain ⟨d, rfl⟩ := Int.eq_ofNat_of_zero_le h7
      have e : decide (cmpB (Hb.part (Hb.num 0 a) (Hb.num 0 d) 128) (Hb.part (Hb.num 0 c) (Hb.num 0 b) 128) < 0) = decide ((b : Int) ≠ 0 ∧ (d : Int) ≠ 0 ∧ (a : Int) * (d : Int) < (c : Int) * (b : Int)) := by
        rw [cmpB_is (n := (a : Int) * (d : Int)) (m := (c : Int) * (b : Int)) (by rw [Hb.part_num (by omega) (by omega), Int.natCast_mul]) (by rw [Hb.part_num (by omega) (by omega), Int.natCast_mul])]
        rw [decide_eq_decide]
        unfold cmpI
        constructor
        · intro q
          refine ⟨c1, c3, ?_⟩
          by_cases z : (a : Int) * (d : Int) < (c : Int) * (b : Int)
          · exact z
          · rw [if_neg z] at q
            split at q <;> omega
        · rintro ⟨_, _, z⟩
          rw [if_pos z]; decide
      refine (lessW.calls a b c d (by omega) (by omega) (by omega) (by omega) (by omega) (by omega) w).mono ?_
      rintro e1 w1 ⟨rfl, q⟩
      exact ⟨by rw [e], q⟩

/-! ### horariumlaw01_WideParts: function 8 -/
def horariumlaw01_WideParts.f (k : Nat) (a0_0 : Int) (a0_1 : Int) (a1 : Int) (a2_0 : Int) (a2_1 : Int) (a2_2 : Int) (a2_3 : Int) : Option (Bool) := (horariumlaw01_awake.f k).bind fun t137 => ((wide_Div.f k a0_0 a0_1 a1).bind fun bt138 => ((horariumref01_Div.f a0_0 a0_1 a1).bind fun bt143 => (if t137 = true then (if (bt138.1 == bt143.1 && (bt138.2.1 == bt143.2.1)) = true then (if bt138.2.2.1 = bt143.2.2.1 then (if (bt138.2.2.2 == bt143.2.2.2) = true then ((wide_Text.f k a0_0 a0_1).bind fun t148 => ((horariumref01_Text.f a0_0 a0_1).bind fun t149 => (if t148.toList = t149.toList then ((wide_Less.f k a2_0 a2_1 a2_2 a2_3).bind fun t150 => ((horariumref01_Less.f a2_0 a2_1 a2_2 a2_3).bind fun t151 => (some (t150 == t151)))) else (some false)))) else (some false)) else (some false)) else (some false)) else (some false))))
theorem horariumlaw01_WideParts.mono : ∀ a0 a1 a2 a3 a4 a5 a6 k, LeO (horariumlaw01_WideParts.f k a0 a1 a2 a3 a4 a5 a6) (horariumlaw01_WideParts.f (k + 1) a0 a1 a2 a3 a4 a5 a6) := by
  intro a0 a1 a2 a3 a4 a5 a6 k
  unfold horariumlaw01_WideParts.f
  repeat' first
      | (with_reducible exact horariumlaw01_awake.mono _)
      | (with_reducible exact wide_Div.mono _ _ _ _)
      | (with_reducible exact wide_Less.mono _ _ _ _ _)
      | (with_reducible exact wide_Text.mono _ _ _)
      | (with_reducible exact LeO.refl _)
      | (with_reducible exact LeO.none _)
      | (with_reducible refine LeO.ite ?_ ?_)
      | (with_reducible refine LeO.bind ?_ (fun _ => ?_))
      | exact horariumlaw01_awake.mono _
      | exact wide_Div.mono _ _ _ _
      | exact wide_Less.mono _ _ _ _ _
      | exact wide_Text.mono _ _ _
      | exact LeO.none _
      | refine LeO.ite ?_ ?_
      | refine LeO.bind ?_ (fun _ => ?_)
def horariumlaw01_WideParts.T4 : Bool × List (List Nat × List Nat) := (true, [([], []), ([0], [0]), ([1], [1]), ([1], [1]), ([3, 1], [1, 3]), ([2, 4, 1], [1, 2, 4]), ([1, 5], [1, 5]), ([6, 1], [6]), ([7], [7]), ([7], [7]), ([9, 7], [7, 9]), ([8, 10, 7], [7, 8, 10]), ([7, 11], [7, 11]), ([12, 7], [12]), ([13], [13]), ([13], [13]), ([15, 13], [13, 15]), ([14, 16, 13], [13, 14, 16]), ([13, 17], [13, 17]), ([18, 13], [18]), ([19], [19]), ([20, 19, 19], [19, 20]), ([19], [19]), ([22, 21, 19], [19, 22]), ([21, 23, 19], [19, 21, 23]), ([19, 24], [19, 24]), ([25, 23], [25]), ([26], [26]), ([27, 26], [26, 27]), ([26], [26]), ([29, 26], [26, 29]), ([26], [26]), ([31, 26], [26, 31]), ([26], [26]), ([33, 26], [26, 33]), ([28, 30, 32, 34, 26, 26], [26, 28, 30, 32, 34]), ([26], [26]), ([36, 26], [26, 36]), ([26], [26]), ([38, 26], [26, 38]), ([26], [26]), ([40, 26], [26, 40]), ([26], [26]), ([42, 26], [26, 42]), ([37, 39, 41, 43, 35, 26], [26, 37, 39, 41, 43]), ([35, 44, 26], [26, 35, 44]), ([26, 45], [26, 45]), ([46, 44, 0, 1, 2, 3, 4, 5, 6, 7, 8, 9, 10, 11, 12, 13, 14, 15, 16, 17, 18, 19, 20, 21, 22, 23, 24, 25, 26, 27, 28, 29, 30, 31, 32, 33, 34, 35, 36, 37, 38, 39, 40, 41, 42, 43, 44, 45, 46], [46])])
def horariumlaw01_WideParts.B4 : List Nat := [0, 1, 3, 3, 11, 31, 63, 127, 255, 255, 767, 2047, 4095, 8191, 16383, 16383, 49151, 131071, 262143, 524287, 1048575, 2097151, 1048575, 8388607, 16777215, 33554431, 67108863, 134217727, 268435455, 134217727, 671088639, 134217727, 2281701375, 134217727, 8724152319, 34359738367, 134217727, 68853694463, 134217727, 275012124671, 134217727, 1099645845503, 134217727, 4398180728831, 17592186044415, 35184372088831, 70368744177663, 140737488355327]
theorem horariumlaw01_WideParts.tab4 : rtab .any (opsOf Try.f8 4) = horariumlaw01_WideParts.T4 := by kernel_rfl
theorem horariumlaw01_WideParts.bits4 : waitsOk horariumlaw01_WideParts.T4.2 horariumlaw01_WideParts.B4 = true := by kernel_rfl
set_option maxHeartbeats 8000000 in
set_option maxRecDepth 100000 in
theorem horariumlaw01_WideParts.calls (k : Nat) (a0_0 : Int) (a0_1 : Int) (a1 : Int) (a2_0 : Int) (a2_1 : Int) (a2_2 : Int) (a2_3 : Int) (r : Bool) (w : World) (h : horariumlaw01_WideParts.f k a0_0 a0_1 a1 a2_0 a2_1 a2_2 a2_3 = some r) (hrt : r = true) :
    Calls Try.prog 8 #[.agg #[.int .u64 a0_0, .int .u64 a0_1], .int .u64 a1, .agg #[.int .u64 a2_0, .int .u64 a2_1, .int .u64 a2_2, .int .u64 a2_3]] w fun e w' => e = .returned (.bool r) ∧ Below w.heap.size w w' := by
  have HRT := Lib.hid hrt
  clear hrt
  have hu44 := Try.underlying44
  have hu45 := Try.underlying45
  have hu49 := Try.underlying49
  have HB := Aside0.mk (Below.refl w.heap.size w)
  have H : ((horariumlaw01_awake.f k).bind fun t137 => ((wide_Div.f k a0_0 a0_1 a1).bind fun bt138 => ((horariumref01_Div.f a0_0 a0_1 a1).bind fun bt143 => (if t137 = true then (if (bt138.1 == bt143.1 && (bt138.2.1 == bt143.2.1)) = true then (if bt138.2.2.1 = bt143.2.2.1 then (if (bt138.2.2.2 == bt143.2.2.2) = true then ((wide_Text.f k a0_0 a0_1).bind fun t148 => ((horariumref01_Text.f a0_0 a0_1).bind fun t149 => (if t148.toList = t149.toList then ((wide_Less.f k a2_0 a2_1 a2_2 a2_3).bind fun t150 => ((horariumref01_Less.f a2_0 a2_1 a2_2 a2_3).bind fun t151 => (some (t150 == t151)))) else (some false)))) else (some false)) else (some false)) else (some false)) else (some false))))) = some r := h
  clear h
  replace H := Option.bind_eq_some_iff.mp H
  obtain ⟨t137, A40, H⟩ := H
  replace H : ((wide_Div.f k a0_0 a0_1 a1).bind fun bt138 => ((horariumref01_Div.f a0_0 a0_1 a1).bind fun bt143 => (if t137 = true then (if (bt138.1 == bt143.1 && (bt138.2.1 == bt143.2.1)) = true then (if bt138.2.2.1 = bt143.2.2.1 then (if (bt138.2.2.2 == bt143.2.2.2) = true then ((wide_Text.f k a0_0 a0_1).bind fun t148 => ((horariumref01_Text.f a0_0 a0_1).bind fun t149 => (if t148.toList = t149.toList then ((wide_Less.f k a2_0 a2_1 a2_2 a2_3).bind fun t150 => ((horariumref01_Less.f a2_0 a2_1 a2_2 a2_3).bind fun t151 => (some (t150 == t151)))) else (some false)))) else (some false)) else (some false)) else (some false)) else (some false)))) = some r := H
  have A4 := Aside0.mk A40
  clear A40
  replace H := Option.bind_eq_some_iff.mp H
  obtain ⟨⟨t138, t139, t140, t141⟩, A50, H⟩ := H
  replace H : ((horariumref01_Div.f a0_0 a0_1 a1).bind fun bt143 => (if t137 = true then (if (t138 == bt143.1 && (t139 == bt143.2.1)) = true then (if t140 = bt143.2.2.1 then (if (t141 == bt143.2.2.2) = true then ((wide_Text.f k a0_0 a0_1).bind fun t148 => ((horariumref01_Text.f a0_0 a0_1).bind fun t149 => (if t148.toList = t149.toList then ((wide_Less.f k a2_0 a2_1 a2_2 a2_3).bind fun t150 => ((horariumref01_Less.f a2_0 a2_1 a2_2 a2_3).bind fun t151 => (some (t150 == t151)))) else (some false)))) else (some false)) else (some false)) else (some false)) else (some false))) = some r := H
  have A5 := Aside0.mk A50
  clear A50
  replace H := Option.bind_eq_some_iff.mp H
  obtain ⟨⟨t143, t144, t145, t146⟩, A60, H⟩ := H
  replace H : (if t137 = true then (if (t138 == t143 && (t139 == t144)) = true then (if t140 = t145 then (if (t141 == t146) = true then ((wide_Text.f k a0_0 a0_1).bind fun t148 => ((horariumref01_Text.f a0_0 a0_1).bind fun t149 => (if t148.toList = t149.toList then ((wide_Less.f k a2_0 a2_1 a2_2 a2_3).bind fun t150 => ((horariumref01_Less.f a2_0 a2_1 a2_2 a2_3).bind fun t151 => (some (t150 == t151)))) else (some false)))) else (some false)) else (some false)) else (some false)) else (some false)) = some r := H
  have A6 := Aside0.mk A60
  clear A60
  by_cases c7 : t137 = true
  · subst c7
    have H1 : (if (t138 == t143 && (t139 == t144)) = true then (if t140 = t145 then (if (t141 == t146) = true then ((wide_Text.f k a0_0 a0_1).bind fun t148 => ((horariumref01_Text.f a0_0 a0_1).bind fun t149 => (if t148.toList = t149.toList then ((wide_Less.f k a2_0 a2_1 a2_2 a2_3).bind fun t150 => ((horariumref01_Less.f a2_0 a2_1 a2_2 a2_3).bind fun t151 => (some (t150 == t151)))) else (some false)))) else (some false)) else (some false)) else (some false)) = some r := by rw [if_pos rfl] at H; exact H
    clear H
    have H := H1
    clear H1
    by_cases c8 : (t138 == t143 && (t139 == t144)) = true
    · rw [if_pos c8] at H
      have c8b0 : (t138 == t143 && (t139 == t144)) = true := c8
      (try (have c8b1 : decide (t138 = t143 && (t139 == t144)) = true := by simpa using c8))
      (try (have c8b2 : (t138 == t143 && (t139 == t144)) = true := by simpa using c8))
      clear c8
      by_cases c9 : t140 = t145
      · rw [if_pos c9] at H
        have c9b0 : (t140 == t145) = true := beq_iff_eq.mpr c9
        have c9b1 : (t140 != t145) = false := bne_eq_false_iff_eq.mpr c9
        clear c9
        by_cases c10 : (t141 == t146) = true
        · rw [if_pos c10] at H
          have c10b0 : (t141 == t146) = true := c10
          (try (have c10b1 : decide (t141 = t146) = true := by simpa using c10))
          (try (have c10b2 : (t141 == t146) = true := by simpa using c10))
          clear c10
          replace H := Option.bind_eq_some_iff.mp H
          obtain ⟨t148, A110, H⟩ := H
          replace H : ((horariumref01_Text.f a0_0 a0_1).bind fun t149 => (if t148.toList = t149.toList then ((wide_Less.f k a2_0 a2_1 a2_2 a2_3).bind fun t150 => ((horariumref01_Less.f a2_0 a2_1 a2_2 a2_3).bind fun t151 => (some (t150 == t151)))) else (some false))) = some r := H
          have A11 := Aside0.mk A110
          clear A110
          replace H := Option.bind_eq_some_iff.mp H
          obtain ⟨t149, A120, H⟩ := H
          replace H : (if t148.toList = t149.toList then ((wide_Less.f k a2_0 a2_1 a2_2 a2_3).bind fun t150 => ((horariumref01_Less.f a2_0 a2_1 a2_2 a2_3).bind fun t151 => (some (t150 == t151)))) else (some false)) = some r := H
          have A12 := Aside0.mk A120
          clear A120
          by_cases c13 : t148.toList = t149.toList
          · rw [if_pos c13] at H
            have c13b0 : (t148.toList == t149.toList) = true := beq_iff_eq.mpr c13
            have c13b1 : (t148.toList != t149.toList) = false := bne_eq_false_iff_eq.mpr c13
            clear c13
            replace H := Option.bind_eq_some_iff.mp H
            obtain ⟨t150, A140, H⟩ := H
            replace H : ((horariumref01_Less.f a2_0 a2_1 a2_2 a2_3).bind fun t151 => (some (t150 == t151))) = some r := H
            have A14 := Aside0.mk A140
            clear A140
            replace H := Option.bind_eq_some_iff.mp H
            obtain ⟨t151, A150, H⟩ := H
            replace H : (some (t150 == t151)) = some r := H
            have A15 := Aside0.mk A150
            clear A150
            obtain rfl := Option.some.inj H
            go_enter Try.func8, Try.ntmps8
            try go_wp2_with (first | ((with_reducible refine gate_dst (N := 3) rfl ?_); refine box_event ?hg (N := 3) ?hd (cs := #[.int .u64 a0_0, .int .u64 a0_1]) (t := 44) ?hr ?_; (case hd => rfl); (case hg => rfl); (case hr => first | (go_simp; done) | (go_simp; rfl)); intro gb135 hg w16 hbox hb; have n0_ := Aside0.mk (below_step (by repeat (first | (with_reducible first | exact HB.out | apply below_alloc | apply pw_below_drewN | apply below_drew1) | exact HB.out)) hb); have n1_ := Aside0.mk (hbox); have n2_ := Aside0.mk ((by rw [hg]; exact (below_size (by repeat (first | (with_reducible first | exact HB.out | apply below_alloc | apply pw_below_drewN | apply below_drew1) | exact HB.out))) : w.heap.size ≤ gb135)); have n3_ := Aside0.mk ((by rw [hg]; exact (below_size (by repeat (first | (with_reducible first | exact HB.out | apply below_alloc | apply pw_below_drewN | apply below_drew1) | exact HB.out))) : w.heap.size ≤ gb135)); clear HB; have HB := n0_; have BK135 := n1_; have GW135 := n2_; have GE135 := n3_; clear n0_ n1_ n2_ n3_; clear hb hbox hg) | ((with_reducible refine gate_dst (N := 5) rfl ?_); refine box_event ?hg (N := 5) ?hd (cs := #[.int .u64 a2_0, .int .u64 a2_1, .int .u64 a2_2, .int .u64 a2_3]) (t := 45) ?hr ?_; (case hd => rfl); (case hg => rfl); (case hr => first | (go_simp; done) | (go_simp; rfl)); intro gb136 hg w17 hbox hb; have n0_ := Aside0.mk (blk_below (g := gb135) (o := .cells #[.int .u64 a0_0, .int .u64 a0_1] 44 (0, 0)) (by (with_reducible repeat (first | refine blk_drewN ?_ _ | refine blk_drew ?_ | refine blk_alloc ?_ _)); exact BK135.out) hb); have n1_ := Aside0.mk (below_step (by repeat (first | (with_reducible first | exact HB.out | apply below_alloc | apply pw_below_drewN | apply below_drew1 | refine below_set ?_ GE135.out) | exact HB.out)) hb); have n2_ := Aside0.mk (hbox); have n3_ := Aside0.mk ((by rw [hg]; exact (below_size (by repeat (first | (with_reducible first | exact HB.out | apply below_alloc | apply pw_below_drewN | apply below_drew1 | refine below_set ?_ GE135.out) | exact HB.out))) : w.heap.size ≤ gb136)); have n4_ := Aside0.mk ((by rw [hg]; exact (below_size (by repeat (first | (with_reducible first | exact HB.out | apply below_alloc | apply pw_below_drewN | apply below_drew1 | refine below_set ?_ GE135.out) | exact HB.out))) : w.heap.size ≤ gb136)); have n5_ := Aside0.mk ((by rw [hg]; exact Nat.ne_of_lt (blk_lt (g := gb135) (o := .cells #[.int .u64 a0_0, .int .u64 a0_1] 44 (0, 0)) (by (with_reducible repeat (first | refine blk_drewN ?_ _ | refine blk_drew ?_ | refine blk_alloc ?_ _)); exact BK135.out)) : gb135 ≠ gb136)); have n6_ := Aside0.mk ((by rw [hg]; exact Nat.ne_of_gt (blk_lt (g := gb135) (o := .cells #[.int .u64 a0_0, .int .u64 a0_1] 44 (0, 0)) (by (with_reducible repeat (first | refine blk_drewN ?_ _ | refine blk_drew ?_ | refine blk_alloc ?_ _)); exact BK135.out)) : gb136 ≠ gb135)); clear BK135; clear HB; have BK135 := n0_; have HB := n1_; have BK136 := n2_; have GW136 := n3_; have GE136 := n4_; have NB135_136 := n5_; have NB136_135 := n6_; clear n0_ n1_ n2_ n3_ n4_ n5_ n6_; clear hb hbox hg) | ((with_reducible refine gate_callee (f := 34) rfl ?_); refine goesL_ (some 12) rfl rfl Try.func34 (by kernel_rfl) rfl #[] rfl (by (try simp only [List.map_toArray, List.map_cons, List.map_nil]); first | done | rfl | (simp only [List.length_drop, List.length_take]; rfl)) ?_; (with_reducible refine (horariumlaw01_awake.calls k  true _ A4.out).mono ?_); rintro e w18 ⟨rfl, hb⟩; refine ⟨_, rfl, ?_⟩; have n0_ := Aside0.mk (blk_below (g := gb135) (o := .cells #[.int .u64 a0_0, .int .u64 a0_1] 44 (0, 0)) (by (with_reducible repeat (first | refine blk_drewN ?_ _ | refine blk_drew ?_ | refine blk_alloc ?_ _)); exact BK135.out) hb); have n1_ := Aside0.mk (blk_below (g := gb136) (o := .cells #[.int .u64 a2_0, .int .u64 a2_1, .int .u64 a2_2, .int .u64 a2_3] 45 (0, 0)) (by (with_reducible repeat (first | refine blk_drewN ?_ _ | refine blk_drew ?_ | refine blk_alloc ?_ _)); exact BK136.out) hb); have n2_ := Aside0.mk (below_step (by repeat (first | (with_reducible first | exact HB.out | apply below_alloc | apply pw_below_drewN | apply below_drew1 | refine below_set ?_ GE135.out | refine below_set ?_ GE136.out) | exact HB.out)) hb); clear BK135; clear BK136; clear HB; have BK135 := n0_; have BK136 := n1_; have HB := n2_; clear n0_ n1_ n2_; (try clear hb); (try clear hb2); (try clear hk); (try clear hi); have hnb19 := NB135_136.out; have hnc19 := NB136_135.out; have hcz20_0 : w18.cell? ⟨gb135, 0, none⟩ = some (.int .u64 a0_0) := (blk_cell BK135.out 0).trans rfl; have hcz20_1 : w18.cell? ⟨gb135, 1, none⟩ = some (.int .u64 a0_1) := (blk_cell BK135.out 1).trans rfl; have hfz20_0 := blk_frozen BK135.out 0; have hfz20_1 := blk_frozen BK135.out 1) | ((with_reducible refine gate_callee (f := 35) rfl ?_); refine goesL_ (some 16) rfl rfl Try.func35 (by kernel_rfl) rfl #[.agg #[.int .u64 a0_0, .int .u64 a0_1], .int .u64 a1] rfl (by (try simp only [List.map_toArray, List.map_cons, List.map_nil]); first | done | rfl | (simp only [List.length_drop, List.length_take]; rfl)) ?_; (with_reducible refine (wide_Div.calls k a0_0 a0_1 a1 t138 t139 t140 t141 _ A5.out).mono ?_); rintro e w21 ⟨rfl, hb⟩; refine ⟨_, rfl, ?_⟩; have n0_ := Aside0.mk (blk_below (g := gb135) (o := .cells #[.int .u64 a0_0, .int .u64 a0_1] 44 (0, 0)) (by (with_reducible repeat (first | refine blk_drewN ?_ _ | refine blk_drew ?_ | refine blk_alloc ?_ _)); exact BK135.out) hb); have n1_ := Aside0.mk (blk_below (g := gb136) (o := .cells #[.int .u64 a2_0, .int .u64 a2_1, .int .u64 a2_2, .int .u64 a2_3] 45 (0, 0)) (by (with_reducible repeat (first | refine blk_drewN ?_ _ | refine blk_drew ?_ | refine blk_alloc ?_ _)); exact BK136.out) hb); have n2_ := Aside0.mk (below_step (by repeat (first | (with_reducible first | exact HB.out | apply below_alloc | apply pw_below_drewN | apply below_drew1 | refine below_set ?_ GE135.out | refine below_set ?_ GE136.out) | exact HB.out)) hb); clear BK135; clear BK136; clear HB; have BK135 := n0_; have BK136 := n1_; have HB := n2_; clear n0_ n1_ n2_; (try clear hb); (try clear hb2); (try clear hk); (try clear hi)) | ((with_reducible refine gate_dst (N := 8) rfl ?_); refine box_event ?hg (N := 8) ?hd (cs := #[.int .u64 0, .int .u64 0]) (t := 44) ?hr ?_; (case hd => rfl); (case hg => rfl); (case hr => first | (go_simp; done) | (go_simp; rfl)); intro gb142 hg w22 hbox hb; have n0_ := Aside0.mk (blk_below (g := gb135) (o := .cells #[.int .u64 a0_0, .int .u64 a0_1] 44 (0, 0)) (by (with_reducible repeat (first | refine blk_drewN ?_ _ | refine blk_drew ?_ | refine blk_alloc ?_ _)); exact BK135.out) hb); have n1_ := Aside0.mk (blk_below (g := gb136) (o := .cells #[.int .u64 a2_0, .int .u64 a2_1, .int .u64 a2_2, .int .u64 a2_3] 45 (0, 0)) (by (with_reducible repeat (first | refine blk_drewN ?_ _ | refine blk_drew ?_ | refine blk_alloc ?_ _)); exact BK136.out) hb); have n2_ := Aside0.mk (below_step (by repeat (first | (with_reducible first | exact HB.out | apply below_alloc | apply pw_below_drewN | apply below_drew1 | refine below_set ?_ GE135.out | refine below_set ?_ GE136.out) | exact HB.out)) hb); have n3_ := Aside0.mk (hbox); have n4_ := Aside0.mk ((by rw [hg]; exact (below_size (by repeat (first | (with_reducible first | exact HB.out | apply below_alloc | apply pw_below_drewN | apply below_drew1 | refine below_set ?_ GE135.out | refine below_set ?_ GE136.out) | exact HB.out))) : w.heap.size ≤ gb142)); have n5_ := Aside0.mk ((by rw [hg]; exact (below_size (by repeat (first | (with_reducible first | exact HB.out | apply below_alloc | apply pw_below_drewN | apply below_drew1 | refine below_set ?_ GE135.out | refine below_set ?_ GE136.out) | exact HB.out))) : w.heap.size ≤ gb142)); have n6_ := Aside0.mk ((by rw [hg]; exact Nat.ne_of_lt (blk_lt (g := gb135) (o := .cells #[.int .u64 a0_0, .int .u64 a0_1] 44 (0, 0)) (by (with_reducible repeat (first | refine blk_drewN ?_ _ | refine blk_drew ?_ | refine blk_alloc ?_ _)); exact BK135.out)) : gb135 ≠ gb142)); have n7_ := Aside0.mk ((by rw [hg]; exact Nat.ne_of_gt (blk_lt (g := gb135) (o := .cells #[.int .u64 a0_0, .int .u64 a0_1] 44 (0, 0)) (by (with_reducible repeat (first | refine blk_drewN ?_ _ | refine blk_drew ?_ | refine blk_alloc ?_ _)); exact BK135.out)) : gb142 ≠ gb135)); have n8_ := Aside0.mk ((by rw [hg]; exact Nat.ne_of_lt (blk_lt (g := gb136) (o := .cells #[.int .u64 a2_0, .int .u64 a2_1, .int .u64 a2_2, .int .u64 a2_3] 45 (0, 0)) (by (with_reducible repeat (first | refine blk_drewN ?_ _ | refine blk_drew ?_ | refine blk_alloc ?_ _)); exact BK136.out)) : gb136 ≠ gb142)); have n9_ := Aside0.mk ((by rw [hg]; exact Nat.ne_of_gt (blk_lt (g := gb136) (o := .cells #[.int .u64 a2_0, .int .u64 a2_1, .int .u64 a2_2, .int .u64 a2_3] 45 (0, 0)) (by (with_reducible repeat (first | refine blk_drewN ?_ _ | refine blk_drew ?_ | refine blk_alloc ?_ _)); exact BK136.out)) : gb142 ≠ gb136)); clear BK135; clear BK136; clear HB; have BK135 := n0_; have BK136 := n1_; have HB := n2_; have BK142 := n3_; have GW142 := n4_; have GE142 := n5_; have NB135_142 := n6_; have NB142_135 := n7_; have NB136_142 := n8_; have NB142_136 := n9_; clear n0_ n1_ n2_ n3_ n4_ n5_ n6_ n7_ n8_ n9_; clear hb hbox hg; have hnb23 := NB142_135.out; have hnc23 := NB135_142.out; have hnb24 := NB142_136.out; have hnc24 := NB136_142.out; have hcz25_0 : w22.cell? ⟨gb142, 0, none⟩ = some (.int .u64 0) := (blk_cell BK142.out 0).trans rfl; have hcz25_1 : w22.cell? ⟨gb142, 1, none⟩ = some (.int .u64 0) := (blk_cell BK142.out 1).trans rfl; have hfz25_0 := blk_frozen BK142.out 0; have hfz25_1 := blk_frozen BK142.out 1; have hcz26_0 : w22.cell? ⟨gb135, 0, none⟩ = some (.int .u64 a0_0) := (blk_cell BK135.out 0).trans rfl; have hcz26_1 : w22.cell? ⟨gb135, 1, none⟩ = some (.int .u64 a0_1) := (blk_cell BK135.out 1).trans rfl; have hfz26_0 := blk_frozen BK135.out 0; have hfz26_1 := blk_frozen BK135.out 1) | ((with_reducible refine gate_callee (f := 36) rfl ?_); refine goesL_ (some 22) rfl rfl Try.func36 (by kernel_rfl) rfl #[.agg #[.int .u64 a0_0, .int .u64 a0_1], .int .u64 a1] rfl (by (try simp only [List.map_toArray, List.map_cons, List.map_nil]); first | done | rfl | (simp only [List.length_drop, List.length_take]; rfl)) ?_; (with_reducible refine (horariumref01_Div.calls a0_0 a0_1 a1 t143 t144 t145 t146 _ A6.out).mono ?_); rintro e w27 ⟨rfl, hb⟩; refine ⟨_, rfl, ?_⟩; have n0_ := Aside0.mk (blk_below (g := gb135) (o := .cells #[.int .u64 a0_0, .int .u64 a0_1] 44 (0, 0)) (by (with_reducible repeat (first | refine blk_drewN ?_ _ | refine blk_drew ?_ | refine blk_alloc ?_ _)); refine blk_far ?_ NB135_142.out _; (with_reducible repeat (first | refine blk_drewN ?_ _ | refine blk_drew ?_ | refine blk_alloc ?_ _)); refine blk_far ?_ NB135_142.out _; (with_reducible repeat (first | refine blk_drewN ?_ _ | refine blk_drew ?_ | refine blk_alloc ?_ _)); exact BK135.out) hb); have n1_ := Aside0.mk (blk_below (g := gb136) (o := .cells #[.int .u64 a2_0, .int .u64 a2_1, .int .u64 a2_2, .int .u64 a2_3] 45 (0, 0)) (by (with_reducible repeat (first | refine blk_drewN ?_ _ | refine blk_drew ?_ | refine blk_alloc ?_ _)); refine blk_far ?_ NB136_142.out _; (with_reducible repeat (first | refine blk_drewN ?_ _ | refine blk_drew ?_ | refine blk_alloc ?_ _)); refine blk_far ?_ NB136_142.out _; (with_reducible repeat (first | refine blk_drewN ?_ _ | refine blk_drew ?_ | refine blk_alloc ?_ _)); exact BK136.out) hb); have n2_ := Aside0.mk (blk_below (g := gb142) (o := .cells #[.int .u64 t138, .int .u64 t139] 44 (0, 0)) (by (with_reducible repeat (first | refine blk_drewN ?_ _ | refine blk_drew ?_ | refine blk_alloc ?_ _)); refine blk_put (cs := #[.int .u64 t138, .int .u64 0]) ?_ 1 _ rfl; (with_reducible repeat (first | refine blk_drewN ?_ _ | refine blk_drew ?_ | refine blk_alloc ?_ _)); refine blk_put (cs := #[.int .u64 0, .int .u64 0]) ?_ 0 _ rfl; (with_reducible repeat (first | refine blk_drewN ?_ _ | refine blk_drew ?_ | refine blk_alloc ?_ _)); exact BK142.out) hb); have n3_ := Aside0.mk (below_step (by repeat (first | (with_reducible first | exact HB.out | apply below_alloc | apply pw_below_drewN | apply below_drew1 | refine below_set ?_ GE135.out | refine below_set ?_ GE136.out | refine below_set ?_ GE142.out) | exact HB.out)) hb); clear BK135; clear BK136; clear BK142; clear HB; have BK135 := n0_; have BK136 := n1_; have BK142 := n2_; have HB := n3_; clear n0_ n1_ n2_ n3_; (try clear hb); (try clear hb2); (try clear hk); (try clear hi)) | ((with_reducible refine gate_dst (N := 11) rfl ?_); refine box_event ?hg (N := 11) ?hd (cs := #[.int .u64 0, .int .u64 0, .int .u64 0, .bool false]) (t := 49) ?hr ?_; (case hd => rfl); (case hg => rfl); (case hr => first | (go_simp; done) | (go_simp; rfl)); intro gb147 hg w28 hbox hb; have n0_ := Aside0.mk (blk_below (g := gb135) (o := .cells #[.int .u64 a0_0, .int .u64 a0_1] 44 (0, 0)) (by (with_reducible repeat (first | refine blk_drewN ?_ _ | refine blk_drew ?_ | refine blk_alloc ?_ _)); exact BK135.out) hb); have n1_ := Aside0.mk (blk_below (g := gb136) (o := .cells #[.int .u64 a2_0, .int .u64 a2_1, .int .u64 a2_2, .int .u64 a2_3] 45 (0, 0)) (by (with_reducible repeat (first | refine blk_drewN ?_ _ | refine blk_drew ?_ | refine blk_alloc ?_ _)); exact BK136.out) hb); have n2_ := Aside0.mk (blk_below (g := gb142) (o := .cells #[.int .u64 t138, .int .u64 t139] 44 (0, 0)) (by (with_reducible repeat (first | refine blk_drewN ?_ _ | refine blk_drew ?_ | refine blk_alloc ?_ _)); exact BK142.out) hb); have n3_ := Aside0.mk (below_step (by repeat (first | (with_reducible first | exact HB.out | apply below_alloc | apply pw_below_drewN | apply below_drew1 | refine below_set ?_ GE135.out | refine below_set ?_ GE136.out | refine below_set ?_ GE142.out) | exact HB.out)) hb); have n4_ := Aside0.mk (hbox); have n5_ := Aside0.mk ((by rw [hg]; exact (below_size (by repeat (first | (with_reducible first | exact HB.out | apply below_alloc | apply pw_below_drewN | apply below_drew1 | refine below_set ?_ GE135.out | refine below_set ?_ GE136.out | refine below_set ?_ GE142.out) | exact HB.out))) : w.heap.size ≤ gb147)); have n6_ := Aside0.mk ((by rw [hg]; exact (below_size (by repeat (first | (with_reducible first | exact HB.out | apply below_alloc | apply pw_below_drewN | apply below_drew1 | refine below_set ?_ GE135.out | refine below_set ?_ GE136.out | refine below_set ?_ GE142.out) | exact HB.out))) : w.heap.size ≤ gb147)); have n7_ := Aside0.mk ((by rw [hg]; exact Nat.ne_of_lt (blk_lt (g := gb135) (o := .cells #[.int .u64 a0_0, .int .u64 a0_1] 44 (0, 0)) (by (with_reducible repeat (first | refine blk_drewN ?_ _ | refine blk_drew ?_ | refine blk_alloc ?_ _)); exact BK135.out)) : gb135 ≠ gb147)); have n8_ := Aside0.mk ((by rw [hg]; exact Nat.ne_of_gt (blk_lt (g := gb135) (o := .cells #[.int .u64 a0_0, .int .u64 a0_1] 44 (0, 0)) (by (with_reducible repeat (first | refine blk_drewN ?_ _ | refine blk_drew ?_ | refine blk_alloc ?_ _)); exact BK135.out)) : gb147 ≠ gb135)); have n9_ := Aside0.mk ((by rw [hg]; exact Nat.ne_of_lt (blk_lt (g := gb136) (o := .cells #[.int .u64 a2_0, .int .u64 a2_1, .int .u64 a2_2, .int .u64 a2_3] 45 (0, 0)) (by (with_reducible repeat (first | refine blk_drewN ?_ _ | refine blk_drew ?_ | refine blk_alloc ?_ _)); exact BK136.out)) : gb136 ≠ gb147)); have n10_ := Aside0.mk ((by rw [hg]; exact Nat.ne_of_gt (blk_lt (g := gb136) (o := .cells #[.int .u64 a2_0, .int .u64 a2_1, .int .u64 a2_2, .int .u64 a2_3] 45 (0, 0)) (by (with_reducible repeat (first | refine blk_drewN ?_ _ | refine blk_drew ?_ | refine blk_alloc ?_ _)); exact BK136.out)) : gb147 ≠ gb136)); have n11_ := Aside0.mk ((by rw [hg]; exact Nat.ne_of_lt (blk_lt (g := gb142) (o := .cells #[.int .u64 t138, .int .u64 t139] 44 (0, 0)) (by (with_reducible repeat (first | refine blk_drewN ?_ _ | refine blk_drew ?_ | refine blk_alloc ?_ _)); exact BK142.out)) : gb142 ≠ gb147)); have n12_ := Aside0.mk ((by rw [hg]; exact Nat.ne_of_gt (blk_lt (g := gb142) (o := .cells #[.int .u64 t138, .int .u64 t139] 44 (0, 0)) (by (with_reducible repeat (first | refine blk_drewN ?_ _ | refine blk_drew ?_ | refine blk_alloc ?_ _)); exact BK142.out)) : gb147 ≠ gb142)); clear BK135; clear BK136; clear BK142; clear HB; have BK135 := n0_; have BK136 := n1_; have BK142 := n2_; have HB := n3_; have BK147 := n4_; have GW147 := n5_; have GE147 := n6_; have NB135_147 := n7_; have NB147_135 := n8_; have NB136_147 := n9_; have NB147_136 := n10_; have NB142_147 := n11_; have NB147_142 := n12_; clear n0_ n1_ n2_ n3_ n4_ n5_ n6_ n7_ n8_ n9_ n10_ n11_ n12_; clear hb hbox hg; have hnb29 := NB147_135.out; have hnc29 := NB135_147.out; have hnb30 := NB147_136.out; have hnc30 := NB136_147.out; have hnb31 := NB147_142.out; have hnc31 := NB142_147.out; have hcz32_0 : w28.cell? ⟨gb147, 0, none⟩ = some (.int .u64 0) := (blk_cell BK147.out 0).trans rfl; have hcz32_1 : w28.cell? ⟨gb147, 1, none⟩ = some (.int .u64 0) := (blk_cell BK147.out 1).trans rfl; have hcz32_2 : w28.cell? ⟨gb147, 2, none⟩ = some (.int .u64 0) := (blk_cell BK147.out 2).trans rfl; have hcz32_3 : w28.cell? ⟨gb147, 3, none⟩ = some (.bool false) := (blk_cell BK147.out 3).trans rfl; have hfz32_0 := blk_frozen BK147.out 0; have hfz32_1 := blk_frozen BK147.out 1; have hfz32_2 := blk_frozen BK147.out 2; have hfz32_3 := blk_frozen BK147.out 3))
            have n0_ : Aside0 (((((w28.setCell ⟨gb147, 0, none⟩ (.int .u64 t143)).setCell ⟨gb147, 1, none⟩ (.int .u64 t144)).setCell ⟨gb147, 2, none⟩ (.int .u64 t145)).setCell ⟨gb147, 3, none⟩ (.bool t146)).heap[gb135]? = some (.cells #[.int .u64 a0_0, .int .u64 a0_1] 44 (0, 0))) := ⟨by (with_reducible repeat (first | refine blk_drewN ?_ _ | refine blk_drew ?_ | refine blk_alloc ?_ _)); refine blk_far ?_ NB135_147.out _; (with_reducible repeat (first | refine blk_drewN ?_ _ | refine blk_drew ?_ | refine blk_alloc ?_ _)); refine blk_far ?_ NB135_147.out _; (with_reducible repeat (first | refine blk_drewN ?_ _ | refine blk_drew ?_ | refine blk_alloc ?_ _)); refine blk_far ?_ NB135_147.out _; (with_reducible repeat (first | refine blk_drewN ?_ _ | refine blk_drew ?_ | refine blk_alloc ?_ _)); refine blk_far ?_ NB135_147.out _; (with_reducible repeat (first | refine blk_drewN ?_ _ | refine blk_drew ?_ | refine blk_alloc ?_ _)); exact BK135.out⟩
            have n1_ : Aside0 (((((w28.setCell ⟨gb147, 0, none⟩ (.int .u64 t143)).setCell ⟨gb147, 1, none⟩ (.int .u64 t144)).setCell ⟨gb147, 2, none⟩ (.int .u64 t145)).setCell ⟨gb147, 3, none⟩ (.bool t146)).heap[gb136]? = some (.cells #[.int .u64 a2_0, .int .u64 a2_1, .int .u64 a2_2, .int .u64 a2_3] 45 (0, 0))) := ⟨by (with_reducible repeat (first | refine blk_drewN ?_ _ | refine blk_drew ?_ | refine blk_alloc ?_ _)); refine blk_far ?_ NB136_147.out _; (with_reducible repeat (first | refine blk_drewN ?_ _ | refine blk_drew ?_ | refine blk_alloc ?_ _)); refine blk_far ?_ NB136_147.out _; (with_reducible repeat (first | refine blk_drewN ?_ _ | refine blk_drew ?_ | refine blk_alloc ?_ _)); refine blk_far ?_ NB136_147.out _; (with_reducible repeat (first | refine blk_drewN ?_ _ | refine blk_drew ?_ | refine blk_alloc ?_ _)); refine blk_far ?_ NB136_147.out _; (with_reducible repeat (first | refine blk_drewN ?_ _ | refine blk_drew ?_ | refine blk_alloc ?_ _)); exact BK136.out⟩
            have n2_ : Aside0 (((((w28.setCell ⟨gb147, 0, none⟩ (.int .u64 t143)).setCell ⟨gb147, 1, none⟩ (.int .u64 t144)).setCell ⟨gb147, 2, none⟩ (.int .u64 t145)).setCell ⟨gb147, 3, none⟩ (.bool t146)).heap[gb142]? = some (.cells #[.int .u64 t138, .int .u64 t139] 44 (0, 0))) := ⟨by (with_reducible repeat (first | refine blk_drewN ?_ _ | refine blk_drew ?_ | refine blk_alloc ?_ _)); refine blk_far ?_ NB142_147.out _; (with_reducible repeat (first | refine blk_drewN ?_ _ | refine blk_drew ?_ | refine blk_alloc ?_ _)); refine blk_far ?_ NB142_147.out _; (with_reducible repeat (first | refine blk_drewN ?_ _ | refine blk_drew ?_ | refine blk_alloc ?_ _)); refine blk_far ?_ NB142_147.out _; (with_reducible repeat (first | refine blk_drewN ?_ _ | refine blk_drew ?_ | refine blk_alloc ?_ _)); refine blk_far ?_ NB142_147.out _; (with_reducible repeat (first | refine blk_drewN ?_ _ | refine blk_drew ?_ | refine blk_alloc ?_ _)); exact BK142.out⟩
            have n3_ : Aside0 (((((w28.setCell ⟨gb147, 0, none⟩ (.int .u64 t143)).setCell ⟨gb147, 1, none⟩ (.int .u64 t144)).setCell ⟨gb147, 2, none⟩ (.int .u64 t145)).setCell ⟨gb147, 3, none⟩ (.bool t146)).heap[gb147]? = some (.cells #[.int .u64 t143, .int .u64 t144, .int .u64 t145, .bool t146] 49 (0, 0))) := ⟨by (with_reducible repeat (first | refine blk_drewN ?_ _ | refine blk_drew ?_ | refine blk_alloc ?_ _)); refine blk_put (cs := #[.int .u64 t143, .int .u64 t144, .int .u64 t145, .bool false]) ?_ 3 _ rfl; (with_reducible repeat (first | refine blk_drewN ?_ _ | refine blk_drew ?_ | refine blk_alloc ?_ _)); refine blk_put (cs := #[.int .u64 t143, .int .u64 t144, .int .u64 0, .bool false]) ?_ 2 _ rfl; (with_reducible repeat (first | refine blk_drewN ?_ _ | refine blk_drew ?_ | refine blk_alloc ?_ _)); refine blk_put (cs := #[.int .u64 t143, .int .u64 0, .int .u64 0, .bool false]) ?_ 1 _ rfl; (with_reducible repeat (first | refine blk_drewN ?_ _ | refine blk_drew ?_ | refine blk_alloc ?_ _)); refine blk_put (cs := #[.int .u64 0, .int .u64 0, .int .u64 0, .bool false]) ?_ 0 _ rfl; (with_reducible repeat (first | refine blk_drewN ?_ _ | refine blk_drew ?_ | refine blk_alloc ?_ _)); exact BK147.out⟩
            have n4_ : Aside0 (Below w.heap.size w ((((w28.setCell ⟨gb147, 0, none⟩ (.int .u64 t143)).setCell ⟨gb147, 1, none⟩ (.int .u64 t144)).setCell ⟨gb147, 2, none⟩ (.int .u64 t145)).setCell ⟨gb147, 3, none⟩ (.bool t146))) := ⟨by repeat (first | (with_reducible first | exact HB.out | apply below_alloc | apply pw_below_drewN | apply below_drew1 | refine below_set ?_ GE135.out | refine below_set ?_ GE136.out | refine below_set ?_ GE142.out | refine below_set ?_ GE147.out) | exact HB.out)⟩
            (try clear BK135)
            (try clear BK136)
            (try clear BK142)
            (try clear BK147)
            (try clear HB)
            generalize ((((w28.setCell ⟨gb147, 0, none⟩ (.int .u64 t143)).setCell ⟨gb147, 1, none⟩ (.int .u64 t144)).setCell ⟨gb147, 2, none⟩ (.int .u64 t145)).setCell ⟨gb147, 3, none⟩ (.bool t146)) = w33 at n0_ n1_ n2_ n3_ n4_ ⊢
            have BK135 := n0_
            have BK136 := n1_
            have BK142 := n2_
            have BK147 := n3_
            have HB := n4_
            clear n0_ n1_ n2_ n3_ n4_
            have n0_ := Aside0.mk (blk_drew BK135.out)
            have n1_ := Aside0.mk (blk_drew BK136.out)
            have n2_ := Aside0.mk (blk_drew BK142.out)
            have n3_ := Aside0.mk (blk_drew BK147.out)
            have n4_ := Aside0.mk (below_drew1 HB.out)
            clear BK135
            clear BK136
            clear BK142
            clear BK147
            clear HB
            have BK135 := n0_
            have BK136 := n1_
            have BK142 := n2_
            have BK147 := n3_
            have HB := n4_
            clear n0_ n1_ n2_ n3_ n4_
            refine start_ (n := 48) (S := fun w' => w'.cell? ⟨gb142, 0, none⟩ = some (.int .u64 t138) ∧ w'.cell? ⟨gb142, 1, none⟩ = some (.int .u64 t139) ∧ w'.cell? ⟨gb147, 0, none⟩ = some (.int .u64 t143) ∧ w'.cell? ⟨gb147, 1, none⟩ = some (.int .u64 t144) ∧ w'.cell? ⟨gb147, 2, none⟩ = some (.int .u64 t145) ∧ w'.cell? ⟨gb147, 3, none⟩ = some (.bool t146) ∧ w'.cell? ⟨gb135, 0, none⟩ = some (.int .u64 a0_0) ∧ w'.cell? ⟨gb135, 1, none⟩ = some (.int .u64 a0_1) ∧ w'.cell? ⟨gb136, 0, none⟩ = some (.int .u64 a2_0) ∧ w'.cell? ⟨gb136, 1, none⟩ = some (.int .u64 a2_1) ∧ w'.cell? ⟨gb136, 2, none⟩ = some (.int .u64 a2_2) ∧ w'.cell? ⟨gb136, 3, none⟩ = some (.int .u64 a2_3)) (ds := []) #[false, false, false, false, false, false, false, false, false, false, false, false, false, false, false, false, false, false, false, false, false, false, false, false, false, false, false, false, false, false, false, false, false, false, false, false, false, false, false, false, false, false, false, false, false, false, false, false] (by kernel_rfl) rfl rfl ⟨(blk_cell BK142.out 0).trans rfl, (blk_cell BK142.out 1).trans rfl, (blk_cell BK147.out 0).trans rfl, (blk_cell BK147.out 1).trans rfl, (blk_cell BK147.out 2).trans rfl, (blk_cell BK147.out 3).trans rfl, (blk_cell BK135.out 0).trans rfl, (blk_cell BK135.out 1).trans rfl, (blk_cell BK136.out 0).trans rfl, (blk_cell BK136.out 1).trans rfl, (blk_cell BK136.out 2).trans rfl, (blk_cell BK136.out 3).trans rfl⟩ (fun hHeld => ?_); refine with_tabW horariumlaw01_WideParts.tab4 horariumlaw01_WideParts.bits4 (fun HT_ HW_ => ?_)
            generalize w33.drew = w34 at BK135 BK136 BK142 BK147 HB hHeld ⊢
            refine pure_ (i := 0) (N := some 23) (v := ?_) (a' := ?_) #[true, false, false, false, false, false, false, false, false, false, false, false, false, false, false, false, false, false, false, false, false, false, false, false, false, false, false, false, false, false, false, false, false, false, false, false, false, false, false, false, false, false, false, false, false, false, false, false] rfl rfl (any_of HT_.out (by kernel_rfl)) (fun _ _ _ h => h) (Or.inl ⟨by rfl, ?_⟩) ?_ ?_
            rotate_left
            · intro w'
              go_simp
              with_reducible rfl
            rotate_left
            · simp only [Act.put, List.setIfInBounds_toArray, List.set_cons_zero, List.set_cons_succ, i64_w, i32_w]
              rfl
            refine pure_ (i := 1) (N := some 24) (v := ?_) (a' := ?_) #[true, true, false, false, false, false, false, false, false, false, false, false, false, false, false, false, false, false, false, false, false, false, false, false, false, false, false, false, false, false, false, false, false, false, false, false, false, false, false, false, false, false, false, false, false, false, false, false] rfl rfl (any_of HT_.out (by kernel_rfl)) (fun _ _ _ h => h) (Or.inl ⟨by rfl, ?_⟩) ?_ ?_
            rotate_left
            · intro w'
              go_simp
              with_reducible rfl
            rotate_left
            · simp only [Act.put, List.setIfInBounds_toArray, List.set_cons_zero, List.set_cons_succ, i64_w, i32_w]
              rfl
            refine pure_ (i := 3) (N := some 26) (v := ?_) (a' := ?_) #[true, true, false, true, false, false, false, false, false, false, false, false, false, false, false, false, false, false, false, false, false, false, false, false, false, false, false, false, false, false, false, false, false, false, false, false, false, false, false, false, false, false, false, false, false, false, false, false] rfl rfl (any_of HT_.out (by kernel_rfl)) (fun _ _ _ h => h) (Or.inl ⟨by rfl, ?_⟩) ?_ ?_
            rotate_left
            · intro w'
              go_simp
              with_reducible rfl
            rotate_left
            · simp only [Act.put, List.setIfInBounds_toArray, List.set_cons_zero, List.set_cons_succ, i64_w, i32_w]
              rfl
            refine take_ (i := 2) (N := some 25) (v := ?_) (a' := ?_) #[true, true, true, true, false, false, false, false, false, false, false, false, false, false, false, false, false, false, false, false, false, false, false, false, false, false, false, false, false, false, false, false, false, false, false, false, false, false, false, false, false, false, false, false, false, false, false, false] rfl rfl (take_ofW HT_.out HW_.out (by kernel_rfl)) (fun _ _ _ h => h) (Or.inl ⟨by rfl, ?_⟩) hHeld ?_ ?_
            rotate_left
            · rintro w' ⟨s0, s1, s2, s3, s4, s5, s6, s7, s8, s9, s10, s11⟩
              go_simp
              with_reducible rfl
            rotate_left
            · simp only [Act.put, List.setIfInBounds_toArray, List.set_cons_zero, List.set_cons_succ, i64_w, i32_w]
              rfl
            refine take_ (i := 4) (N := some 27) (v := ?_) (a' := ?_) #[true, true, true, true, true, false, false, false, false, false, false, false, false, false, false, false, false, false, false, false, false, false, false, false, false, false, false, false, false, false, false, false, false, false, false, false, false, false, false, false, false, false, false, false, false, false, false, false] rfl rfl (take_ofW HT_.out HW_.out (by kernel_rfl)) (fun _ _ _ h => h) (Or.inl ⟨by rfl, ?_⟩) hHeld ?_ ?_
            rotate_left
            · rintro w' ⟨s0, s1, s2, s3, s4, s5, s6, s7, s8, s9, s10, s11⟩
              go_simp
              with_reducible rfl
            rotate_left
            · simp only [Act.put, List.setIfInBounds_toArray, List.set_cons_zero, List.set_cons_succ, i64_w, i32_w]
              rfl
            refine pure_ (i := 5) (N := some 28) (v := ?_) (a' := ?_) #[true, true, true, true, true, true, false, false, false, false, false, false, false, false, false, false, false, false, false, false, false, false, false, false, false, false, false, false, false, false, false, false, false, false, false, false, false, false, false, false, false, false, false, false, false, false, false, false] rfl rfl (any_of HT_.out (by kernel_rfl)) (fun _ _ _ h => h) (Or.inl ⟨by rfl, ?_⟩) ?_ ?_
            rotate_left
            · intro w'
              go_simp
              with_reducible rfl
            rotate_left
            · simp only [Act.put, List.setIfInBounds_toArray, List.set_cons_zero, List.set_cons_succ, i64_w, i32_w]
              rfl
            refine pure_ (i := 6) (N := some 29) (v := ?_) (a' := ?_) #[true, true, true, true, true, true, true, false, false, false, false, false, false, false, false, false, false, false, false, false, false, false, false, false, false, false, false, false, false, false, false, false, false, false, false, false, false, false, false, false, false, false, false, false, false, false, false, false] rfl rfl (any_of HT_.out (by kernel_rfl)) (fun _ _ _ h => h) (Or.inl ⟨by rfl, ?_⟩) ?_ ?_
            rotate_left
            · intro w'
              go_simp
              with_reducible rfl
            rotate_left
            · simp only [Act.put, List.setIfInBounds_toArray, List.set_cons_zero, List.set_cons_succ, i64_w, i32_w]
              rfl
            refine pure_ (i := 7) (N := some 30) (v := ?_) (a' := ?_) #[true, true, true, true, true, true, true, true, false, false, false, false, false, false, false, false, false, false, false, false, false, false, false, false, false, false, false, false, false, false, false, false, false, false, false, false, false, false, false, false, false, false, false, false, false, false, false, false] rfl rfl (any_of HT_.out (by kernel_rfl)) (fun _ _ _ h => h) (Or.inl ⟨by rfl, ?_⟩) ?_ ?_
            rotate_left
            · intro w'
              go_simp
              with_reducible rfl
            rotate_left
            · simp only [Act.put, List.setIfInBounds_toArray, List.set_cons_zero, List.set_cons_succ, i64_w, i32_w]
              rfl
            refine pure_ (i := 8) (N := some 31) (v := ?_) (a' := ?_) #[true, true, true, true, true, true, true, true, true, false, false, false, false, false, false, false, false, false, false, false, false, false, false, false, false, false, false, false, false, false, false, false, false, false, false, false, false, false, false, false, false, false, false, false, false, false, false, false] rfl rfl (any_of HT_.out (by kernel_rfl)) (fun _ _ _ h => h) (Or.inl ⟨by rfl, ?_⟩) ?_ ?_
            rotate_left
            · intro w'
              go_simp
              with_reducible rfl
            rotate_left
            · simp only [Act.put, List.setIfInBounds_toArray, List.set_cons_zero, List.set_cons_succ, i64_w, i32_w]
              rfl
            refine pure_ (i := 9) (N := some 32) (v := ?_) (a' := ?_) #[true, true, true, true, true, true, true, true, true, true, false, false, false, false, false, false, false, false, false, false, false, false, false, false, false, false, false, false, false, false, false, false, false, false, false, false, false, false, false, false, false, false, false, false, false, false, false, false] rfl rfl (any_of HT_.out (by kernel_rfl)) (fun _ _ _ h => h) (Or.inl ⟨by rfl, ?_⟩) ?_ ?_
            rotate_left
            · intro w'
              go_simp
              with_reducible rfl
            rotate_left
            · simp only [Act.put, List.setIfInBounds_toArray, List.set_cons_zero, List.set_cons_succ, i64_w, i32_w]
              rfl
            refine take_ (i := 10) (N := some 33) (v := ?_) (a' := ?_) #[true, true, true, true, true, true, true, true, true, true, true, false, false, false, false, false, false, false, false, false, false, false, false, false, false, false, false, false, false, false, false, false, false, false, false, false, false, false, false, false, false, false, false, false, false, false, false, false] rfl rfl (take_ofW HT_.out HW_.out (by kernel_rfl)) (fun _ _ _ h => h) (Or.inl ⟨by rfl, ?_⟩) hHeld ?_ ?_
            rotate_left
            · rintro w' ⟨s0, s1, s2, s3, s4, s5, s6, s7, s8, s9, s10, s11⟩
              go_simp
              with_reducible rfl
            rotate_left
            · simp only [Act.put, List.setIfInBounds_toArray, List.set_cons_zero, List.set_cons_succ, i64_w, i32_w]
              rfl
            refine pure_ (i := 11) (N := some 34) (v := ?_) (a' := ?_) #[true, true, true, true, true, true, true, true, true, true, true, true, false, false, false, false, false, false, false, false, false, false, false, false, false, false, false, false, false, false, false, false, false, false, false, false, false, false, false, false, false, false, false, false, false, false, false, false] rfl rfl (any_of HT_.out (by kernel_rfl)) (fun _ _ _ h => h) (Or.inl ⟨by rfl, ?_⟩) ?_ ?_
            rotate_left
            · intro w'
              go_simp
              with_reducible rfl
            rotate_left
            · simp only [Act.put, List.setIfInBounds_toArray, List.set_cons_zero, List.set_cons_succ, i64_w, i32_w]
              rfl
            refine pure_ (i := 12) (N := some 35) (v := ?_) (a' := ?_) #[true, true, true, true, true, true, true, true, true, true, true, true, true, false, false, false, false, false, false, false, false, false, false, false, false, false, false, false, false, false, false, false, false, false, false, false, false, false, false, false, false, false, false, false, false, false, false, false] rfl rfl (any_of HT_.out (by kernel_rfl)) (fun _ _ _ h => h) (Or.inl ⟨by rfl, ?_⟩) ?_ ?_
            rotate_left
            · intro w'
              go_simp
              with_reducible rfl
            rotate_left
            · simp only [Act.put, List.setIfInBounds_toArray, List.set_cons_zero, List.set_cons_succ, i64_w, i32_w]
              rfl
            refine pure_ (i := 13) (N := some 36) (v := ?_) (a' := ?_) #[true, true, true, true, true, true, true, true, true, true, true, true, true, true, false, false, false, false, false, false, false, false, false, false, false, false, false, false, false, false, false, false, false, false, false, false, false, false, false, false, false, false, false, false, false, false, false, false] rfl rfl (any_of HT_.out (by kernel_rfl)) (fun _ _ _ h => h) (Or.inl ⟨by rfl, ?_⟩) ?_ ?_
            rotate_left
            · intro w'
              go_simp
              with_reducible rfl
            rotate_left
            · simp only [Act.put, List.setIfInBounds_toArray, List.set_cons_zero, List.set_cons_succ, i64_w, i32_w]
              rfl
            refine pure_ (i := 14) (N := some 37) (v := ?_) (a' := ?_) #[true, true, true, true, true, true, true, true, true, true, true, true, true, true, true, false, false, false, false, false, false, false, false, false, false, false, false, false, false, false, false, false, false, false, false, false, false, false, false, false, false, false, false, false, false, false, false, false] rfl rfl (any_of HT_.out (by kernel_rfl)) (fun _ _ _ h => h) (Or.inl ⟨by rfl, ?_⟩) ?_ ?_
            rotate_left
            · intro w'
              go_simp
              with_reducible rfl
            rotate_left
            · simp only [Act.put, List.setIfInBounds_toArray, List.set_cons_zero, List.set_cons_succ, i64_w, i32_w]
              rfl
            refine pure_ (i := 15) (N := some 38) (v := ?_) (a' := ?_) #[true, true, true, true, true, true, true, true, true, true, true, true, true, true, true, true, false, false, false, false, false, false, false, false, false, false, false, false, false, false, false, false, false, false, false, false, false, false, false, false, false, false, false, false, false, false, false, false] rfl rfl (any_of HT_.out (by kernel_rfl)) (fun _ _ _ h => h) (Or.inl ⟨by rfl, ?_⟩) ?_ ?_
            rotate_left
            · intro w'
              go_simp
              with_reducible rfl
            rotate_left
            · simp only [Act.put, List.setIfInBounds_toArray, List.set_cons_zero, List.set_cons_succ, i64_w, i32_w]
              rfl
            refine take_ (i := 16) (N := some 39) (v := ?_) (a' := ?_) #[true, true, true, true, true, true, true, true, true, true, true, true, true, true, true, true, true, false, false, false, false, false, false, false, false, false, false, false, false, false, false, false, false, false, false, false, false, false, false, false, false, false, false, false, false, false, false, false] rfl rfl (take_ofW HT_.out HW_.out (by kernel_rfl)) (fun _ _ _ h => h) (Or.inl ⟨by rfl, ?_⟩) hHeld ?_ ?_
            rotate_left
            · rintro w' ⟨s0, s1, s2, s3, s4, s5, s6, s7, s8, s9, s10, s11⟩
              go_simp
              with_reducible rfl
            rotate_left
            · simp only [Act.put, List.setIfInBounds_toArray, List.set_cons_zero, List.set_cons_succ, i64_w, i32_w]
              rfl
            refine pure_ (i := 17) (N := some 40) (v := ?_) (a' := ?_) #[true, true, true, true, true, true, true, true, true, true, true, true, true, true, true, true, true, true, false, false, false, false, false, false, false, false, false, false, false, false, false, false, false, false, false, false, false, false, false, false, false, false, false, false, false, false, false, false] rfl rfl (any_of HT_.out (by kernel_rfl)) (fun _ _ _ h => h) (Or.inl ⟨by rfl, ?_⟩) ?_ ?_
            rotate_left
            · intro w'
              go_simp
              with_reducible rfl
            rotate_left
            · simp only [Act.put, List.setIfInBounds_toArray, List.set_cons_zero, List.set_cons_succ, i64_w, i32_w]
              rfl
            refine pure_ (i := 18) (N := some 41) (v := ?_) (a' := ?_) #[true, true, true, true, true, true, true, true, true, true, true, true, true, true, true, true, true, true, true, false, false, false, false, false, false, false, false, false, false, false, false, false, false, false, false, false, false, false, false, false, false, false, false, false, false, false, false, false] rfl rfl (any_of HT_.out (by kernel_rfl)) (fun _ _ _ h => h) (Or.inl ⟨by rfl, ?_⟩) ?_ ?_
            rotate_left
            · intro w'
              go_simp
              with_reducible rfl
            rotate_left
            · simp only [Act.put, List.setIfInBounds_toArray, List.set_cons_zero, List.set_cons_succ, i64_w, i32_w]
              rfl
            refine pure_ (i := 19) (N := some 42) (v := ?_) (a' := ?_) #[true, true, true, true, true, true, true, true, true, true, true, true, true, true, true, true, true, true, true, true, false, false, false, false, false, false, false, false, false, false, false, false, false, false, false, false, false, false, false, false, false, false, false, false, false, false, false, false] rfl rfl (any_of HT_.out (by kernel_rfl)) (fun _ _ _ h => h) (Or.inl ⟨by rfl, ?_⟩) ?_ ?_
            rotate_left
            · intro w'
              go_simp
              with_reducible rfl
            rotate_left
            · simp only [Act.put, List.setIfInBounds_toArray, List.set_cons_zero, List.set_cons_succ, i64_w, i32_w]
              rfl
            refine take_ (i := 20) (N := some 43) (v := ?_) (a' := ?_) #[true, true, true, true, true, true, true, true, true, true, true, true, true, true, true, true, true, true, true, true, true, false, false, false, false, false, false, false, false, false, false, false, false, false, false, false, false, false, false, false, false, false, false, false, false, false, false, false] rfl rfl (take_ofW HT_.out HW_.out (by kernel_rfl)) (fun _ _ _ h => h) (Or.inl ⟨by rfl, ?_⟩) hHeld ?_ ?_
            rotate_left
            · rintro w' ⟨s0, s1, s2, s3, s4, s5, s6, s7, s8, s9, s10, s11⟩
              go_simp
              with_reducible rfl
            rotate_left
            · simp only [Act.put, List.setIfInBounds_toArray, List.set_cons_zero, List.set_cons_succ, i64_w, i32_w]
              rfl
            refine take_ (i := 22) (N := some 45) (v := ?_) (a' := ?_) #[true, true, true, true, true, true, true, true, true, true, true, true, true, true, true, true, true, true, true, true, true, false, true, false, false, false, false, false, false, false, false, false, false, false, false, false, false, false, false, false, false, false, false, false, false, false, false, false] rfl rfl (take_ofW HT_.out HW_.out (by kernel_rfl)) (fun _ _ _ h => h) (Or.inl ⟨by rfl, ?_⟩) hHeld ?_ ?_
            rotate_left
            · rintro w' ⟨s0, s1, s2, s3, s4, s5, s6, s7, s8, s9, s10, s11⟩
              go_simp
              with_reducible rfl
            rotate_left
            · simp only [Act.put, List.setIfInBounds_toArray, List.set_cons_zero, List.set_cons_succ, i64_w, i32_w]
              rfl
            refine one_ (i := 21) (N := some 44) #[true, true, true, true, true, true, true, true, true, true, true, true, true, true, true, true, true, true, true, true, true, true, true, false, false, false, false, false, false, false, false, false, false, false, false, false, false, false, false, false, false, false, false, false, false, false, false, false] rfl rfl (one_of HT_.out (by kernel_rfl)) (by decide) (fun K hK => ?_)
            refine goes_ Try.func37 (by kernel_rfl) rfl #[.agg #[.int .u64 a0_0, .int .u64 a0_1]] (by rfl) rfl rfl (by (try simp only [List.map_toArray, List.map_cons, List.map_nil]); first | done | rfl | (simp only [List.length_drop, List.length_take]; rfl)) ?_
            with_reducible refine (wide_Text.calls k a0_0 a0_1 t148 _ A11.out).mono ?_
            rintro e w35 ⟨rfl, hb⟩
            refine ⟨_, rfl, ?_⟩
            have n0_ := Aside0.mk (blk_below (g := gb135) (o := .cells #[.int .u64 a0_0, .int .u64 a0_1] 44 (0, 0)) (by (with_reducible repeat (first | refine blk_drewN ?_ _ | refine blk_drew ?_ | refine blk_alloc ?_ _)); exact BK135.out) hb)
            have n1_ := Aside0.mk (blk_below (g := gb136) (o := .cells #[.int .u64 a2_0, .int .u64 a2_1, .int .u64 a2_2, .int .u64 a2_3] 45 (0, 0)) (by (with_reducible repeat (first | refine blk_drewN ?_ _ | refine blk_drew ?_ | refine blk_alloc ?_ _)); exact BK136.out) hb)
            have n2_ := Aside0.mk (blk_below (g := gb142) (o := .cells #[.int .u64 t138, .int .u64 t139] 44 (0, 0)) (by (with_reducible repeat (first | refine blk_drewN ?_ _ | refine blk_drew ?_ | refine blk_alloc ?_ _)); exact BK142.out) hb)
            have n3_ := Aside0.mk (blk_below (g := gb147) (o := .cells #[.int .u64 t143, .int .u64 t144, .int .u64 t145, .bool t146] 49 (0, 0)) (by (with_reducible repeat (first | refine blk_drewN ?_ _ | refine blk_drew ?_ | refine blk_alloc ?_ _)); exact BK147.out) hb)
            have n4_ := Aside0.mk (below_step (by repeat (first | (with_reducible first | exact HB.out | apply below_alloc | apply pw_below_drewN | apply below_drew1 | refine below_set ?_ GE135.out | refine below_set ?_ GE136.out | refine below_set ?_ GE142.out | refine below_set ?_ GE147.out) | exact HB.out)) hb)
            clear BK135
            clear BK136
            clear BK142
            clear BK147
            clear HB
            have BK135 := n0_
            have BK136 := n1_
            have BK142 := n2_
            have BK147 := n3_
            have HB := n4_
            clear n0_ n1_ n2_ n3_ n4_
            (try clear hb)
            (try clear hb2)
            (try clear hk)
            (try clear hi)
            refine hK.out _ _ ⟨(blk_cell BK142.out 0).trans rfl, (blk_cell BK142.out 1).trans rfl, (blk_cell BK147.out 0).trans rfl, (blk_cell BK147.out 1).trans rfl, (blk_cell BK147.out 2).trans rfl, (blk_cell BK147.out 3).trans rfl, (blk_cell BK135.out 0).trans rfl, (blk_cell BK135.out 1).trans rfl, (blk_cell BK136.out 0).trans rfl, (blk_cell BK136.out 1).trans rfl, (blk_cell BK136.out 2).trans rfl, (blk_cell BK136.out 3).trans rfl⟩ (fun hHeld => ?_)
            clear hK K
            refine norm_ (a' := ?_) ?_ ?_
            rotate_left
            · show Act.put _ (some 44) _ = _
              simp only [Act.put, List.setIfInBounds_toArray, List.set_cons_zero, List.set_cons_succ, i64_w, i32_w]
              rfl
            refine one_ (i := 23) (N := some 46) #[true, true, true, true, true, true, true, true, true, true, true, true, true, true, true, true, true, true, true, true, true, true, true, true, false, false, false, false, false, false, false, false, false, false, false, false, false, false, false, false, false, false, false, false, false, false, false, false] rfl rfl (one_of HT_.out (by kernel_rfl)) (by decide) (fun K hK => ?_)
            refine goes_ Try.func38 (by kernel_rfl) rfl #[.agg #[.int .u64 a0_0, .int .u64 a0_1]] (by rfl) rfl rfl (by (try simp only [List.map_toArray, List.map_cons, List.map_nil]); first | done | rfl | (simp only [List.length_drop, List.length_take]; rfl)) ?_
            with_reducible refine (horariumref01_Text.calls a0_0 a0_1 t149 _ A12.out).mono ?_
            rintro e w36 ⟨rfl, hb⟩
            refine ⟨_, rfl, ?_⟩
            have n0_ := Aside0.mk (blk_below (g := gb135) (o := .cells #[.int .u64 a0_0, .int .u64 a0_1] 44 (0, 0)) (by (with_reducible repeat (first | refine blk_drewN ?_ _ | refine blk_drew ?_ | refine blk_alloc ?_ _)); exact BK135.out) hb)
            have n1_ := Aside0.mk (blk_below (g := gb136) (o := .cells #[.int .u64 a2_0, .int .u64 a2_1, .int .u64 a2_2, .int .u64 a2_3] 45 (0, 0)) (by (with_reducible repeat (first | refine blk_drewN ?_ _ | refine blk_drew ?_ | refine blk_alloc ?_ _)); exact BK136.out) hb)
            have n2_ := Aside0.mk (blk_below (g := gb142) (o := .cells #[.int .u64 t138, .int .u64 t139] 44 (0, 0)) (by (with_reducible repeat (first | refine blk_drewN ?_ _ | refine blk_drew ?_ | refine blk_alloc ?_ _)); exact BK142.out) hb)
            have n3_ := Aside0.mk (blk_below (g := gb147) (o := .cells #[.int .u64 t143, .int .u64 t144, .int .u64 t145, .bool t146] 49 (0, 0)) (by (with_reducible repeat (first | refine blk_drewN ?_ _ | refine blk_drew ?_ | refine blk_alloc ?_ _)); exact BK147.out) hb)
            have n4_ := Aside0.mk (below_step (by repeat (first | (with_reducible first | exact HB.out | apply below_alloc | apply pw_below_drewN | apply below_drew1 | refine below_set ?_ GE135.out | refine below_set ?_ GE136.out | refine below_set ?_ GE142.out | refine below_set ?_ GE147.out) | exact HB.out)) hb)
            clear BK135
            clear BK136
            clear BK142
            clear BK147
            clear HB
            have BK135 := n0_
            have BK136 := n1_
            have BK142 := n2_
            have BK147 := n3_
            have HB := n4_
            clear n0_ n1_ n2_ n3_ n4_
            (try clear hb)
            (try clear hb2)
            (try clear hk)
            (try clear hi)
            refine hK.out _ _ ⟨(blk_cell BK142.out 0).trans rfl, (blk_cell BK142.out 1).trans rfl, (blk_cell BK147.out 0).trans rfl, (blk_cell BK147.out 1).trans rfl, (blk_cell BK147.out 2).trans rfl, (blk_cell BK147.out 3).trans rfl, (blk_cell BK135.out 0).trans rfl, (blk_cell BK135.out 1).trans rfl, (blk_cell BK136.out 0).trans rfl, (blk_cell BK136.out 1).trans rfl, (blk_cell BK136.out 2).trans rfl, (blk_cell BK136.out 3).trans rfl⟩ (fun hHeld => ?_)
            clear hK K
            refine norm_ (a' := ?_) ?_ ?_
            rotate_left
            · show Act.put _ (some 46) _ = _
              simp only [Act.put, List.setIfInBounds_toArray, List.set_cons_zero, List.set_cons_succ, i64_w, i32_w]
              rfl
            refine pure_ (i := 24) (N := some 47) (v := ?_) (a' := ?_) #[true, true, true, true, true, true, true, true, true, true, true, true, true, true, true, true, true, true, true, true, true, true, true, true, true, false, false, false, false, false, false, false, false, false, false, false, false, false, false, false, false, false, false, false, false, false, false, false] rfl rfl (any_of HT_.out (by kernel_rfl)) (fun _ _ _ h => h) (Or.inl ⟨by rfl, ?_⟩) ?_ ?_
            rotate_left
            · intro w'
              go_simp
              with_reducible rfl
            rotate_left
            · simp only [Act.put, List.setIfInBounds_toArray, List.set_cons_zero, List.set_cons_succ, i64_w, i32_w]
              rfl
            refine pure_ (i := 25) (N := some 48) (v := ?_) (a' := ?_) #[true, true, true, true, true, true, true, true, true, true, true, true, true, true, true, true, true, true, true, true, true, true, true, true, true, true, false, false, false, false, false, false, false, false, false, false, false, false, false, false, false, false, false, false, false, false, false, false] rfl rfl (any_of HT_.out (by kernel_rfl)) (fun _ _ _ h => h) (Or.inl ⟨by rfl, ?_⟩) ?_ ?_
            rotate_left
            · intro w'
              go_simp
              with_reducible rfl
            rotate_left
            · simp only [Act.put, List.setIfInBounds_toArray, List.set_cons_zero, List.set_cons_succ, i64_w, i32_w]
              rfl
            refine pure_ (i := 26) (N := some 49) (v := ?_) (a' := ?_) #[true, true, true, true, true, true, true, true, true, true, true, true, true, true, true, true, true, true, true, true, true, true, true, true, true, true, true, false, false, false, false, false, false, false, false, false, false, false, false, false, false, false, false, false, false, false, false, false] rfl rfl (any_of HT_.out (by kernel_rfl)) (fun _ _ _ h => h) (Or.inl ⟨by rfl, ?_⟩) ?_ ?_
            rotate_left
            · intro w'
              go_simp
              with_reducible rfl
            rotate_left
            · simp only [Act.put, List.setIfInBounds_toArray, List.set_cons_zero, List.set_cons_succ, i64_w, i32_w]
              rfl
            refine pure_ (i := 27) (N := some 50) (v := ?_) (a' := ?_) #[true, true, true, true, true, true, true, true, true, true, true, true, true, true, true, true, true, true, true, true, true, true, true, true, true, true, true, true, false, false, false, false, false, false, false, false, false, false, false, false, false, false, false, false, false, false, false, false] rfl rfl (any_of HT_.out (by kernel_rfl)) (fun _ _ _ h => h) (Or.inl ⟨by rfl, ?_⟩) ?_ ?_
            rotate_left
            · intro w'
              go_simp
              with_reducible rfl
            rotate_left
            · simp only [Act.put, List.setIfInBounds_toArray, List.set_cons_zero, List.set_cons_succ, i64_w, i32_w]
              rfl
            refine pure_ (i := 29) (N := some 52) (v := ?_) (a' := ?_) #[true, true, true, true, true, true, true, true, true, true, true, true, true, true, true, true, true, true, true, true, true, true, true, true, true, true, true, true, false, true, false, false, false, false, false, false, false, false, false, false, false, false, false, false, false, false, false, false] rfl rfl (any_of HT_.out (by kernel_rfl)) (fun _ _ _ h => h) (Or.inl ⟨by rfl, ?_⟩) ?_ ?_
            rotate_left
            · intro w'
              go_simp
              with_reducible rfl
            rotate_left
            · simp only [Act.put, List.setIfInBounds_toArray, List.set_cons_zero, List.set_cons_succ, i64_w, i32_w]
              rfl
            refine pure_ (i := 31) (N := some 54) (v := ?_) (a' := ?_) #[true, true, true, true, true, true, true, true, true, true, true, true, true, true, true, true, true, true, true, true, true, true, true, true, true, true, true, true, false, true, false, true, false, false, false, false, false, false, false, false, false, false, false, false, false, false, false, false] rfl rfl (any_of HT_.out (by kernel_rfl)) (fun _ _ _ h => h) (Or.inl ⟨by rfl, ?_⟩) ?_ ?_
            rotate_left
            · intro w'
              go_simp
              with_reducible rfl
            rotate_left
            · simp only [Act.put, List.setIfInBounds_toArray, List.set_cons_zero, List.set_cons_succ, i64_w, i32_w]
              rfl
            refine pure_ (i := 33) (N := some 56) (v := ?_) (a' := ?_) #[true, true, true, true, true, true, true, true, true, true, true, true, true, true, true, true, true, true, true, true, true, true, true, true, true, true, true, true, false, true, false, true, false, true, false, false, false, false, false, false, false, false, false, false, false, false, false, false] rfl rfl (any_of HT_.out (by kernel_rfl)) (fun _ _ _ h => h) (Or.inl ⟨by rfl, ?_⟩) ?_ ?_
            rotate_left
            · intro w'
              go_simp
              with_reducible rfl
            rotate_left
            · simp only [Act.put, List.setIfInBounds_toArray, List.set_cons_zero, List.set_cons_succ, i64_w, i32_w]
              rfl
            refine pure_ (i := 36) (N := some 59) (v := ?_) (a' := ?_) #[true, true, true, true, true, true, true, true, true, true, true, true, true, true, true, true, true, true, true, true, true, true, true, true, true, true, true, true, false, true, false, true, false, true, false, false, true, false, false, false, false, false, false, false, false, false, false, false] rfl rfl (any_of HT_.out (by kernel_rfl)) (fun _ _ _ h => h) (Or.inl ⟨by rfl, ?_⟩) ?_ ?_
            rotate_left
            · intro w'
              go_simp
              with_reducible rfl
            rotate_left
            · simp only [Act.put, List.setIfInBounds_toArray, List.set_cons_zero, List.set_cons_succ, i64_w, i32_w]
              rfl
            refine pure_ (i := 38) (N := some 61) (v := ?_) (a' := ?_) #[true, true, true, true, true, true, true, true, true, true, true, true, true, true, true, true, true, true, true, true, true, true, true, true, true, true, true, true, false, true, false, true, false, true, false, false, true, false, true, false, false, false, false, false, false, false, false, false] rfl rfl (any_of HT_.out (by kernel_rfl)) (fun _ _ _ h => h) (Or.inl ⟨by rfl, ?_⟩) ?_ ?_
            rotate_left
            · intro w'
              go_simp
              with_reducible rfl
            rotate_left
            · simp only [Act.put, List.setIfInBounds_toArray, List.set_cons_zero, List.set_cons_succ, i64_w, i32_w]
              rfl
            refine pure_ (i := 40) (N := some 63) (v := ?_) (a' := ?_) #[true, true, true, true, true, true, true, true, true, true, true, true, true, true, true, true, true, true, true, true, true, true, true, true, true, true, true, true, false, true, false, true, false, true, false, false, true, false, true, false, true, false, false, false, false, false, false, false] rfl rfl (any_of HT_.out (by kernel_rfl)) (fun _ _ _ h => h) (Or.inl ⟨by rfl, ?_⟩) ?_ ?_
            rotate_left
            · intro w'
              go_simp
              with_reducible rfl
            rotate_left
            · simp only [Act.put, List.setIfInBounds_toArray, List.set_cons_zero, List.set_cons_succ, i64_w, i32_w]
              rfl
            refine pure_ (i := 42) (N := some 65) (v := ?_) (a' := ?_) #[true, true, true, true, true, true, true, true, true, true, true, true, true, true, true, true, true, true, true, true, true, true, true, true, true, true, true, true, false, true, false, true, false, true, false, false, true, false, true, false, true, false, true, false, false, false, false, false] rfl rfl (any_of HT_.out (by kernel_rfl)) (fun _ _ _ h => h) (Or.inl ⟨by rfl, ?_⟩) ?_ ?_
            rotate_left
            · intro w'
              go_simp
              with_reducible rfl
            rotate_left
            · simp only [Act.put, List.setIfInBounds_toArray, List.set_cons_zero, List.set_cons_succ, i64_w, i32_w]
              rfl
            refine take_ (i := 28) (N := some 51) (v := ?_) (a' := ?_) #[true, true, true, true, true, true, true, true, true, true, true, true, true, true, true, true, true, true, true, true, true, true, true, true, true, true, true, true, true, true, false, true, false, true, false, false, true, false, true, false, true, false, true, false, false, false, false, false] rfl rfl (take_ofW HT_.out HW_.out (by kernel_rfl)) (fun _ _ _ h => h) (Or.inl ⟨by rfl, ?_⟩) hHeld ?_ ?_
            rotate_left
            · rintro w' ⟨s0, s1, s2, s3, s4, s5, s6, s7, s8, s9, s10, s11⟩
              go_simp
              with_reducible rfl
            rotate_left
            · simp only [Act.put, List.setIfInBounds_toArray, List.set_cons_zero, List.set_cons_succ, i64_w, i32_w]
              rfl
            refine take_ (i := 30) (N := some 53) (v := ?_) (a' := ?_) #[true, true, true, true, true, true, true, true, true, true, true, true, true, true, true, true, true, true, true, true, true, true, true, true, true, true, true, true, true, true, true, true, false, true, false, false, true, false, true, false, true, false, true, false, false, false, false, false] rfl rfl (take_ofW HT_.out HW_.out (by kernel_rfl)) (fun _ _ _ h => h) (Or.inl ⟨by rfl, ?_⟩) hHeld ?_ ?_
            rotate_left
            · rintro w' ⟨s0, s1, s2, s3, s4, s5, s6, s7, s8, s9, s10, s11⟩
              go_simp
              with_reducible rfl
            rotate_left
            · simp only [Act.put, List.setIfInBounds_toArray, List.set_cons_zero, List.set_cons_succ, i64_w, i32_w]
              rfl
            refine take_ (i := 32) (N := some 55) (v := ?_) (a' := ?_) #[true, true, true, true, true, true, true, true, true, true, true, true, true, true, true, true, true, true, true, true, true, true, true, true, true, true, true, true, true, true, true, true, true, true, false, false, true, false, true, false, true, false, true, false, false, false, false, false] rfl rfl (take_ofW HT_.out HW_.out (by kernel_rfl)) (fun _ _ _ h => h) (Or.inl ⟨by rfl, ?_⟩) hHeld ?_ ?_
            rotate_left
            · rintro w' ⟨s0, s1, s2, s3, s4, s5, s6, s7, s8, s9, s10, s11⟩
              go_simp
              with_reducible rfl
            rotate_left
            · simp only [Act.put, List.setIfInBounds_toArray, List.set_cons_zero, List.set_cons_succ, i64_w, i32_w]
              rfl
            refine take_ (i := 34) (N := some 57) (v := ?_) (a' := ?_) #[true, true, true, true, true, true, true, true, true, true, true, true, true, true, true, true, true, true, true, true, true, true, true, true, true, true, true, true, true, true, true, true, true, true, true, false, true, false, true, false, true, false, true, false, false, false, false, false] rfl rfl (take_ofW HT_.out HW_.out (by kernel_rfl)) (fun _ _ _ h => h) (Or.inl ⟨by rfl, ?_⟩) hHeld ?_ ?_
            rotate_left
            · rintro w' ⟨s0, s1, s2, s3, s4, s5, s6, s7, s8, s9, s10, s11⟩
              go_simp
              with_reducible rfl
            rotate_left
            · simp only [Act.put, List.setIfInBounds_toArray, List.set_cons_zero, List.set_cons_succ, i64_w, i32_w]
              rfl
            refine take_ (i := 37) (N := some 60) (v := ?_) (a' := ?_) #[true, true, true, true, true, true, true, true, true, true, true, true, true, true, true, true, true, true, true, true, true, true, true, true, true, true, true, true, true, true, true, true, true, true, true, false, true, true, true, false, true, false, true, false, false, false, false, false] rfl rfl (take_ofW HT_.out HW_.out (by kernel_rfl)) (fun _ _ _ h => h) (Or.inl ⟨by rfl, ?_⟩) hHeld ?_ ?_
            rotate_left
            · rintro w' ⟨s0, s1, s2, s3, s4, s5, s6, s7, s8, s9, s10, s11⟩
              go_simp
              with_reducible rfl
            rotate_left
            · simp only [Act.put, List.setIfInBounds_toArray, List.set_cons_zero, List.set_cons_succ, i64_w, i32_w]
              rfl
            refine take_ (i := 39) (N := some 62) (v := ?_) (a' := ?_) #[true, true, true, true, true, true, true, true, true, true, true, true, true, true, true, true, true, true, true, true, true, true, true, true, true, true, true, true, true, true, true, true, true, true, true, false, true, true, true, true, true, false, true, false, false, false, false, false] rfl rfl (take_ofW HT_.out HW_.out (by kernel_rfl)) (fun _ _ _ h => h) (Or.inl ⟨by rfl, ?_⟩) hHeld ?_ ?_
            rotate_left
            · rintro w' ⟨s0, s1, s2, s3, s4, s5, s6, s7, s8, s9, s10, s11⟩
              go_simp
              with_reducible rfl
            rotate_left
            · simp only [Act.put, List.setIfInBounds_toArray, List.set_cons_zero, List.set_cons_succ, i64_w, i32_w]
              rfl
            refine take_ (i := 41) (N := some 64) (v := ?_) (a' := ?_) #[true, true, true, true, true, true, true, true, true, true, true, true, true, true, true, true, true, true, true, true, true, true, true, true, true, true, true, true, true, true, true, true, true, true, true, false, true, true, true, true, true, true, true, false, false, false, false, false] rfl rfl (take_ofW HT_.out HW_.out (by kernel_rfl)) (fun _ _ _ h => h) (Or.inl ⟨by rfl, ?_⟩) hHeld ?_ ?_
            rotate_left
            · rintro w' ⟨s0, s1, s2, s3, s4, s5, s6, s7, s8, s9, s10, s11⟩
              go_simp
              with_reducible rfl
            rotate_left
            · simp only [Act.put, List.setIfInBounds_toArray, List.set_cons_zero, List.set_cons_succ, i64_w, i32_w]
              rfl
            refine take_ (i := 43) (N := some 66) (v := ?_) (a' := ?_) #[true, true, true, true, true, true, true, true, true, true, true, true, true, true, true, true, true, true, true, true, true, true, true, true, true, true, true, true, true, true, true, true, true, true, true, false, true, true, true, true, true, true, true, true, false, false, false, false] rfl rfl (take_ofW HT_.out HW_.out (by kernel_rfl)) (fun _ _ _ h => h) (Or.inl ⟨by rfl, ?_⟩) hHeld ?_ ?_
            rotate_left
            · rintro w' ⟨s0, s1, s2, s3, s4, s5, s6, s7, s8, s9, s10, s11⟩
              go_simp
              with_reducible rfl
            rotate_left
            · simp only [Act.put, List.setIfInBounds_toArray, List.set_cons_zero, List.set_cons_succ, i64_w, i32_w]
              rfl
            refine one_ (i := 35) (N := some 58) #[true, true, true, true, true, true, true, true, true, true, true, true, true, true, true, true, true, true, true, true, true, true, true, true, true, true, true, true, true, true, true, true, true, true, true, true, true, true, true, true, true, true, true, true, false, false, false, false] rfl rfl (one_of HT_.out (by kernel_rfl)) (by decide) (fun K hK => ?_)
            refine goes_ Try.func39 (by kernel_rfl) rfl #[.int .u64 a2_0, .int .u64 a2_1, .int .u64 a2_2, .int .u64 a2_3] (by rfl) rfl rfl (by (try simp only [List.map_toArray, List.map_cons, List.map_nil]); first | done | rfl | (simp only [List.length_drop, List.length_take]; rfl)) ?_
            with_reducible refine (wide_Less.calls k a2_0 a2_1 a2_2 a2_3 t150 _ A14.out).mono ?_
            rintro e w37 ⟨rfl, hb⟩
            refine ⟨_, rfl, ?_⟩
            have n0_ := Aside0.mk (blk_below (g := gb135) (o := .cells #[.int .u64 a0_0, .int .u64 a0_1] 44 (0, 0)) (by (with_reducible repeat (first | refine blk_drewN ?_ _ | refine blk_drew ?_ | refine blk_alloc ?_ _)); exact BK135.out) hb)
            have n1_ := Aside0.mk (blk_below (g := gb136) (o := .cells #[.int .u64 a2_0, .int .u64 a2_1, .int .u64 a2_2, .int .u64 a2_3] 45 (0, 0)) (by (with_reducible repeat (first | refine blk_drewN ?_ _ | refine blk_drew ?_ | refine blk_alloc ?_ _)); exact BK136.out) hb)
            have n2_ := Aside0.mk (blk_below (g := gb142) (o := .cells #[.int .u64 t138, .int .u64 t139] 44 (0, 0)) (by (with_reducible repeat (first | refine blk_drewN ?_ _ | refine blk_drew ?_ | refine blk_alloc ?_ _)); exact BK142.out) hb)
            have n3_ := Aside0.mk (blk_below (g := gb147) (o := .cells #[.int .u64 t143, .int .u64 t144, .int .u64 t145, .bool t146] 49 (0, 0)) (by (with_reducible repeat (first | refine blk_drewN ?_ _ | refine blk_drew ?_ | refine blk_alloc ?_ _)); exact BK147.out) hb)
            have n4_ := Aside0.mk (below_step (by repeat (first | (with_reducible first | exact HB.out | apply below_alloc | apply pw_below_drewN | apply below_drew1 | refine below_set ?_ GE135.out | refine below_set ?_ GE136.out | refine below_set ?_ GE142.out | refine below_set ?_ GE147.out) | exact HB.out)) hb)
            clear BK135
            clear BK136
            clear BK142
            clear BK147
            clear HB
            have BK135 := n0_
            have BK136 := n1_
            have BK142 := n2_
            have BK147 := n3_
            have HB := n4_
            clear n0_ n1_ n2_ n3_ n4_
            (try clear hb)
            (try clear hb2)
            (try clear hk)
            (try clear hi)
            refine hK.out _ _ ⟨(blk_cell BK142.out 0).trans rfl, (blk_cell BK142.out 1).trans rfl, (blk_cell BK147.out 0).trans rfl, (blk_cell BK147.out 1).trans rfl, (blk_cell BK147.out 2).trans rfl, (blk_cell BK147.out 3).trans rfl, (blk_cell BK135.out 0).trans rfl, (blk_cell BK135.out 1).trans rfl, (blk_cell BK136.out 0).trans rfl, (blk_cell BK136.out 1).trans rfl, (blk_cell BK136.out 2).trans rfl, (blk_cell BK136.out 3).trans rfl⟩ (fun hHeld => ?_)
            clear hK K
            refine norm_ (a' := ?_) ?_ ?_
            rotate_left
            · show Act.put _ (some 58) _ = _
              simp only [Act.put, List.setIfInBounds_toArray, List.set_cons_zero, List.set_cons_succ, i64_w, i32_w]
              rfl
            refine one_ (i := 44) (N := some 67) #[true, true, true, true, true, true, true, true, true, true, true, true, true, true, true, true, true, true, true, true, true, true, true, true, true, true, true, true, true, true, true, true, true, true, true, true, true, true, true, true, true, true, true, true, true, false, false, false] rfl rfl (one_of HT_.out (by kernel_rfl)) (by decide) (fun K hK => ?_)
            refine goes_ Try.func40 (by kernel_rfl) rfl #[.int .u64 a2_0, .int .u64 a2_1, .int .u64 a2_2, .int .u64 a2_3] (by rfl) rfl rfl (by (try simp only [List.map_toArray, List.map_cons, List.map_nil]); first | done | rfl | (simp only [List.length_drop, List.length_take]; rfl)) ?_
            with_reducible refine (horariumref01_Less.calls a2_0 a2_1 a2_2 a2_3 t151 _ A15.out).mono ?_
            rintro e w38 ⟨rfl, hb⟩
            refine ⟨_, rfl, ?_⟩
            have n0_ := Aside0.mk (blk_below (g := gb135) (o := .cells #[.int .u64 a0_0, .int .u64 a0_1] 44 (0, 0)) (by (with_reducible repeat (first | refine blk_drewN ?_ _ | refine blk_drew ?_ | refine blk_alloc ?_ _)); exact BK135.out) hb)
            have n1_ := Aside0.mk (blk_below (g := gb136) (o := .cells #[.int .u64 a2_0, .int .u64 a2_1, .int .u64 a2_2, .int .u64 a2_3] 45 (0, 0)) (by (with_reducible repeat (first | refine blk_drewN ?_ _ | refine blk_drew ?_ | refine blk_alloc ?_ _)); exact BK136.out) hb)
            have n2_ := Aside0.mk (blk_below (g := gb142) (o := .cells #[.int .u64 t138, .int .u64 t139] 44 (0, 0)) (by (with_reducible repeat (first | refine blk_drewN ?_ _ | refine blk_drew ?_ | refine blk_alloc ?_ _)); exact BK142.out) hb)
            have n3_ := Aside0.mk (blk_below (g := gb147) (o := .cells #[.int .u64 t143, .int .u64 t144, .int .u64 t145, .bool t146] 49 (0, 0)) (by (with_reducible repeat (first | refine blk_drewN ?_ _ | refine blk_drew ?_ | refine blk_alloc ?_ _)); exact BK147.out) hb)
            have n4_ := Aside0.mk (below_step (by repeat (first | (with_reducible first | exact HB.out | apply below_alloc | apply pw_below_drewN | apply below_drew1 | refine below_set ?_ GE135.out | refine below_set ?_ GE136.out | refine below_set ?_ GE142.out | refine below_set ?_ GE147.out) | exact HB.out)) hb)
            clear BK135
            clear BK136
            clear BK142
            clear BK147
            clear HB
            have BK135 := n0_
            have BK136 := n1_
            have BK142 := n2_
            have BK147 := n3_
            have HB := n4_
            clear n0_ n1_ n2_ n3_ n4_
            (try clear hb)
            (try clear hb2)
            (try clear hk)
            (try clear hi)
            refine hK.out _ _ ⟨(blk_cell BK142.out 0).trans rfl, (blk_cell BK142.out 1).trans rfl, (blk_cell BK147.out 0).trans rfl, (blk_cell BK147.out 1).trans rfl, (blk_cell BK147.out 2).trans rfl, (blk_cell BK147.out 3).trans rfl, (blk_cell BK135.out 0).trans rfl, (blk_cell BK135.out 1).trans rfl, (blk_cell BK136.out 0).trans rfl, (blk_cell BK136.out 1).trans rfl, (blk_cell BK136.out 2).trans rfl, (blk_cell BK136.out 3).trans rfl⟩ (fun hHeld => ?_)
            clear hK K
            refine norm_ (a' := ?_) ?_ ?_
            rotate_left
            · show Act.put _ (some 67) _ = _
              simp only [Act.put, List.setIfInBounds_toArray, List.set_cons_zero, List.set_cons_succ, i64_w, i32_w]
              rfl
            refine pure_ (i := 45) (N := some 68) (v := ?_) (a' := ?_) #[true, true, true, true, true, true, true, true, true, true, true, true, true, true, true, true, true, true, true, true, true, true, true, true, true, true, true, true, true, true, true, true, true, true, true, true, true, true, true, true, true, true, true, true, true, true, false, false] rfl rfl (any_of HT_.out (by kernel_rfl)) (fun _ _ _ h => h) (Or.inl ⟨by rfl, ?_⟩) ?_ ?_
            rotate_left
            · intro w'
              go_simp
              with_reducible rfl
            rotate_left
            · simp only [Act.put, List.setIfInBounds_toArray, List.set_cons_zero, List.set_cons_succ, i64_w, i32_w]
              rfl
            refine pure_ (i := 46) (N := some 69) (v := ?_) (a' := ?_) #[true, true, true, true, true, true, true, true, true, true, true, true, true, true, true, true, true, true, true, true, true, true, true, true, true, true, true, true, true, true, true, true, true, true, true, true, true, true, true, true, true, true, true, true, true, true, true, false] rfl rfl (any_of HT_.out (by kernel_rfl)) (fun _ _ _ h => h) (Or.inl ⟨by rfl, ?_⟩) ?_ ?_
            rotate_left
            · intro w'
              go_simp
              with_reducible rfl
            rotate_left
            · simp only [Act.put, List.setIfInBounds_toArray, List.set_cons_zero, List.set_cons_succ, i64_w, i32_w]
              rfl
            refine pure_ (i := 47) (N := some 6) (v := ?_) (a' := ?_) #[true, true, true, true, true, true, true, true, true, true, true, true, true, true, true, true, true, true, true, true, true, true, true, true, true, true, true, true, true, true, true, true, true, true, true, true, true, true, true, true, true, true, true, true, true, true, true, true] rfl rfl (any_of HT_.out (by kernel_rfl)) (fun _ _ _ h => h) (Or.inl ⟨by rfl, ?_⟩) ?_ ?_
            rotate_left
            · intro w'
              go_simp
              with_reducible rfl
            rotate_left
            · simp only [Act.put, List.setIfInBounds_toArray, List.set_cons_zero, List.set_cons_succ, i64_w, i32_w]
              rfl
            refine done_ (done_of HT_.out (by kernel_rfl)) ?_
            try go_wp2
            go_ret
            exact ⟨by first | rfl | (simp [errW_none, errW_some] <;> rfl) | (simp [*, errW_none, errW_some] <;> rfl), by repeat (first | (with_reducible first | exact HB.out | apply below_alloc | apply pw_below_drewN | apply below_drew1 | refine below_set ?_ GE135.out | refine below_set ?_ GE136.out | refine below_set ?_ GE142.out | refine below_set ?_ GE147.out) | exact HB.out)⟩
          · rw [if_neg c13] at H
            have c13b0 : (t148.toList == t149.toList) = false := beq_eq_false_iff_ne.mpr c13
            have c13b1 : (t148.toList != t149.toList) = true := bne_iff_ne.mpr c13
            exact absurd ((Option.some.inj H).trans HRT.out) (by decide)
        · rw [if_neg c10] at H
          have c10b0 : (t141 == t146) = false := by first | (simpa using c10) | exact Bool.eq_false_iff.mpr c10 | exact eq_true_of_ne_false c10
          (try (have c10b1 : decide (t141 = t146) = false := by simpa using c10))
          (try (have c10b2 : (t141 == t146) = false := by simpa using c10))
          (try (have c10b3 : ¬ (t141 = t146) := by simpa using c10))
          clear c10
          exact absurd ((Option.some.inj H).trans HRT.out) (by decide)
      · rw [if_neg c9] at H
        have c9b0 : (t140 == t145) = false := beq_eq_false_iff_ne.mpr c9
        have c9b1 : (t140 != t145) = true := bne_iff_ne.mpr c9
        exact absurd ((Option.some.inj H).trans HRT.out) (by decide)
    · rw [if_neg c8] at H
      have c8b0 : (t138 == t143 && (t139 == t144)) = false := by first | (simpa using c8) | exact Bool.eq_false_iff.mpr c8 | exact eq_true_of_ne_false c8
      (try (have c8b1 : decide (t138 = t143 && (t139 == t144)) = false := by simpa using c8))
      (try (have c8b2 : (t138 == t143 && (t139 == t144)) = false := by simpa using c8))
      (try (have c8b3 : ¬ (t138 = t143 && (t139 == t144)) := by simpa using c8))
      clear c8
      exact absurd ((Option.some.inj H).trans HRT.out) (by decide)
  · replace c7 := Bool.eq_false_iff.mpr c7
    subst c7
    have H1 : (some false) = some r := by rw [if_neg (show ¬ (false = true) by decide)] at H; exact H
    clear H
    have H := H1
    clear H1
    exact absurd ((Option.some.inj H).trans HRT.out) (by decide)
end Go.Proofs.Ytbkjoojfpmokaaa.PWideParts
