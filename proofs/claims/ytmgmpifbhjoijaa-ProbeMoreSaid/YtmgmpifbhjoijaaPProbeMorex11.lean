-- Made by px.py (a program of this session, over the kit's printer) out of the translation. Not trusted: Lean checks it.
import Derived.Test.YtmgmpifbhjoijaaPProbeMorex0
import Derived.Test.YtmgmpifbhjoijaaPProbeMorex5
import Derived.Test.YtmgmpifbhjoijaaPProbeMorex6
import Derived.Test.YtmgmpifbhjoijaaPProbeMorex9
import Derived.Test.YtmgmpifbhjoijaaPProbeMorex10
namespace Go.Proofs.Ytmgmpifbhjoijaa.PProbeMore
open Go.RowKit Go.Proofs.YtmgmpifbhjoijaaW.PrintWords Go.Proofs.YtmgmpifbhjoijaaW.PrintLast Go.Proofs.YtmgmpifbhjoijaaW.PrintMore
attribute [local go_sem] max2_int min2_int max_two min_two max_three min_three max_four min_four   -- for this text's walks alone
set_option linter.unusedVariables false
set_option linter.unusedSimpArgs false

/-! ### horariumlaw26_ProbeMore: function 8 -/
def horariumlaw26_ProbeMore.f (k : Nat) (l0 : List (S22)) (a1 : Int) (a2 : Int) : Option (Bool) := (horariumlaw26_awake.f k).bind fun t201 => ((horariumlaw26_made.f k l0 true).bind fun t202 => (if (t202.length : Int) < 2 then (some t201) else (if (t202.length : Int) = 0 then (none) else (if (Int.tmod (wrap64 ((Int.tmod a1 (t202.length : Int)) + (t202.length : Int))) (t202.length : Int)) = (Int.tmod (wrap64 ((Int.tmod a2 (t202.length : Int)) + (t202.length : Int))) (t202.length : Int)) then (some t201) else ((probe_MostC.f k t202 (Int.tmod (wrap64 ((Int.tmod a1 (t202.length : Int)) + (t202.length : Int))) (t202.length : Int))).bind fun t205 => ((some (([] : List (S28)) : List (S28))).bind fun y206 => (if y206.length + t202.length < 3518437208883 then ((some (y206 ++ t202 : List (S28))).bind fun y209 => (if 0 ≤ (Int.tmod (wrap64 ((Int.tmod a2 (t202.length : Int)) + (t202.length : Int))) (t202.length : Int)) then (if (Int.tmod (wrap64 ((Int.tmod a2 (t202.length : Int)) + (t202.length : Int))) (t202.length : Int)) < (y209.length : Int) then (if t201 = true then ((probe_MostC.f k (y209.set ((Int.tmod (wrap64 ((Int.tmod a2 (t202.length : Int)) + (t202.length : Int))) (t202.length : Int)) : Int).toNat (⟨(rd_T28 y209 (Int.tmod (wrap64 ((Int.tmod a2 (t202.length : Int)) + (t202.length : Int))) (t202.length : Int))).f0, 1, (rd_T28 y209 (Int.tmod (wrap64 ((Int.tmod a2 (t202.length : Int)) + (t202.length : Int))) (t202.length : Int))).f2, (rd_T28 y209 (Int.tmod (wrap64 ((Int.tmod a2 (t202.length : Int)) + (t202.length : Int))) (t202.length : Int))).f3, (rd_T28 y209 (Int.tmod (wrap64 ((Int.tmod a2 (t202.length : Int)) + (t202.length : Int))) (t202.length : Int))).f4⟩ : S28)) (Int.tmod (wrap64 ((Int.tmod a1 (t202.length : Int)) + (t202.length : Int))) (t202.length : Int))).bind fun t213 => (if t213 ≥ t205 then (if 0 ≤ (Int.tmod (wrap64 ((Int.tmod a1 (t202.length : Int)) + (t202.length : Int))) (t202.length : Int)) then (if (Int.tmod (wrap64 ((Int.tmod a1 (t202.length : Int)) + (t202.length : Int))) (t202.length : Int)) < (t202.length : Int) then (if t205 ≥ ((rd_T28 t202 (Int.tmod (wrap64 ((Int.tmod a1 (t202.length : Int)) + (t202.length : Int))) (t202.length : Int))).f1) then ((probe_LeastT.f k t202 (Int.tmod (wrap64 ((Int.tmod a1 (t202.length : Int)) + (t202.length : Int))) (t202.length : Int))).bind fun t215 => (if t215 ≤ ((rd_T28 t202 (Int.tmod (wrap64 ((Int.tmod a1 (t202.length : Int)) + (t202.length : Int))) (t202.length : Int))).f3) then ((probe_LeastT.f k t202 (Int.tmod (wrap64 ((Int.tmod a1 (t202.length : Int)) + (t202.length : Int))) (t202.length : Int))).bind fun t217 => (some (decide (t217 ≥ ((rd_T28 t202 (Int.tmod (wrap64 ((Int.tmod a1 (t202.length : Int)) + (t202.length : Int))) (t202.length : Int))).f2))))) else (some false))) else (some false)) else (none)) else (none)) else (some false))) else (some false)) else (none)) else (none))) else (none))))))))
theorem horariumlaw26_ProbeMore.mono : ∀ a0 a1 a2 k, LeO (horariumlaw26_ProbeMore.f k a0 a1 a2) (horariumlaw26_ProbeMore.f (k + 1) a0 a1 a2) := by
  intro a0 a1 a2 k
  unfold horariumlaw26_ProbeMore.f
  repeat' first
      | (with_reducible exact horariumlaw26_awake.mono _)
      | (with_reducible exact horariumlaw26_made.mono _ _ _)
      | (with_reducible exact probe_LeastT.mono _ _ _)
      | (with_reducible exact probe_MostC.mono _ _ _)
      | (with_reducible exact LeO.refl _)
      | (with_reducible exact LeO.none _)
      | (with_reducible refine LeO.ite ?_ ?_)
      | (with_reducible refine LeO.bind ?_ (fun _ => ?_))
      | exact horariumlaw26_awake.mono _
      | exact horariumlaw26_made.mono _ _ _
      | exact probe_LeastT.mono _ _ _
      | exact probe_MostC.mono _ _ _
      | exact LeO.none _
      | refine LeO.ite ?_ ?_
      | refine LeO.bind ?_ (fun _ => ?_)
def horariumlaw26_ProbeMore.T12 : Bool × List (List Nat × List Nat) := (true, [([], []), ([0], [0]), ([1], [1]), ([1], [1]), ([2, 3, 1, 1], [1, 2, 3]), ([1], [1]), ([4, 5, 1], [1, 4, 5]), ([1, 6], [1, 6]), ([7, 4], [7]), ([8], [8]), ([8], [8]), ([8], [8]), ([10, 11, 8], [8, 10, 11]), ([12, 8], [8, 12]), ([13, 8], [8, 13]), ([9, 14, 8], [8, 9, 14]), ([8, 15], [8, 15]), ([16, 8], [16]), ([17], [17]), ([17], [17]), ([18, 19, 17, 17], [17, 18, 19]), ([17], [17]), ([17], [17]), ([21, 22, 17], [17, 21, 22]), ([23, 17], [17, 23]), ([24, 17], [17, 24]), ([20, 25, 17], [17, 20, 25]), ([17, 26], [17, 26]), ([27, 20], [27]), ([28], [28]), ([28], [28]), ([29, 30, 28, 28], [28, 29, 30]), ([28], [28]), ([28], [28]), ([32, 33, 28], [28, 32, 33]), ([34, 28], [28, 34]), ([35, 28], [28, 35]), ([31, 36, 28], [28, 31, 36]), ([28, 37], [28, 37]), ([38, 31, 0, 1, 2, 3, 4, 5, 6, 7, 8, 9, 10, 11, 12, 13, 14, 15, 16, 17, 18, 19, 20, 21, 22, 23, 24, 25, 26, 27, 28, 29, 30, 31, 32, 33, 34, 35, 36, 37, 38], [38])])
def horariumlaw26_ProbeMore.B12 : List Nat := [0, 1, 3, 3, 15, 3, 63, 127, 255, 511, 511, 511, 3583, 7679, 15871, 32767, 65535, 131071, 262143, 262143, 1048575, 262143, 262143, 6553599, 14942207, 31719423, 67108863, 134217727, 268435455, 536870911, 536870911, 2147483647, 536870911, 536870911, 13421772799, 30601641983, 64961380351, 137438953471, 274877906943, 549755813887]
theorem horariumlaw26_ProbeMore.tab12 : rtab .any (opsOf Try.f8 12) = horariumlaw26_ProbeMore.T12 := by kernel_rfl
theorem horariumlaw26_ProbeMore.bits12 : waitsOk horariumlaw26_ProbeMore.T12.2 horariumlaw26_ProbeMore.B12 = true := by kernel_rfl
set_option maxHeartbeats 8000000 in
set_option maxRecDepth 100000 in
theorem horariumlaw26_ProbeMore.calls (k : Nat) (A0 : Option Addr) (c0 : Nat) (l0 : List (S22)) (a1 : Int) (a2 : Int) (r : Bool) (w : World) (hr0 : Kd.C k22 w A0 l0.length l0) (hc0 : l0.length ≤ c0) (h : horariumlaw26_ProbeMore.f k l0 a1 a2 = some r) (hrt : r = true) :
    Calls Try.prog 8 #[.slice A0 l0.length c0, .int .i64 a1, .int .i64 a2] w fun e w' => e = .returned (.bool r) ∧ Below w.heap.size w w' := by
  have HRT := Lib.hid hrt
  clear hrt
  have HR0 := Aside0.mk hr0
  have HC0 := Aside0.mk hc0
  clear hr0 hc0
  have HB := Aside0.mk (Below.refl w.heap.size w)
  have H : ((horariumlaw26_awake.f k).bind fun t201 => ((horariumlaw26_made.f k l0 true).bind fun t202 => (if (t202.length : Int) < 2 then (some t201) else (if (t202.length : Int) = 0 then (none) else (if (Int.tmod (wrap64 ((Int.tmod a1 (t202.length : Int)) + (t202.length : Int))) (t202.length : Int)) = (Int.tmod (wrap64 ((Int.tmod a2 (t202.length : Int)) + (t202.length : Int))) (t202.length : Int)) then (some t201) else ((probe_MostC.f k t202 (Int.tmod (wrap64 ((Int.tmod a1 (t202.length : Int)) + (t202.length : Int))) (t202.length : Int))).bind fun t205 => ((some (([] : List (S28)) : List (S28))).bind fun y206 => (if y206.length + t202.length < 3518437208883 then ((some (y206 ++ t202 : List (S28))).bind fun y209 => (if 0 ≤ (Int.tmod (wrap64 ((Int.tmod a2 (t202.length : Int)) + (t202.length : Int))) (t202.length : Int)) then (if (Int.tmod (wrap64 ((Int.tmod a2 (t202.length : Int)) + (t202.length : Int))) (t202.length : Int)) < (y209.length : Int) then (if t201 = true then ((probe_MostC.f k (y209.set ((Int.tmod (wrap64 ((Int.tmod a2 (t202.length : Int)) + (t202.length : Int))) (t202.length : Int)) : Int).toNat (⟨(rd_T28 y209 (Int.tmod (wrap64 ((Int.tmod a2 (t202.length : Int)) + (t202.length : Int))) (t202.length : Int))).f0, 1, (rd_T28 y209 (Int.tmod (wrap64 ((Int.tmod a2 (t202.length : Int)) + (t202.length : Int))) (t202.length : Int))).f2, (rd_T28 y209 (Int.tmod (wrap64 ((Int.tmod a2 (t202.length : Int)) + (t202.length : Int))) (t202.length : Int))).f3, (rd_T28 y209 (Int.tmod (wrap64 ((Int.tmod a2 (t202.length : Int)) + (t202.length : Int))) (t202.length : Int))).f4⟩ : S28)) (Int.tmod (wrap64 ((Int.tmod a1 (t202.length : Int)) + (t202.length : Int))) (t202.length : Int))).bind fun t213 => (if t213 ≥ t205 then (if 0 ≤ (Int.tmod (wrap64 ((Int.tmod a1 (t202.length : Int)) + (t202.length : Int))) (t202.length : Int)) then (if (Int.tmod (wrap64 ((Int.tmod a1 (t202.length : Int)) + (t202.length : Int))) (t202.length : Int)) < (t202.length : Int) then (if t205 ≥ ((rd_T28 t202 (Int.tmod (wrap64 ((Int.tmod a1 (t202.length : Int)) + (t202.length : Int))) (t202.length : Int))).f1) then ((probe_LeastT.f k t202 (Int.tmod (wrap64 ((Int.tmod a1 (t202.length : Int)) + (t202.length : Int))) (t202.length : Int))).bind fun t215 => (if t215 ≤ ((rd_T28 t202 (Int.tmod (wrap64 ((Int.tmod a1 (t202.length : Int)) + (t202.length : Int))) (t202.length : Int))).f3) then ((probe_LeastT.f k t202 (Int.tmod (wrap64 ((Int.tmod a1 (t202.length : Int)) + (t202.length : Int))) (t202.length : Int))).bind fun t217 => (some (decide (t217 ≥ ((rd_T28 t202 (Int.tmod (wrap64 ((Int.tmod a1 (t202.length : Int)) + (t202.length : Int))) (t202.length : Int))).f2))))) else (some false))) else (some false)) else (none)) else (none)) else (some false))) else (some false)) else (none)) else (none))) else (none))))))))) = some r := h
  clear h
  replace H := Option.bind_eq_some_iff.mp H
  obtain ⟨t201, A40, H⟩ := H
  replace H : ((horariumlaw26_made.f k l0 true).bind fun t202 => (if (t202.length : Int) < 2 then (some t201) else (if (t202.length : Int) = 0 then (none) else (if (Int.tmod (wrap64 ((Int.tmod a1 (t202.length : Int)) + (t202.length : Int))) (t202.length : Int)) = (Int.tmod (wrap64 ((Int.tmod a2 (t202.length : Int)) + (t202.length : Int))) (t202.length : Int)) then (some t201) else ((probe_MostC.f k t202 (Int.tmod (wrap64 ((Int.tmod a1 (t202.length : Int)) + (t202.length : Int))) (t202.length : Int))).bind fun t205 => ((some (([] : List (S28)) : List (S28))).bind fun y206 => (if y206.length + t202.length < 3518437208883 then ((some (y206 ++ t202 : List (S28))).bind fun y209 => (if 0 ≤ (Int.tmod (wrap64 ((Int.tmod a2 (t202.length : Int)) + (t202.length : Int))) (t202.length : Int)) then (if (Int.tmod (wrap64 ((Int.tmod a2 (t202.length : Int)) + (t202.length : Int))) (t202.length : Int)) < (y209.length : Int) then (if t201 = true then ((probe_MostC.f k (y209.set ((Int.tmod (wrap64 ((Int.tmod a2 (t202.length : Int)) + (t202.length : Int))) (t202.length : Int)) : Int).toNat (⟨(rd_T28 y209 (Int.tmod (wrap64 ((Int.tmod a2 (t202.length : Int)) + (t202.length : Int))) (t202.length : Int))).f0, 1, (rd_T28 y209 (Int.tmod (wrap64 ((Int.tmod a2 (t202.length : Int)) + (t202.length : Int))) (t202.length : Int))).f2, (rd_T28 y209 (Int.tmod (wrap64 ((Int.tmod a2 (t202.length : Int)) + (t202.length : Int))) (t202.length : Int))).f3, (rd_T28 y209 (Int.tmod (wrap64 ((Int.tmod a2 (t202.length : Int)) + (t202.length : Int))) (t202.length : Int))).f4⟩ : S28)) (Int.tmod (wrap64 ((Int.tmod a1 (t202.length : Int)) + (t202.length : Int))) (t202.length : Int))).bind fun t213 => (if t213 ≥ t205 then (if 0 ≤ (Int.tmod (wrap64 ((Int.tmod a1 (t202.length : Int)) + (t202.length : Int))) (t202.length : Int)) then (if (Int.tmod (wrap64 ((Int.tmod a1 (t202.length : Int)) + (t202.length : Int))) (t202.length : Int)) < (t202.length : Int) then (if t205 ≥ ((rd_T28 t202 (Int.tmod (wrap64 ((Int.tmod a1 (t202.length : Int)) + (t202.length : Int))) (t202.length : Int))).f1) then ((probe_LeastT.f k t202 (Int.tmod (wrap64 ((Int.tmod a1 (t202.length : Int)) + (t202.length : Int))) (t202.length : Int))).bind fun t215 => (if t215 ≤ ((rd_T28 t202 (Int.tmod (wrap64 ((Int.tmod a1 (t202.length : Int)) + (t202.length : Int))) (t202.length : Int))).f3) then ((probe_LeastT.f k t202 (Int.tmod (wrap64 ((Int.tmod a1 (t202.length : Int)) + (t202.length : Int))) (t202.length : Int))).bind fun t217 => (some (decide (t217 ≥ ((rd_T28 t202 (Int.tmod (wrap64 ((Int.tmod a1 (t202.length : Int)) + (t202.length : Int))) (t202.length : Int))).f2))))) else (some false))) else (some false)) else (none)) else (none)) else (some false))) else (some false)) else (none)) else (none))) else (none)))))))) = some r := H
  have A4 := Aside0.mk A40
  clear A40
  replace H := Option.bind_eq_some_iff.mp H
  obtain ⟨t202, A50, H⟩ := H
  replace H : (if (t202.length : Int) < 2 then (some t201) else (if (t202.length : Int) = 0 then (none) else (if (Int.tmod (wrap64 ((Int.tmod a1 (t202.length : Int)) + (t202.length : Int))) (t202.length : Int)) = (Int.tmod (wrap64 ((Int.tmod a2 (t202.length : Int)) + (t202.length : Int))) (t202.length : Int)) then (some t201) else ((probe_MostC.f k t202 (Int.tmod (wrap64 ((Int.tmod a1 (t202.length : Int)) + (t202.length : Int))) (t202.length : Int))).bind fun t205 => ((some (([] : List (S28)) : List (S28))).bind fun y206 => (if y206.length + t202.length < 3518437208883 then ((some (y206 ++ t202 : List (S28))).bind fun y209 => (if 0 ≤ (Int.tmod (wrap64 ((Int.tmod a2 (t202.length : Int)) + (t202.length : Int))) (t202.length : Int)) then (if (Int.tmod (wrap64 ((Int.tmod a2 (t202.length : Int)) + (t202.length : Int))) (t202.length : Int)) < (y209.length : Int) then (if t201 = true then ((probe_MostC.f k (y209.set ((Int.tmod (wrap64 ((Int.tmod a2 (t202.length : Int)) + (t202.length : Int))) (t202.length : Int)) : Int).toNat (⟨(rd_T28 y209 (Int.tmod (wrap64 ((Int.tmod a2 (t202.length : Int)) + (t202.length : Int))) (t202.length : Int))).f0, 1, (rd_T28 y209 (Int.tmod (wrap64 ((Int.tmod a2 (t202.length : Int)) + (t202.length : Int))) (t202.length : Int))).f2, (rd_T28 y209 (Int.tmod (wrap64 ((Int.tmod a2 (t202.length : Int)) + (t202.length : Int))) (t202.length : Int))).f3, (rd_T28 y209 (Int.tmod (wrap64 ((Int.tmod a2 (t202.length : Int)) + (t202.length : Int))) (t202.length : Int))).f4⟩ : S28)) (Int.tmod (wrap64 ((Int.tmod a1 (t202.length : Int)) + (t202.length : Int))) (t202.length : Int))).bind fun t213 => (if t213 ≥ t205 then (if 0 ≤ (Int.tmod (wrap64 ((Int.tmod a1 (t202.length : Int)) + (t202.length : Int))) (t202.length : Int)) then (if (Int.tmod (wrap64 ((Int.tmod a1 (t202.length : Int)) + (t202.length : Int))) (t202.length : Int)) < (t202.length : Int) then (if t205 ≥ ((rd_T28 t202 (Int.tmod (wrap64 ((Int.tmod a1 (t202.length : Int)) + (t202.length : Int))) (t202.length : Int))).f1) then ((probe_LeastT.f k t202 (Int.tmod (wrap64 ((Int.tmod a1 (t202.length : Int)) + (t202.length : Int))) (t202.length : Int))).bind fun t215 => (if t215 ≤ ((rd_T28 t202 (Int.tmod (wrap64 ((Int.tmod a1 (t202.length : Int)) + (t202.length : Int))) (t202.length : Int))).f3) then ((probe_LeastT.f k t202 (Int.tmod (wrap64 ((Int.tmod a1 (t202.length : Int)) + (t202.length : Int))) (t202.length : Int))).bind fun t217 => (some (decide (t217 ≥ ((rd_T28 t202 (Int.tmod (wrap64 ((Int.tmod a1 (t202.length : Int)) + (t202.length : Int))) (t202.length : Int))).f2))))) else (some false))) else (some false)) else (none)) else (none)) else (some false))) else (some false)) else (none)) else (none))) else (none))))))) = some r := H
  have A5 := Aside0.mk A50
  clear A50
  by_cases c6 : (t202.length : Int) < 2
  · rw [if_pos c6] at H
    have c6b0 : decide ((t202.length : Int) < 2) = true := decide_eq_true c6
    have c6b1 : decide (t202.length < 2) = true := decide_eq_true (by omega)
    clear c6
    obtain rfl := Option.some.inj H
    go_enter Try.func8, Try.ntmps8
    go_wp2_with (first | ((with_reducible refine gate_callee (f := 18) rfl ?_); refine goesL_ (some 13) rfl rfl Try.func18 (by kernel_rfl) rfl #[] rfl (by (try simp only [List.map_toArray, List.map_cons, List.map_nil]); first | done | rfl | (simp only [List.length_drop, List.length_take]; rfl)) ?_; (with_reducible refine (horariumlaw26_awake.calls k  t201 _ A4.out).mono ?_); rintro e w7 ⟨rfl, hb⟩; refine ⟨_, rfl, ?_⟩; have n0_ := Aside0.mk (below_step (by repeat (first | (with_reducible first | exact HB.out | apply below_alloc | apply pw_below_drewN | apply below_drew1) | exact HB.out)) hb); clear HB; have HB := n0_; clear n0_; (try clear hb); (try clear hb2); (try clear hk); (try clear hi)) | ((with_reducible refine gate_callee (f := 19) rfl ?_); refine goesL_ (some 15) rfl rfl Try.func19 (by kernel_rfl) rfl #[.slice A0 l0.length c0, .bool true] rfl (by (try simp only [List.map_toArray, List.map_cons, List.map_nil]); first | done | rfl | (simp only [List.length_drop, List.length_take]; rfl)) ?_; (with_reducible refine (horariumlaw26_made.calls k _ _ l0 true t202 _ ?side1 ?side2 A5.out).mono ?_); (case side1 => repeat (first | exact (Kd.C_below HR0.out HB.out) | (with_reducible refine Kd.C_alloc ?_ _) | (with_reducible refine Kd.C_drewN ?_ _) | (with_reducible refine Kd.C_drew ?_))); (case side2 => exact HC0.out); rintro e w8 ⟨v203, rfl, ho0, hb⟩; refine ⟨_, rfl, ?_⟩; have n0_ := Aside0.mk (Kd.R_lower ho0 (below_size (by repeat (first | (with_reducible first | exact HB.out | apply below_alloc | apply pw_below_drewN | apply below_drew1) | exact HB.out)))); have n1_ := Aside0.mk (below_step (by repeat (first | (with_reducible first | exact HB.out | apply below_alloc | apply pw_below_drewN | apply below_drew1) | exact HB.out)) hb); clear HB; have HO204 := n0_; have HB := n1_; clear n0_ n1_; (try clear hb); (try clear hb2); (try clear hk); (try clear hi); (try clear ho0); obtain ⟨Ao9, co9, eo9⟩ := Kd.R_slice HO204.out; subst eo9))
    go_ret
    exact ⟨by first | rfl | (simp [errW_none, errW_some] <;> rfl) | (simp [*, errW_none, errW_some] <;> rfl), by repeat (first | (with_reducible first | exact HB.out | apply below_alloc | apply pw_below_drewN | apply below_drew1) | exact HB.out)⟩
  · rw [if_neg c6] at H
    have c6b0 : decide ((t202.length : Int) < 2) = false := decide_eq_false c6
    have c6b1 : decide (t202.length < 2) = false := decide_eq_false (by omega)
    clear c6
    by_cases c10 : (t202.length : Int) = 0
    · rw [if_pos c10] at H
      exact absurd H (by simp)
    · rw [if_neg c10] at H
      have c10b0 : ((t202.length : Int) == 0) = false := beq_eq_false_iff_ne.mpr c10
      have c10b1 : ((t202.length : Int) != 0) = true := bne_iff_ne.mpr c10
      have c10b2 : ¬ (t202 = []) := fun h_ => c10 (by rw [h_]; rfl)
      by_cases c11 : (Int.tmod (wrap64 ((Int.tmod a1 (t202.length : Int)) + (t202.length : Int))) (t202.length : Int)) = (Int.tmod (wrap64 ((Int.tmod a2 (t202.length : Int)) + (t202.length : Int))) (t202.length : Int))
      · rw [if_pos c11] at H
        have c11b0 : ((Int.tmod (wrap64 ((Int.tmod a1 (t202.length : Int)) + (t202.length : Int))) (t202.length : Int)) == (Int.tmod (wrap64 ((Int.tmod a2 (t202.length : Int)) + (t202.length : Int))) (t202.length : Int))) = true := beq_iff_eq.mpr c11
        have c11b1 : ((Int.tmod (wrap64 ((Int.tmod a1 (t202.length : Int)) + (t202.length : Int))) (t202.length : Int)) != (Int.tmod (wrap64 ((Int.tmod a2 (t202.length : Int)) + (t202.length : Int))) (t202.length : Int))) = false := bne_eq_false_iff_eq.mpr c11
        clear c11
        obtain rfl := Option.some.inj H
        go_enter Try.func8, Try.ntmps8
        go_wp2_with (first | ((with_reducible refine gate_callee (f := 18) rfl ?_); refine goesL_ (some 13) rfl rfl Try.func18 (by kernel_rfl) rfl #[] rfl (by (try simp only [List.map_toArray, List.map_cons, List.map_nil]); first | done | rfl | (simp only [List.length_drop, List.length_take]; rfl)) ?_; (with_reducible refine (horariumlaw26_awake.calls k  t201 _ A4.out).mono ?_); rintro e w12 ⟨rfl, hb⟩; refine ⟨_, rfl, ?_⟩; have n0_ := Aside0.mk (below_step (by repeat (first | (with_reducible first | exact HB.out | apply below_alloc | apply pw_below_drewN | apply below_drew1) | exact HB.out)) hb); clear HB; have HB := n0_; clear n0_; (try clear hb); (try clear hb2); (try clear hk); (try clear hi)) | ((with_reducible refine gate_callee (f := 19) rfl ?_); refine goesL_ (some 15) rfl rfl Try.func19 (by kernel_rfl) rfl #[.slice A0 l0.length c0, .bool true] rfl (by (try simp only [List.map_toArray, List.map_cons, List.map_nil]); first | done | rfl | (simp only [List.length_drop, List.length_take]; rfl)) ?_; (with_reducible refine (horariumlaw26_made.calls k _ _ l0 true t202 _ ?side1 ?side2 A5.out).mono ?_); (case side1 => repeat (first | exact (Kd.C_below HR0.out HB.out) | (with_reducible refine Kd.C_alloc ?_ _) | (with_reducible refine Kd.C_drewN ?_ _) | (with_reducible refine Kd.C_drew ?_))); (case side2 => exact HC0.out); rintro e w13 ⟨v203, rfl, ho0, hb⟩; refine ⟨_, rfl, ?_⟩; have n0_ := Aside0.mk (Kd.R_lower ho0 (below_size (by repeat (first | (with_reducible first | exact HB.out | apply below_alloc | apply pw_below_drewN | apply below_drew1) | exact HB.out)))); have n1_ := Aside0.mk (below_step (by repeat (first | (with_reducible first | exact HB.out | apply below_alloc | apply pw_below_drewN | apply below_drew1) | exact HB.out)) hb); clear HB; have HO204 := n0_; have HB := n1_; clear n0_ n1_; (try clear hb); (try clear hb2); (try clear hk); (try clear hi); (try clear ho0); obtain ⟨Ao14, co14, eo14⟩ := Kd.R_slice HO204.out; subst eo14))
        go_ret
        exact ⟨by first | rfl | (simp [errW_none, errW_some] <;> rfl) | (simp [*, errW_none, errW_some] <;> rfl), by repeat (first | (with_reducible first | exact HB.out | apply below_alloc | apply pw_below_drewN | apply below_drew1) | exact HB.out)⟩
      · rw [if_neg c11] at H
        have c11b0 : ((Int.tmod (wrap64 ((Int.tmod a1 (t202.length : Int)) + (t202.length : Int))) (t202.length : Int)) == (Int.tmod (wrap64 ((Int.tmod a2 (t202.length : Int)) + (t202.length : Int))) (t202.length : Int))) = false := beq_eq_false_iff_ne.mpr c11
        have c11b1 : ((Int.tmod (wrap64 ((Int.tmod a1 (t202.length : Int)) + (t202.length : Int))) (t202.length : Int)) != (Int.tmod (wrap64 ((Int.tmod a2 (t202.length : Int)) + (t202.length : Int))) (t202.length : Int))) = true := bne_iff_ne.mpr c11
        replace H := Option.bind_eq_some_iff.mp H
        obtain ⟨t205, A150, H⟩ := H
        replace H : ((some (([] : List (S28)) : List (S28))).bind fun y206 => (if y206.length + t202.length < 3518437208883 then ((some (y206 ++ t202 : List (S28))).bind fun y209 => (if 0 ≤ (Int.tmod (wrap64 ((Int.tmod a2 (t202.length : Int)) + (t202.length : Int))) (t202.length : Int)) then (if (Int.tmod (wrap64 ((Int.tmod a2 (t202.length : Int)) + (t202.length : Int))) (t202.length : Int)) < (y209.length : Int) then (if t201 = true then ((probe_MostC.f k (y209.set ((Int.tmod (wrap64 ((Int.tmod a2 (t202.length : Int)) + (t202.length : Int))) (t202.length : Int)) : Int).toNat (⟨(rd_T28 y209 (Int.tmod (wrap64 ((Int.tmod a2 (t202.length : Int)) + (t202.length : Int))) (t202.length : Int))).f0, 1, (rd_T28 y209 (Int.tmod (wrap64 ((Int.tmod a2 (t202.length : Int)) + (t202.length : Int))) (t202.length : Int))).f2, (rd_T28 y209 (Int.tmod (wrap64 ((Int.tmod a2 (t202.length : Int)) + (t202.length : Int))) (t202.length : Int))).f3, (rd_T28 y209 (Int.tmod (wrap64 ((Int.tmod a2 (t202.length : Int)) + (t202.length : Int))) (t202.length : Int))).f4⟩ : S28)) (Int.tmod (wrap64 ((Int.tmod a1 (t202.length : Int)) + (t202.length : Int))) (t202.length : Int))).bind fun t213 => (if t213 ≥ t205 then (if 0 ≤ (Int.tmod (wrap64 ((Int.tmod a1 (t202.length : Int)) + (t202.length : Int))) (t202.length : Int)) then (if (Int.tmod (wrap64 ((Int.tmod a1 (t202.length : Int)) + (t202.length : Int))) (t202.length : Int)) < (t202.length : Int) then (if t205 ≥ ((rd_T28 t202 (Int.tmod (wrap64 ((Int.tmod a1 (t202.length : Int)) + (t202.length : Int))) (t202.length : Int))).f1) then ((probe_LeastT.f k t202 (Int.tmod (wrap64 ((Int.tmod a1 (t202.length : Int)) + (t202.length : Int))) (t202.length : Int))).bind fun t215 => (if t215 ≤ ((rd_T28 t202 (Int.tmod (wrap64 ((Int.tmod a1 (t202.length : Int)) + (t202.length : Int))) (t202.length : Int))).f3) then ((probe_LeastT.f k t202 (Int.tmod (wrap64 ((Int.tmod a1 (t202.length : Int)) + (t202.length : Int))) (t202.length : Int))).bind fun t217 => (some (decide (t217 ≥ ((rd_T28 t202 (Int.tmod (wrap64 ((Int.tmod a1 (t202.length : Int)) + (t202.length : Int))) (t202.length : Int))).f2))))) else (some false))) else (some false)) else (none)) else (none)) else (some false))) else (some false)) else (none)) else (none))) else (none))) = some r := H
        have A15 := Aside0.mk A150
        clear A150
        obtain ⟨y206, hy206⟩ : ∃ y_ : List (S28), y_ = (([] : List (S28))) := ⟨_, rfl⟩
        replace H : (if y206.length + t202.length < 3518437208883 then ((some (y206 ++ t202 : List (S28))).bind fun y209 => (if 0 ≤ (Int.tmod (wrap64 ((Int.tmod a2 (t202.length : Int)) + (t202.length : Int))) (t202.length : Int)) then (if (Int.tmod (wrap64 ((Int.tmod a2 (t202.length : Int)) + (t202.length : Int))) (t202.length : Int)) < (y209.length : Int) then (if t201 = true then ((probe_MostC.f k (y209.set ((Int.tmod (wrap64 ((Int.tmod a2 (t202.length : Int)) + (t202.length : Int))) (t202.length : Int)) : Int).toNat (⟨(rd_T28 y209 (Int.tmod (wrap64 ((Int.tmod a2 (t202.length : Int)) + (t202.length : Int))) (t202.length : Int))).f0, 1, (rd_T28 y209 (Int.tmod (wrap64 ((Int.tmod a2 (t202.length : Int)) + (t202.length : Int))) (t202.length : Int))).f2, (rd_T28 y209 (Int.tmod (wrap64 ((Int.tmod a2 (t202.length : Int)) + (t202.length : Int))) (t202.length : Int))).f3, (rd_T28 y209 (Int.tmod (wrap64 ((Int.tmod a2 (t202.length : Int)) + (t202.length : Int))) (t202.length : Int))).f4⟩ : S28)) (Int.tmod (wrap64 ((Int.tmod a1 (t202.length : Int)) + (t202.length : Int))) (t202.length : Int))).bind fun t213 => (if t213 ≥ t205 then (if 0 ≤ (Int.tmod (wrap64 ((Int.tmod a1 (t202.length : Int)) + (t202.length : Int))) (t202.length : Int)) then (if (Int.tmod (wrap64 ((Int.tmod a1 (t202.length : Int)) + (t202.length : Int))) (t202.length : Int)) < (t202.length : Int) then (if t205 ≥ ((rd_T28 t202 (Int.tmod (wrap64 ((Int.tmod a1 (t202.length : Int)) + (t202.length : Int))) (t202.length : Int))).f1) then ((probe_LeastT.f k t202 (Int.tmod (wrap64 ((Int.tmod a1 (t202.length : Int)) + (t202.length : Int))) (t202.length : Int))).bind fun t215 => (if t215 ≤ ((rd_T28 t202 (Int.tmod (wrap64 ((Int.tmod a1 (t202.length : Int)) + (t202.length : Int))) (t202.length : Int))).f3) then ((probe_LeastT.f k t202 (Int.tmod (wrap64 ((Int.tmod a1 (t202.length : Int)) + (t202.length : Int))) (t202.length : Int))).bind fun t217 => (some (decide (t217 ≥ ((rd_T28 t202 (Int.tmod (wrap64 ((Int.tmod a1 (t202.length : Int)) + (t202.length : Int))) (t202.length : Int))).f2))))) else (some false))) else (some false)) else (none)) else (none)) else (some false))) else (some false)) else (none)) else (none))) else (none)) = some r := by first | (rw [hy206]; with_reducible exact H) | (have H2_ := (Option.bind_some _ _).symm.trans H; rw [hy206]; with_reducible exact H2_) | (have H2_ := (Option.bind_some _ _).symm.trans H; with_reducible exact H2_) | with_reducible exact H | (rw [hy206]; exact H) | exact H
        have Ny206 := Aside0.mk hy206
        clear hy206
        by_cases c16 : y206.length + t202.length < 3518437208883
        · rw [if_pos c16] at H
          have LMc16 := Aside0.mk c16
          clear c16
          obtain ⟨y209, hy209⟩ : ∃ y_ : List (S28), y_ = (y206 ++ t202) := ⟨_, rfl⟩
          replace H : (if 0 ≤ (Int.tmod (wrap64 ((Int.tmod a2 (t202.length : Int)) + (t202.length : Int))) (t202.length : Int)) then (if (Int.tmod (wrap64 ((Int.tmod a2 (t202.length : Int)) + (t202.length : Int))) (t202.length : Int)) < (y209.length : Int) then (if t201 = true then ((probe_MostC.f k (y209.set ((Int.tmod (wrap64 ((Int.tmod a2 (t202.length : Int)) + (t202.length : Int))) (t202.length : Int)) : Int).toNat (⟨(rd_T28 y209 (Int.tmod (wrap64 ((Int.tmod a2 (t202.length : Int)) + (t202.length : Int))) (t202.length : Int))).f0, 1, (rd_T28 y209 (Int.tmod (wrap64 ((Int.tmod a2 (t202.length : Int)) + (t202.length : Int))) (t202.length : Int))).f2, (rd_T28 y209 (Int.tmod (wrap64 ((Int.tmod a2 (t202.length : Int)) + (t202.length : Int))) (t202.length : Int))).f3, (rd_T28 y209 (Int.tmod (wrap64 ((Int.tmod a2 (t202.length : Int)) + (t202.length : Int))) (t202.length : Int))).f4⟩ : S28)) (Int.tmod (wrap64 ((Int.tmod a1 (t202.length : Int)) + (t202.length : Int))) (t202.length : Int))).bind fun t213 => (if t213 ≥ t205 then (if 0 ≤ (Int.tmod (wrap64 ((Int.tmod a1 (t202.length : Int)) + (t202.length : Int))) (t202.length : Int)) then (if (Int.tmod (wrap64 ((Int.tmod a1 (t202.length : Int)) + (t202.length : Int))) (t202.length : Int)) < (t202.length : Int) then (if t205 ≥ ((rd_T28 t202 (Int.tmod (wrap64 ((Int.tmod a1 (t202.length : Int)) + (t202.length : Int))) (t202.length : Int))).f1) then ((probe_LeastT.f k t202 (Int.tmod (wrap64 ((Int.tmod a1 (t202.length : Int)) + (t202.length : Int))) (t202.length : Int))).bind fun t215 => (if t215 ≤ ((rd_T28 t202 (Int.tmod (wrap64 ((Int.tmod a1 (t202.length : Int)) + (t202.length : Int))) (t202.length : Int))).f3) then ((probe_LeastT.f k t202 (Int.tmod (wrap64 ((Int.tmod a1 (t202.length : Int)) + (t202.length : Int))) (t202.length : Int))).bind fun t217 => (some (decide (t217 ≥ ((rd_T28 t202 (Int.tmod (wrap64 ((Int.tmod a1 (t202.length : Int)) + (t202.length : Int))) (t202.length : Int))).f2))))) else (some false))) else (some false)) else (none)) else (none)) else (some false))) else (some false)) else (none)) else (none)) = some r := by first | (rw [hy209]; with_reducible exact H) | (have H2_ := (Option.bind_some _ _).symm.trans H; rw [hy209]; with_reducible exact H2_) | (have H2_ := (Option.bind_some _ _).symm.trans H; with_reducible exact H2_) | with_reducible exact H | (rw [hy209]; exact H) | exact H
          have Ny209 := Aside0.mk hy209
          clear hy209
          obtain ⟨ji17, hji17⟩ : ∃ j_ : Int, (Int.tmod (wrap64 ((Int.tmod a2 (t202.length : Int)) + (t202.length : Int))) (t202.length : Int)) = j_ := ⟨_, rfl⟩
          replace H : (if 0 ≤ (ji17) then (if (ji17) < (y209.length : Int) then (if t201 = true then ((probe_MostC.f k (y209.set ((ji17) : Int).toNat (⟨(rd_T28 y209 (ji17)).f0, 1, (rd_T28 y209 (ji17)).f2, (rd_T28 y209 (ji17)).f3, (rd_T28 y209 (ji17)).f4⟩ : S28)) (Int.tmod (wrap64 ((Int.tmod a1 (t202.length : Int)) + (t202.length : Int))) (t202.length : Int))).bind fun t213 => (if t213 ≥ t205 then (if 0 ≤ (Int.tmod (wrap64 ((Int.tmod a1 (t202.length : Int)) + (t202.length : Int))) (t202.length : Int)) then (if (Int.tmod (wrap64 ((Int.tmod a1 (t202.length : Int)) + (t202.length : Int))) (t202.length : Int)) < (t202.length : Int) then (if t205 ≥ ((rd_T28 t202 (Int.tmod (wrap64 ((Int.tmod a1 (t202.length : Int)) + (t202.length : Int))) (t202.length : Int))).f1) then ((probe_LeastT.f k t202 (Int.tmod (wrap64 ((Int.tmod a1 (t202.length : Int)) + (t202.length : Int))) (t202.length : Int))).bind fun t215 => (if t215 ≤ ((rd_T28 t202 (Int.tmod (wrap64 ((Int.tmod a1 (t202.length : Int)) + (t202.length : Int))) (t202.length : Int))).f3) then ((probe_LeastT.f k t202 (Int.tmod (wrap64 ((Int.tmod a1 (t202.length : Int)) + (t202.length : Int))) (t202.length : Int))).bind fun t217 => (some (decide (t217 ≥ ((rd_T28 t202 (Int.tmod (wrap64 ((Int.tmod a1 (t202.length : Int)) + (t202.length : Int))) (t202.length : Int))).f2))))) else (some false))) else (some false)) else (none)) else (none)) else (some false))) else (some false)) else (none)) else (none)) = some r := by first | (rw [hji17] at H; exact H) | (simp only [hji17] at H ⊢; exact H)
          (try rw [hji17] at c11b0)
          (try rw [hji17] at c11b1)
          (try rw [hji17] at A4)
          (try rw [hji17] at A5)
          (try rw [hji17] at A15)
          by_cases c18 : 0 ≤ (ji17)
          · rw [if_pos c18] at H
            have c18b0 : decide (0 ≤ (ji17)) = true := decide_eq_true c18
            clear c18
            by_cases c19 : (ji17) < (y209.length : Int)
            · rw [if_pos c19] at H
              have c19b0 : decide ((ji17) < (y209.length : Int)) = true := decide_eq_true c19
              clear c19
              obtain ⟨y212, hy212⟩ : ∃ y_ : List (S28), y_ = (y209.set ((ji17) : Int).toNat (⟨(rd_T28 y209 (ji17)).f0, 1, (rd_T28 y209 (ji17)).f2, (rd_T28 y209 (ji17)).f3, (rd_T28 y209 (ji17)).f4⟩ : S28)) := ⟨_, rfl⟩
              replace H : (if t201 = true then ((probe_MostC.f k y212 (Int.tmod (wrap64 ((Int.tmod a1 (t202.length : Int)) + (t202.length : Int))) (t202.length : Int))).bind fun t213 => (if t213 ≥ t205 then (if 0 ≤ (Int.tmod (wrap64 ((Int.tmod a1 (t202.length : Int)) + (t202.length : Int))) (t202.length : Int)) then (if (Int.tmod (wrap64 ((Int.tmod a1 (t202.length : Int)) + (t202.length : Int))) (t202.length : Int)) < (t202.length : Int) then (if t205 ≥ ((rd_T28 t202 (Int.tmod (wrap64 ((Int.tmod a1 (t202.length : Int)) + (t202.length : Int))) (t202.length : Int))).f1) then ((probe_LeastT.f k t202 (Int.tmod (wrap64 ((Int.tmod a1 (t202.length : Int)) + (t202.length : Int))) (t202.length : Int))).bind fun t215 => (if t215 ≤ ((rd_T28 t202 (Int.tmod (wrap64 ((Int.tmod a1 (t202.length : Int)) + (t202.length : Int))) (t202.length : Int))).f3) then ((probe_LeastT.f k t202 (Int.tmod (wrap64 ((Int.tmod a1 (t202.length : Int)) + (t202.length : Int))) (t202.length : Int))).bind fun t217 => (some (decide (t217 ≥ ((rd_T28 t202 (Int.tmod (wrap64 ((Int.tmod a1 (t202.length : Int)) + (t202.length : Int))) (t202.length : Int))).f2))))) else (some false))) else (some false)) else (none)) else (none)) else (some false))) else (some false)) = some r := by first | (rw [hy212]; with_reducible exact H) | (have H2_ := (Option.bind_some _ _).symm.trans H; rw [hy212]; with_reducible exact H2_) | (have H2_ := (Option.bind_some _ _).symm.trans H; with_reducible exact H2_) | with_reducible exact H | (rw [hy212]; exact H) | exact H
              have Ny212 := Aside0.mk hy212
              clear hy212
              by_cases c21 : t201 = true
              · subst c21
                have H1 : ((probe_MostC.f k y212 (Int.tmod (wrap64 ((Int.tmod a1 (t202.length : Int)) + (t202.length : Int))) (t202.length : Int))).bind fun t213 => (if t213 ≥ t205 then (if 0 ≤ (Int.tmod (wrap64 ((Int.tmod a1 (t202.length : Int)) + (t202.length : Int))) (t202.length : Int)) then (if (Int.tmod (wrap64 ((Int.tmod a1 (t202.length : Int)) + (t202.length : Int))) (t202.length : Int)) < (t202.length : Int) then (if t205 ≥ ((rd_T28 t202 (Int.tmod (wrap64 ((Int.tmod a1 (t202.length : Int)) + (t202.length : Int))) (t202.length : Int))).f1) then ((probe_LeastT.f k t202 (Int.tmod (wrap64 ((Int.tmod a1 (t202.length : Int)) + (t202.length : Int))) (t202.length : Int))).bind fun t215 => (if t215 ≤ ((rd_T28 t202 (Int.tmod (wrap64 ((Int.tmod a1 (t202.length : Int)) + (t202.length : Int))) (t202.length : Int))).f3) then ((probe_LeastT.f k t202 (Int.tmod (wrap64 ((Int.tmod a1 (t202.length : Int)) + (t202.length : Int))) (t202.length : Int))).bind fun t217 => (some (decide (t217 ≥ ((rd_T28 t202 (Int.tmod (wrap64 ((Int.tmod a1 (t202.length : Int)) + (t202.length : Int))) (t202.length : Int))).f2))))) else (some false))) else (some false)) else (none)) else (none)) else (some false))) = some r := by rw [if_pos rfl] at H; exact H
                clear H
                have H := H1
                clear H1
                replace H := Option.bind_eq_some_iff.mp H
                obtain ⟨t213, A220, H⟩ := H
                replace H : (if t213 ≥ t205 then (if 0 ≤ (Int.tmod (wrap64 ((Int.tmod a1 (t202.length : Int)) + (t202.length : Int))) (t202.length : Int)) then (if (Int.tmod (wrap64 ((Int.tmod a1 (t202.length : Int)) + (t202.length : Int))) (t202.length : Int)) < (t202.length : Int) then (if t205 ≥ ((rd_T28 t202 (Int.tmod (wrap64 ((Int.tmod a1 (t202.length : Int)) + (t202.length : Int))) (t202.length : Int))).f1) then ((probe_LeastT.f k t202 (Int.tmod (wrap64 ((Int.tmod a1 (t202.length : Int)) + (t202.length : Int))) (t202.length : Int))).bind fun t215 => (if t215 ≤ ((rd_T28 t202 (Int.tmod (wrap64 ((Int.tmod a1 (t202.length : Int)) + (t202.length : Int))) (t202.length : Int))).f3) then ((probe_LeastT.f k t202 (Int.tmod (wrap64 ((Int.tmod a1 (t202.length : Int)) + (t202.length : Int))) (t202.length : Int))).bind fun t217 => (some (decide (t217 ≥ ((rd_T28 t202 (Int.tmod (wrap64 ((Int.tmod a1 (t202.length : Int)) + (t202.length : Int))) (t202.length : Int))).f2))))) else (some false))) else (some false)) else (none)) else (none)) else (some false)) = some r := H
                have A22 := Aside0.mk A220
                clear A220
                by_cases c23 : t213 ≥ t205
                · rw [if_pos c23] at H
                  have c23b0 : decide (t205 ≤ t213) = true := decide_eq_true c23
                  clear c23
                  obtain ⟨ji24, hji24⟩ : ∃ j_ : Int, (Int.tmod (wrap64 ((Int.tmod a1 (t202.length : Int)) + (t202.length : Int))) (t202.length : Int)) = j_ := ⟨_, rfl⟩
                  replace H : (if 0 ≤ (ji24) then (if (ji24) < (t202.length : Int) then (if t205 ≥ ((rd_T28 t202 (ji24)).f1) then ((probe_LeastT.f k t202 (ji24)).bind fun t215 => (if t215 ≤ ((rd_T28 t202 (ji24)).f3) then ((probe_LeastT.f k t202 (ji24)).bind fun t217 => (some (decide (t217 ≥ ((rd_T28 t202 (ji24)).f2))))) else (some false))) else (some false)) else (none)) else (none)) = some r := by first | (rw [hji24] at H; exact H) | (simp only [hji24] at H ⊢; exact H)
                  (try rw [hji24] at c11b0)
                  (try rw [hji24] at c11b1)
                  (try rw [hji24] at A4)
                  (try rw [hji24] at A5)
                  (try rw [hji24] at A15)
                  (try rw [hji24] at A22)
                  by_cases c25 : 0 ≤ (ji24)
                  · rw [if_pos c25] at H
                    have c25b0 : decide (0 ≤ (ji24)) = true := decide_eq_true c25
                    clear c25
                    by_cases c26 : (ji24) < (t202.length : Int)
                    · rw [if_pos c26] at H
                      have c26b0 : decide ((ji24) < (t202.length : Int)) = true := decide_eq_true c26
                      clear c26
                      by_cases c27 : t205 ≥ ((rd_T28 t202 (ji24)).f1)
                      · rw [if_pos c27] at H
                        have c27b0 : decide (((rd_T28 t202 (ji24)).f1) ≤ t205) = true := decide_eq_true c27
                        clear c27
                        replace H := Option.bind_eq_some_iff.mp H
                        obtain ⟨t215, A280, H⟩ := H
                        replace H : (if t215 ≤ ((rd_T28 t202 (ji24)).f3) then ((probe_LeastT.f k t202 (ji24)).bind fun t217 => (some (decide (t217 ≥ ((rd_T28 t202 (ji24)).f2))))) else (some false)) = some r := H
                        have A28 := Aside0.mk A280
                        clear A280
                        by_cases c29 : t215 ≤ ((rd_T28 t202 (ji24)).f3)
                        · rw [if_pos c29] at H
                          have c29b0 : decide (t215 ≤ ((rd_T28 t202 (ji24)).f3)) = true := decide_eq_true c29
                          clear c29
                          replace H := Option.bind_eq_some_iff.mp H
                          obtain ⟨t217, A300, H⟩ := H
                          replace H : (some (decide (t217 ≥ ((rd_T28 t202 (ji24)).f2)))) = some r := H
                          have A30 := Aside0.mk A300
                          clear A300
                          obtain rfl := Option.some.inj H
                          go_enter Try.func8, Try.ntmps8
                          try go_wp2_with (first | ((with_reducible refine gate_callee (f := 18) rfl ?_); refine goesL_ (some 13) rfl rfl Try.func18 (by kernel_rfl) rfl #[] rfl (by (try simp only [List.map_toArray, List.map_cons, List.map_nil]); first | done | rfl | (simp only [List.length_drop, List.length_take]; rfl)) ?_; (with_reducible refine (horariumlaw26_awake.calls k  true _ A4.out).mono ?_); rintro e w31 ⟨rfl, hb⟩; refine ⟨_, rfl, ?_⟩; have n0_ := Aside0.mk (below_step (by repeat (first | (with_reducible first | exact HB.out | apply below_alloc | apply pw_below_drewN | apply below_drew1) | exact HB.out)) hb); clear HB; have HB := n0_; clear n0_; (try clear hb); (try clear hb2); (try clear hk); (try clear hi)) | ((with_reducible refine gate_callee (f := 19) rfl ?_); refine goesL_ (some 15) rfl rfl Try.func19 (by kernel_rfl) rfl #[.slice A0 l0.length c0, .bool true] rfl (by (try simp only [List.map_toArray, List.map_cons, List.map_nil]); first | done | rfl | (simp only [List.length_drop, List.length_take]; rfl)) ?_; (with_reducible refine (horariumlaw26_made.calls k _ _ l0 true t202 _ ?side1 ?side2 A5.out).mono ?_); (case side1 => repeat (first | exact (Kd.C_below HR0.out HB.out) | (with_reducible refine Kd.C_alloc ?_ _) | (with_reducible refine Kd.C_drewN ?_ _) | (with_reducible refine Kd.C_drew ?_))); (case side2 => exact HC0.out); rintro e w32 ⟨v203, rfl, ho0, hb⟩; refine ⟨_, rfl, ?_⟩; have n0_ := Aside0.mk (Kd.R_lower ho0 (below_size (by repeat (first | (with_reducible first | exact HB.out | apply below_alloc | apply pw_below_drewN | apply below_drew1) | exact HB.out)))); have n1_ := Aside0.mk (below_step (by repeat (first | (with_reducible first | exact HB.out | apply below_alloc | apply pw_below_drewN | apply below_drew1) | exact HB.out)) hb); clear HB; have HO204 := n0_; have HB := n1_; clear n0_ n1_; (try clear hb); (try clear hb2); (try clear hk); (try clear hi); (try clear ho0); obtain ⟨Ao33, co33, eo33⟩ := Kd.R_slice HO204.out; subst eo33) | ((with_reducible refine gate_callee (f := 20) rfl ?_); refine goesL_ (some 46) rfl rfl Try.func20 (by kernel_rfl) rfl #[.slice Ao33 t202.length co33, .int .i64 ji24] rfl (by (try simp only [List.map_toArray, List.map_cons, List.map_nil]); first | done | (simp only [hji24]; rfl) | rfl | (simp only [List.length_drop, List.length_take]; rfl)) ?_; (with_reducible refine (probe_MostC.calls k _ _ t202 ji24 t205 _ ?side1 ?side2 A15.out).mono ?_); (case side1 => repeat (first | exact (Kd.R_reads' HO204.out).2.2 | (with_reducible refine Kd.C_alloc ?_ _) | (with_reducible refine Kd.C_drewN ?_ _) | (with_reducible refine Kd.C_drew ?_))); (case side2 => exact (Kd.R_reads' HO204.out).2.1); rintro e w34 ⟨rfl, hb⟩; refine ⟨_, rfl, ?_⟩; have n0_ := Aside0.mk (Kd.R_below (by (with_reducible repeat (first | apply Kd.R_alloc | apply Kd.R_drewN | apply Kd.R_drew)); exact HO204.out) hb); have n1_ := Aside0.mk (below_step (by repeat (first | (with_reducible first | exact HB.out | apply below_alloc | apply pw_below_drewN | apply below_drew1) | exact HB.out)) hb); clear HO204; clear HB; have HO204 := n0_; have HB := n1_; clear n0_ n1_; (try clear hb); (try clear hb2); (try clear hk); (try clear hi)) | ((with_reducible refine gate_dst (N := 47) rfl ?_); refine Kd.R_lit k28 _ 28 ?hg (N := 47) ?hd (xs := ([] : List (S28))) (inner := []) (ok := fun _ => True) (okp := fun _ => True) ?hr ?hp (fun _ hk => hk) trivial (Below.refl _ _) (Nat.le_refl _) (by simp) ?_; (case hd => rfl); (case hg => rfl); (case hr => first | (go_simp; done) | (go_simp; rfl)); (case hp => exact (Reps.none _ _)); intro v207 w35 ho36 hb hg_ hnew_; clear hg_ hnew_; (first | rw [← Ny206.out] at ho36 | (simp only [Int.reduceToNat] at ho36; rw [← Ny206.out] at ho36)); have n0_ := Aside0.mk (Kd.R_elder' (by (with_reducible repeat (first | apply Kd.R_alloc | apply Kd.R_drewN | apply Kd.R_drew)); exact HO204.out) (Kd.R_base ho36) hb); have n1_ := Aside0.mk (Kd.R_lower (Kd.R_new' ho36 (Kd.R_lt (by (with_reducible repeat (first | apply Kd.R_alloc | apply Kd.R_drewN | apply Kd.R_drew)); exact HO204.out))) (below_size (by repeat (first | (with_reducible first | exact HB.out | apply below_alloc | apply pw_below_drewN | apply below_drew1) | exact HB.out)))); have n2_ := Aside0.mk (below_step (by repeat (first | (with_reducible first | exact HB.out | apply below_alloc | apply pw_below_drewN | apply below_drew1) | exact HB.out)) hb); clear HO204; clear HB; have HO204 := n0_; have HO208 := n1_; have HB := n2_; clear n0_ n1_ n2_; clear hb ho36) | ((with_reducible refine gate_builtin (b := .append) (xs := #[.tmp 47, .tmp 48]) rfl ?_); at_builtin; refine Kd.R_append_rows k28 (w0 := w) w.heap.size rfl (.tmp 47) (.tmp 48) 24 28 (.agg #[(.int .i64 0), (.int .i64 0), (.int .i64 0), (.int .i64 0), (.int .i64 0)]) 40 rfl Try.underlying24 info28 rfl (by decide) (by omega) v207 y206 t202 _ _ _ (fun k_ => some k_ ≠ (.slice Ao33 t202.length co33 : Value).ownBlock) (fun _ => False) rfl rfl ?aO ?aR (fun _ _ h => h) (fun _ h => h.elim) ?aF ?aB ?aS ?aL ?_; (case aR => repeat (first | exact (Kd.R_reads' HO204.out).2.2 | (with_reducible refine Kd.C_alloc ?_ _) | (with_reducible refine Kd.C_drewN ?_ _) | (with_reducible refine Kd.C_drew ?_))); (case aB => exact (by repeat (first | (with_reducible first | exact HB.out | apply below_alloc | apply pw_below_drewN | apply below_drew1) | exact HB.out))); (case aF => exact (fun k_ hk => Kd.fresh' (Kd.R_lt (by (with_reducible repeat (first | apply Kd.R_alloc | apply Kd.R_drewN | apply Kd.R_drew)); exact HO204.out)) k_ hk)); (case aO => exact (by (with_reducible repeat (first | apply Kd.R_alloc | apply Kd.R_drewN | apply Kd.R_drew)); exact Kd.R_mono HO208.out (fun _ hk => hk.2))); (case aS => exact (below_size (by repeat (first | (with_reducible first | exact HB.out | apply below_alloc | apply pw_below_drewN | apply below_drew1) | exact HB.out)))); (case aL => have := LMc16.out; omega); intro v210 w37 ho hb hg hat; rw [← Ny209.out] at ho; have n0_ := Aside0.mk (Kd.R_after (ok := (fun _ => True)) (by (with_reducible repeat (first | apply Kd.R_alloc | apply Kd.R_drewN | apply Kd.R_drew)); exact HO204.out) hg hat); have n1_ := Aside0.mk (hb); have n2_ := Aside0.mk (ho); clear HO204; clear HB; clear HO208; have HO204 := n0_; have HB := n1_; have HO211 := n2_; clear n0_ n1_ n2_; clear ho hb hg hat; have p20 : 0 ≤ ((ji17) : Int) := of_decide_eq_true (by first | (with_reducible assumption) | assumption); have q20 : ((ji17) : Int) < ((y209.length : Int) : Int) := of_decide_eq_true (by first | (with_reducible assumption) | assumption); obtain ⟨go20, co20, eo20, gb20, gl20, cl20, HG20⟩ := Kd.R_form HO211.out (by omega); (first | cases eo20 | (injection eo20 with ea_ en_ ec_; (first | subst ea_ | (injection ea_ with ea_; subst ea_)); subst ec_; clear en_)); have GB20 := Aside0.mk gb20; have GG20 := Aside0.mk HG20; clear gb20 gl20 HG20; obtain ⟨ce20, hcl20, hM20, hcc20, hfr20⟩ := Kd.R_elem HO211.out z28 ((ji17) : Int) p20 q20; obtain rfl := k28_openM hM20; have hx20_0 : w37.cell? ⟨go20, ((ji17) : Int).toNat * 5, none⟩ = some (.int .i64 ((rd_T28 y209 (ji17)).f0)) := hcc20 0 _ rfl; have hx20_1 : w37.cell? ⟨go20, ((ji17) : Int).toNat * 5 + 1, none⟩ = some (.int .i64 ((rd_T28 y209 (ji17)).f1)) := hcc20 1 _ rfl; have hx20_2 : w37.cell? ⟨go20, ((ji17) : Int).toNat * 5 + 2, none⟩ = some (.int .i64 ((rd_T28 y209 (ji17)).f2)) := hcc20 2 _ rfl; have hx20_3 : w37.cell? ⟨go20, ((ji17) : Int).toNat * 5 + 3, none⟩ = some (.int .i64 ((rd_T28 y209 (ji17)).f3)) := hcc20 3 _ rfl; have hx20_4 : w37.cell? ⟨go20, ((ji17) : Int).toNat * 5 + 4, none⟩ = some (.int .i64 ((rd_T28 y209 (ji17)).f4)) := hcc20 4 _ rfl; have hf20_0 : w37.frozen? ⟨go20, ((ji17) : Int).toNat * 5, none⟩ = false := hfr20 0; have hf20_1 : w37.frozen? ⟨go20, ((ji17) : Int).toNat * 5 + 1, none⟩ = false := hfr20 1; have hf20_2 : w37.frozen? ⟨go20, ((ji17) : Int).toNat * 5 + 2, none⟩ = false := hfr20 2; have hf20_3 : w37.frozen? ⟨go20, ((ji17) : Int).toNat * 5 + 3, none⟩ = false := hfr20 3; have hf20_4 : w37.frozen? ⟨go20, ((ji17) : Int).toNat * 5 + 4, none⟩ = false := hfr20 4; clear hcl20 hcc20 hfr20 hM20; replace p20 := eq_true p20; replace q20 := eq_true q20; have HX38 := Aside0.mk (show Kd.R k28 28 w37 w.heap.size (fun k_ => some k_ ≠ (.slice Ao33 t202.length co33 : Value).ownBlock) (.slice (some ⟨go20, 0, none⟩) y209.length co20) y209 from (by (with_reducible repeat (first | apply Kd.R_alloc | apply Kd.R_drewN | apply Kd.R_drew)); exact HO211.out)); obtain ⟨ce38, hcl38, hM38, hcc38, hfr38⟩ := Kd.R_elem HX38.out z28 ((ji17) : Int) (of_decide_eq_true (by first | (with_reducible assumption) | assumption)) (by have h_ : ((ji17) : Int) < ((y209.length : Int) : Int) := of_decide_eq_true (by first | (with_reducible assumption) | assumption); first | exact h_ | (have e_ := (Kd.R_reads' HO211.out).1; omega) | simpa using h_); obtain rfl := k28_openM hM38; have HP38 := Kd.R_seg HX38.out ((ji17) : Int) (of_decide_eq_true (by first | (with_reducible assumption) | assumption)) (by have h_ : ((ji17) : Int) < ((y209.length : Int) : Int) := of_decide_eq_true (by first | (with_reducible assumption) | assumption); first | exact h_ | (have e_ := (Kd.R_reads' HO211.out).1; omega) | simpa using h_) (seg := [.int .i64 1]) (j := 1) hcl38 hcc38 (show 2 ≤ 5 from by decide) (x' := (⟨(rd_T28 y209 (ji17)).f0, 1, (rd_T28 y209 (ji17)).f2, (rd_T28 y209 (ji17)).f3, (rd_T28 y209 (ji17)).f4⟩ : S28)) (k28_mkM _ _ _ (⟨(rd_T28 y209 (ji17)).f0, 1, (rd_T28 y209 (ji17)).f2, (rd_T28 y209 (ji17)).f3, (rd_T28 y209 (ji17)).f4⟩ : S28) ) (fun _ hk => hk); have hx38_1 := hcc38 1 _ rfl; (try simp only [show (k28).sz = 5 from rfl, Nat.mul_one, Nat.add_zero] at hx38_1); have hf38_1 := hfr38 1; (try simp only [show (k28).sz = 5 from rfl, Nat.mul_one, Nat.add_zero] at hf38_1); clear hcl38 hcc38 hfr38 hM38) | ((with_reducible refine gate_store (t := 2) (p := 53) rfl ?_); refine store_event (t := 2) (p := 53) (v := ?vo_w39) (w1 := (w37.setCell ⟨go20, ((ji17) : Int).toNat * 5 + 1, none⟩ (.int .i64 1))) ?hg ?ho ?hn ?hr ?_; (case ho => rfl); (case hg => rfl); (case hn => rfl); (case hr => first | (go_simp; done) | (go_simp; rfl)); intro w39 hw; have hg : w37.grownBy w39 (some go20) := (by rw [hw]; exact HP38.2); have hp_ : Kd.R k28 28 w39 w.heap.size (fun k_ => some k_ ≠ (.slice Ao33 t202.length co33 : Value).ownBlock) (.slice (some ⟨go20, 0, none⟩) y209.length co20) y212 := (by rw [hw, Ny212.out]; exact HP38.1); clear HP38; have n0_ := Aside0.mk (Kd.R_after (v := (.slice (some ⟨go20, 0, none⟩) y209.length co20)) (v1 := (.slice (some ⟨go20, 0, none⟩) y209.length co20)) (ok := (fun _ => True)) (by (with_reducible repeat (first | apply Kd.R_alloc | apply Kd.R_drewN | apply Kd.R_drew)); exact HO204.out) hg (.inl rfl)); have n1_ := Aside0.mk (hp_); have n2_ := Aside0.mk ((by rw [hw]; exact below_set (HB.out) GB20.out : Below w.heap.size w w39)); clear HO204; clear HO211; clear HB; have HO204 := n0_; have HO211 := n1_; have HB := n2_; clear n0_ n1_ n2_; clear hg hw hp_))
                          have n0_ := Aside0.mk (Kd.R_drew HO204.out)
                          have n1_ := Aside0.mk (Kd.R_drew HO211.out)
                          have n2_ := Aside0.mk (below_drew1 HB.out)
                          clear HO204
                          clear HO211
                          clear HB
                          have HO204 := n0_
                          have HO211 := n1_
                          have HB := n2_
                          clear n0_ n1_ n2_
                          have p214 : 0 ≤ ((ji24) : Int) := of_decide_eq_true (by first | (with_reducible assumption) | assumption)
                          have q214 : (ji24) < (t202.length : Int) := of_decide_eq_true (by first | (with_reducible assumption) | assumption)
                          obtain ⟨ad214, e214, hx214_0, hx214_1, hx214_2, hx214_3, hx214_4⟩ := at_T28 (Kd.R_reads' HO204.out).2.2 (ji24) p214 q214
                          cases e214
                          replace p214 := eq_true p214
                          replace q214 := eq_true q214
                          have p216 : 0 ≤ ((ji24) : Int) := of_decide_eq_true (by first | (with_reducible assumption) | assumption)
                          have q216 : (ji24) < (t202.length : Int) := of_decide_eq_true (by first | (with_reducible assumption) | assumption)
                          obtain ⟨ad216, e216, hx216_0, hx216_1, hx216_2, hx216_3, hx216_4⟩ := at_T28 (Kd.R_reads' HO204.out).2.2 (ji24) p216 q216
                          obtain rfl : ad214 = ad216 := (by injection e216)
                          replace p216 := eq_true p216
                          replace q216 := eq_true q216
                          have p218 : 0 ≤ ((ji24) : Int) := of_decide_eq_true (by first | (with_reducible assumption) | assumption)
                          have q218 : (ji24) < (t202.length : Int) := of_decide_eq_true (by first | (with_reducible assumption) | assumption)
                          obtain ⟨ad218, e218, hx218_0, hx218_1, hx218_2, hx218_3, hx218_4⟩ := at_T28 (Kd.R_reads' HO204.out).2.2 (ji24) p218 q218
                          obtain rfl : ad214 = ad218 := (by injection e218)
                          replace p218 := eq_true p218
                          replace q218 := eq_true q218
                          refine start_ (n := 40) (S := fun w' => w'.cell? (ad214.add (((ji24)).toNat * 5)) = some (.int .i64 ((rd_T28 t202 (ji24)).f0)) ∧ w'.cell? ⟨(ad214.add (((ji24)).toNat * 5)).block, (ad214.add (((ji24)).toNat * 5)).off + 1, none⟩ = some (.int .i64 ((rd_T28 t202 (ji24)).f1)) ∧ w'.cell? ⟨(ad214.add (((ji24)).toNat * 5)).block, (ad214.add (((ji24)).toNat * 5)).off + 2, none⟩ = some (.int .i64 ((rd_T28 t202 (ji24)).f2)) ∧ w'.cell? ⟨(ad214.add (((ji24)).toNat * 5)).block, (ad214.add (((ji24)).toNat * 5)).off + 3, none⟩ = some (.int .i64 ((rd_T28 t202 (ji24)).f3)) ∧ w'.cell? ⟨(ad214.add (((ji24)).toNat * 5)).block, (ad214.add (((ji24)).toNat * 5)).off + 4, none⟩ = some (.int .i64 ((rd_T28 t202 (ji24)).f4)) ∧ w'.cell? (ad214.add (((ji24)).toNat * 5)) = some (.int .i64 ((rd_T28 t202 (ji24)).f0)) ∧ w'.cell? ⟨(ad214.add (((ji24)).toNat * 5)).block, (ad214.add (((ji24)).toNat * 5)).off + 1, none⟩ = some (.int .i64 ((rd_T28 t202 (ji24)).f1)) ∧ w'.cell? ⟨(ad214.add (((ji24)).toNat * 5)).block, (ad214.add (((ji24)).toNat * 5)).off + 2, none⟩ = some (.int .i64 ((rd_T28 t202 (ji24)).f2)) ∧ w'.cell? ⟨(ad214.add (((ji24)).toNat * 5)).block, (ad214.add (((ji24)).toNat * 5)).off + 3, none⟩ = some (.int .i64 ((rd_T28 t202 (ji24)).f3)) ∧ w'.cell? ⟨(ad214.add (((ji24)).toNat * 5)).block, (ad214.add (((ji24)).toNat * 5)).off + 4, none⟩ = some (.int .i64 ((rd_T28 t202 (ji24)).f4)) ∧ w'.cell? (ad214.add (((ji24)).toNat * 5)) = some (.int .i64 ((rd_T28 t202 (ji24)).f0)) ∧ w'.cell? ⟨(ad214.add (((ji24)).toNat * 5)).block, (ad214.add (((ji24)).toNat * 5)).off + 1, none⟩ = some (.int .i64 ((rd_T28 t202 (ji24)).f1)) ∧ w'.cell? ⟨(ad214.add (((ji24)).toNat * 5)).block, (ad214.add (((ji24)).toNat * 5)).off + 2, none⟩ = some (.int .i64 ((rd_T28 t202 (ji24)).f2)) ∧ w'.cell? ⟨(ad214.add (((ji24)).toNat * 5)).block, (ad214.add (((ji24)).toNat * 5)).off + 3, none⟩ = some (.int .i64 ((rd_T28 t202 (ji24)).f3)) ∧ w'.cell? ⟨(ad214.add (((ji24)).toNat * 5)).block, (ad214.add (((ji24)).toNat * 5)).off + 4, none⟩ = some (.int .i64 ((rd_T28 t202 (ji24)).f4))) (ds := []) #[false, false, false, false, false, false, false, false, false, false, false, false, false, false, false, false, false, false, false, false, false, false, false, false, false, false, false, false, false, false, false, false, false, false, false, false, false, false, false, false] (by kernel_rfl) rfl rfl ⟨hx214_0, hx214_1, hx214_2, hx214_3, hx214_4, hx216_0, hx216_1, hx216_2, hx216_3, hx216_4, hx218_0, hx218_1, hx218_2, hx218_3, hx218_4⟩ (fun hHeld => ?_); refine with_tabW horariumlaw26_ProbeMore.tab12 horariumlaw26_ProbeMore.bits12 (fun HT_ HW_ => ?_)
                          generalize w39.drew = w40 at HO204 HO211 HB hx214_0 hx214_1 hx214_2 hx214_3 hx214_4 hx216_0 hx216_1 hx216_2 hx216_3 hx216_4 hx218_0 hx218_1 hx218_2 hx218_3 hx218_4 hHeld ⊢
                          refine pure_ (i := 0) (N := some 54) (v := ?_) (a' := ?_) #[true, false, false, false, false, false, false, false, false, false, false, false, false, false, false, false, false, false, false, false, false, false, false, false, false, false, false, false, false, false, false, false, false, false, false, false, false, false, false, false] rfl rfl (any_of HT_.out (by kernel_rfl)) (fun _ _ _ h => h) (Or.inl ⟨by rfl, ?_⟩) ?_ ?_
                          rotate_left
                          · intro w'
                            go_simp
                            with_reducible rfl
                          rotate_left
                          · simp only [Act.put, List.setIfInBounds_toArray, List.set_cons_zero, List.set_cons_succ, i64_w, i32_w]
                            rfl
                          refine pure_ (i := 1) (N := some 55) (v := ?_) (a' := ?_) #[true, true, false, false, false, false, false, false, false, false, false, false, false, false, false, false, false, false, false, false, false, false, false, false, false, false, false, false, false, false, false, false, false, false, false, false, false, false, false, false] rfl rfl (any_of HT_.out (by kernel_rfl)) (fun _ _ _ h => h) (Or.inl ⟨by rfl, ?_⟩) ?_ ?_
                          rotate_left
                          · intro w'
                            go_simp
                            with_reducible rfl
                          rotate_left
                          · simp only [Act.put, List.setIfInBounds_toArray, List.set_cons_zero, List.set_cons_succ, i64_w, i32_w]
                            rfl
                          refine pure_ (i := 2) (N := some 56) (v := ?_) (a' := ?_) #[true, true, true, false, false, false, false, false, false, false, false, false, false, false, false, false, false, false, false, false, false, false, false, false, false, false, false, false, false, false, false, false, false, false, false, false, false, false, false, false] rfl rfl (any_of HT_.out (by kernel_rfl)) (fun _ _ _ h => h) (Or.inl ⟨by rfl, ?_⟩) ?_ ?_
                          rotate_left
                          · intro w'
                            go_simp
                            with_reducible rfl
                          rotate_left
                          · simp only [Act.put, List.setIfInBounds_toArray, List.set_cons_zero, List.set_cons_succ, i64_w, i32_w]
                            rfl
                          refine pure_ (i := 3) (N := some 57) (v := ?_) (a' := ?_) #[true, true, true, true, false, false, false, false, false, false, false, false, false, false, false, false, false, false, false, false, false, false, false, false, false, false, false, false, false, false, false, false, false, false, false, false, false, false, false, false] rfl rfl (any_of HT_.out (by kernel_rfl)) (fun _ _ _ h => h) (Or.inl ⟨by rfl, ?_⟩) ?_ ?_
                          rotate_left
                          · intro w'
                            go_simp
                            with_reducible rfl
                          rotate_left
                          · simp only [Act.put, List.setIfInBounds_toArray, List.set_cons_zero, List.set_cons_succ, i64_w, i32_w]
                            rfl
                          refine pure_ (i := 5) (N := some 59) (v := ?_) (a' := ?_) #[true, true, true, true, false, true, false, false, false, false, false, false, false, false, false, false, false, false, false, false, false, false, false, false, false, false, false, false, false, false, false, false, false, false, false, false, false, false, false, false] rfl rfl (any_of HT_.out (by kernel_rfl)) (fun _ _ _ h => h) (Or.inl ⟨by rfl, ?_⟩) ?_ ?_
                          rotate_left
                          · intro w'
                            go_simp
                            with_reducible rfl
                          rotate_left
                          · simp only [Act.put, List.setIfInBounds_toArray, List.set_cons_zero, List.set_cons_succ, i64_w, i32_w]
                            rfl
                          refine one_ (i := 4) (N := some 58) #[true, true, true, true, true, true, false, false, false, false, false, false, false, false, false, false, false, false, false, false, false, false, false, false, false, false, false, false, false, false, false, false, false, false, false, false, false, false, false, false] rfl rfl (one_of HT_.out (by kernel_rfl)) (by decide) (fun K hK => ?_)
                          refine goes_ Try.func20 (by kernel_rfl) rfl #[.slice (some ⟨go20, 0, none⟩) y212.length co20, .int .i64 ji24] (by rfl) rfl rfl (by (try simp only [List.map_toArray, List.map_cons, List.map_nil]); first | done | (rw [show y212.length = y209.length from (Kd.R_reads' HO211.out).1.symm] <;> rfl) | (simp only [hji24]; rfl) | rfl | (simp only [List.length_drop, List.length_take]; rfl)) ?_
                          with_reducible refine (probe_MostC.calls k _ _ y212 ji24 t213 _ ?side1 ?side2 A22.out).mono ?_
                          (case side1 => repeat (first | exact (Kd.R_reads' HO211.out).2.2 | (with_reducible refine Kd.C_alloc ?_ _) | (with_reducible refine Kd.C_drewN ?_ _) | (with_reducible refine Kd.C_drew ?_)))
                          (case side2 => rw [show y212.length = y209.length from (Kd.R_reads' HO211.out).1.symm]; exact (Kd.R_reads' HO211.out).2.1)
                          rintro e w41 ⟨rfl, hb⟩
                          have HS0_ := (hb.cell (World.block_lt_of_cell? _ _ (hHeld.1))).trans (hHeld.1)
                          have HS1_ := (hb.cell (World.block_lt_of_cell? _ _ (hHeld.2.1))).trans (hHeld.2.1)
                          have HS2_ := (hb.cell (World.block_lt_of_cell? _ _ (hHeld.2.2.1))).trans (hHeld.2.2.1)
                          have HS3_ := (hb.cell (World.block_lt_of_cell? _ _ (hHeld.2.2.2.1))).trans (hHeld.2.2.2.1)
                          have HS4_ := (hb.cell (World.block_lt_of_cell? _ _ (hHeld.2.2.2.2.1))).trans (hHeld.2.2.2.2.1)
                          have HS5_ := (hb.cell (World.block_lt_of_cell? _ _ (hHeld.2.2.2.2.2.1))).trans (hHeld.2.2.2.2.2.1)
                          have HS6_ := (hb.cell (World.block_lt_of_cell? _ _ (hHeld.2.2.2.2.2.2.1))).trans (hHeld.2.2.2.2.2.2.1)
                          have HS7_ := (hb.cell (World.block_lt_of_cell? _ _ (hHeld.2.2.2.2.2.2.2.1))).trans (hHeld.2.2.2.2.2.2.2.1)
                          have HS8_ := (hb.cell (World.block_lt_of_cell? _ _ (hHeld.2.2.2.2.2.2.2.2.1))).trans (hHeld.2.2.2.2.2.2.2.2.1)
                          have HS9_ := (hb.cell (World.block_lt_of_cell? _ _ (hHeld.2.2.2.2.2.2.2.2.2.1))).trans (hHeld.2.2.2.2.2.2.2.2.2.1)
                          have HS10_ := (hb.cell (World.block_lt_of_cell? _ _ (hHeld.2.2.2.2.2.2.2.2.2.2.1))).trans (hHeld.2.2.2.2.2.2.2.2.2.2.1)
                          have HS11_ := (hb.cell (World.block_lt_of_cell? _ _ (hHeld.2.2.2.2.2.2.2.2.2.2.2.1))).trans (hHeld.2.2.2.2.2.2.2.2.2.2.2.1)
                          have HS12_ := (hb.cell (World.block_lt_of_cell? _ _ (hHeld.2.2.2.2.2.2.2.2.2.2.2.2.1))).trans (hHeld.2.2.2.2.2.2.2.2.2.2.2.2.1)
                          have HS13_ := (hb.cell (World.block_lt_of_cell? _ _ (hHeld.2.2.2.2.2.2.2.2.2.2.2.2.2.1))).trans (hHeld.2.2.2.2.2.2.2.2.2.2.2.2.2.1)
                          have HS14_ := (hb.cell (World.block_lt_of_cell? _ _ (hHeld.2.2.2.2.2.2.2.2.2.2.2.2.2.2))).trans (hHeld.2.2.2.2.2.2.2.2.2.2.2.2.2.2)
                          refine ⟨_, rfl, ?_⟩
                          have n0_ := Aside0.mk (Kd.R_below (by (with_reducible repeat (first | apply Kd.R_alloc | apply Kd.R_drewN | apply Kd.R_drew)); exact HO204.out) hb)
                          have n1_ := Aside0.mk (Kd.R_below (by (with_reducible repeat (first | apply Kd.R_alloc | apply Kd.R_drewN | apply Kd.R_drew)); exact HO211.out) hb)
                          have n2_ := Aside0.mk (below_step (by repeat (first | (with_reducible first | exact HB.out | apply below_alloc | apply pw_below_drewN | apply below_drew1) | exact HB.out)) hb)
                          clear HO204
                          clear HO211
                          clear HB
                          have HO204 := n0_
                          have HO211 := n1_
                          have HB := n2_
                          clear n0_ n1_ n2_
                          (try clear hb)
                          (try clear hb2)
                          (try clear hk)
                          (try clear hi)
                          refine hK.out _ _ ⟨HS0_, HS1_, HS2_, HS3_, HS4_, HS5_, HS6_, HS7_, HS8_, HS9_, HS10_, HS11_, HS12_, HS13_, HS14_⟩ (fun hHeld => ?_)
                          clear hK K
                          refine norm_ (a' := ?_) ?_ ?_
                          rotate_left
                          · show Act.put _ (some 58) _ = _
                            simp only [Act.put, List.setIfInBounds_toArray, List.set_cons_zero, List.set_cons_succ, i64_w, i32_w]
                            rfl
                          refine pure_ (i := 6) (N := some 60) (v := ?_) (a' := ?_) #[true, true, true, true, true, true, true, false, false, false, false, false, false, false, false, false, false, false, false, false, false, false, false, false, false, false, false, false, false, false, false, false, false, false, false, false, false, false, false, false] rfl rfl (any_of HT_.out (by kernel_rfl)) (fun _ _ _ h => h) (Or.inl ⟨by rfl, ?_⟩) ?_ ?_
                          rotate_left
                          · intro w'
                            go_simp
                            with_reducible rfl
                          rotate_left
                          · simp only [Act.put, List.setIfInBounds_toArray, List.set_cons_zero, List.set_cons_succ, i64_w, i32_w]
                            rfl
                          refine pure_ (i := 7) (N := some 61) (v := ?_) (a' := ?_) #[true, true, true, true, true, true, true, true, false, false, false, false, false, false, false, false, false, false, false, false, false, false, false, false, false, false, false, false, false, false, false, false, false, false, false, false, false, false, false, false] rfl rfl (any_of HT_.out (by kernel_rfl)) (fun _ _ _ h => h) (Or.inl ⟨by rfl, ?_⟩) ?_ ?_
                          rotate_left
                          · intro w'
                            go_simp
                            with_reducible rfl
                          rotate_left
                          · simp only [Act.put, List.setIfInBounds_toArray, List.set_cons_zero, List.set_cons_succ, i64_w, i32_w]
                            rfl
                          refine pure_ (i := 8) (N := some 62) (v := ?_) (a' := ?_) #[true, true, true, true, true, true, true, true, true, false, false, false, false, false, false, false, false, false, false, false, false, false, false, false, false, false, false, false, false, false, false, false, false, false, false, false, false, false, false, false] rfl rfl (any_of HT_.out (by kernel_rfl)) (fun _ _ _ h => h) (Or.inl ⟨by rfl, ?_⟩) ?_ ?_
                          rotate_left
                          · intro w'
                            go_simp
                            with_reducible rfl
                          rotate_left
                          · simp only [Act.put, List.setIfInBounds_toArray, List.set_cons_zero, List.set_cons_succ, i64_w, i32_w]
                            rfl
                          refine pure_ (i := 9) (N := some 63) (v := ?_) (a' := ?_) #[true, true, true, true, true, true, true, true, true, true, false, false, false, false, false, false, false, false, false, false, false, false, false, false, false, false, false, false, false, false, false, false, false, false, false, false, false, false, false, false] rfl rfl (any_of HT_.out (by kernel_rfl)) (fun _ _ _ h => h) (Or.inl ⟨by rfl, ?_⟩) ?_ ?_
                          rotate_left
                          · intro w'
                            go_simp
                            with_reducible rfl
                          rotate_left
                          · simp only [Act.put, List.setIfInBounds_toArray, List.set_cons_zero, List.set_cons_succ, i64_w, i32_w]
                            rfl
                          refine pure_ (i := 10) (N := some 64) (v := ?_) (a' := ?_) #[true, true, true, true, true, true, true, true, true, true, true, false, false, false, false, false, false, false, false, false, false, false, false, false, false, false, false, false, false, false, false, false, false, false, false, false, false, false, false, false] rfl rfl (any_of HT_.out (by kernel_rfl)) (fun _ _ _ h => h) (Or.inl ⟨by rfl, ?_⟩) ?_ ?_
                          rotate_left
                          · intro w'
                            go_simp
                            with_reducible rfl
                          rotate_left
                          · simp only [Act.put, List.setIfInBounds_toArray, List.set_cons_zero, List.set_cons_succ, i64_w, i32_w]
                            rfl
                          refine pure_ (i := 11) (N := some 65) (v := ?_) (a' := ?_) #[true, true, true, true, true, true, true, true, true, true, true, true, false, false, false, false, false, false, false, false, false, false, false, false, false, false, false, false, false, false, false, false, false, false, false, false, false, false, false, false] rfl rfl (any_of HT_.out (by kernel_rfl)) (fun _ _ _ h => h) (Or.inl ⟨by rfl, ?_⟩) ?_ ?_
                          rotate_left
                          · intro w'
                            go_simp
                            with_reducible rfl
                          rotate_left
                          · simp only [Act.put, List.setIfInBounds_toArray, List.set_cons_zero, List.set_cons_succ, i64_w, i32_w]
                            rfl
                          refine pure_ (i := 12) (N := some 66) (v := ?_) (a' := ?_) #[true, true, true, true, true, true, true, true, true, true, true, true, true, false, false, false, false, false, false, false, false, false, false, false, false, false, false, false, false, false, false, false, false, false, false, false, false, false, false, false] rfl rfl (any_of HT_.out (by kernel_rfl)) (fun _ _ _ h => h) (Or.inl ⟨by rfl, ?_⟩) ?_ ?_
                          rotate_left
                          · intro w'
                            go_simp
                            with_reducible rfl
                          rotate_left
                          · simp only [Act.put, List.setIfInBounds_toArray, List.set_cons_zero, List.set_cons_succ, i64_w, i32_w]
                            rfl
                          refine pure_ (i := 13) (N := some 67) (v := ?_) (a' := ?_) #[true, true, true, true, true, true, true, true, true, true, true, true, true, true, false, false, false, false, false, false, false, false, false, false, false, false, false, false, false, false, false, false, false, false, false, false, false, false, false, false] rfl rfl (any_of HT_.out (by kernel_rfl)) (fun _ _ _ h => h) (Or.inl ⟨by rfl, ?_⟩) ?_ ?_
                          rotate_left
                          · intro w'
                            go_simp
                            with_reducible rfl
                          rotate_left
                          · simp only [Act.put, List.setIfInBounds_toArray, List.set_cons_zero, List.set_cons_succ, i64_w, i32_w]
                            rfl
                          refine take_ (i := 14) (N := some 68) (v := ?_) (a' := ?_) #[true, true, true, true, true, true, true, true, true, true, true, true, true, true, true, false, false, false, false, false, false, false, false, false, false, false, false, false, false, false, false, false, false, false, false, false, false, false, false, false] rfl rfl (take_ofW HT_.out HW_.out (by kernel_rfl)) (fun _ _ _ h => h) (Or.inl ⟨by rfl, ?_⟩) hHeld ?_ ?_
                          rotate_left
                          · rintro w' ⟨s0, s1, s2, s3, s4, s5, s6, s7, s8, s9, s10, s11, s12, s13, s14⟩
                            go_simp
                            with_reducible rfl
                          rotate_left
                          · simp only [Act.put, List.setIfInBounds_toArray, List.set_cons_zero, List.set_cons_succ, i64_w, i32_w]
                            rfl
                          refine pure_ (i := 15) (N := some 69) (v := ?_) (a' := ?_) #[true, true, true, true, true, true, true, true, true, true, true, true, true, true, true, true, false, false, false, false, false, false, false, false, false, false, false, false, false, false, false, false, false, false, false, false, false, false, false, false] rfl rfl (any_of HT_.out (by kernel_rfl)) (fun _ _ _ h => h) (Or.inl ⟨by rfl, ?_⟩) ?_ ?_
                          rotate_left
                          · intro w'
                            go_simp
                            with_reducible rfl
                          rotate_left
                          · simp only [Act.put, List.setIfInBounds_toArray, List.set_cons_zero, List.set_cons_succ, i64_w, i32_w]
                            rfl
                          refine pure_ (i := 16) (N := some 70) (v := ?_) (a' := ?_) #[true, true, true, true, true, true, true, true, true, true, true, true, true, true, true, true, true, false, false, false, false, false, false, false, false, false, false, false, false, false, false, false, false, false, false, false, false, false, false, false] rfl rfl (any_of HT_.out (by kernel_rfl)) (fun _ _ _ h => h) (Or.inl ⟨by rfl, ?_⟩) ?_ ?_
                          rotate_left
                          · intro w'
                            go_simp
                            with_reducible rfl
                          rotate_left
                          · simp only [Act.put, List.setIfInBounds_toArray, List.set_cons_zero, List.set_cons_succ, i64_w, i32_w]
                            rfl
                          refine pure_ (i := 17) (N := some 71) (v := ?_) (a' := ?_) #[true, true, true, true, true, true, true, true, true, true, true, true, true, true, true, true, true, true, false, false, false, false, false, false, false, false, false, false, false, false, false, false, false, false, false, false, false, false, false, false] rfl rfl (any_of HT_.out (by kernel_rfl)) (fun _ _ _ h => h) (Or.inl ⟨by rfl, ?_⟩) ?_ ?_
                          rotate_left
                          · intro w'
                            go_simp
                            with_reducible rfl
                          rotate_left
                          · simp only [Act.put, List.setIfInBounds_toArray, List.set_cons_zero, List.set_cons_succ, i64_w, i32_w]
                            rfl
                          refine pure_ (i := 18) (N := some 72) (v := ?_) (a' := ?_) #[true, true, true, true, true, true, true, true, true, true, true, true, true, true, true, true, true, true, true, false, false, false, false, false, false, false, false, false, false, false, false, false, false, false, false, false, false, false, false, false] rfl rfl (any_of HT_.out (by kernel_rfl)) (fun _ _ _ h => h) (Or.inl ⟨by rfl, ?_⟩) ?_ ?_
                          rotate_left
                          · intro w'
                            go_simp
                            with_reducible rfl
                          rotate_left
                          · simp only [Act.put, List.setIfInBounds_toArray, List.set_cons_zero, List.set_cons_succ, i64_w, i32_w]
                            rfl
                          refine pure_ (i := 19) (N := some 73) (v := ?_) (a' := ?_) #[true, true, true, true, true, true, true, true, true, true, true, true, true, true, true, true, true, true, true, true, false, false, false, false, false, false, false, false, false, false, false, false, false, false, false, false, false, false, false, false] rfl rfl (any_of HT_.out (by kernel_rfl)) (fun _ _ _ h => h) (Or.inl ⟨by rfl, ?_⟩) ?_ ?_
                          rotate_left
                          · intro w'
                            go_simp
                            with_reducible rfl
                          rotate_left
                          · simp only [Act.put, List.setIfInBounds_toArray, List.set_cons_zero, List.set_cons_succ, i64_w, i32_w]
                            rfl
                          refine pure_ (i := 21) (N := some 75) (v := ?_) (a' := ?_) #[true, true, true, true, true, true, true, true, true, true, true, true, true, true, true, true, true, true, true, true, false, true, false, false, false, false, false, false, false, false, false, false, false, false, false, false, false, false, false, false] rfl rfl (any_of HT_.out (by kernel_rfl)) (fun _ _ _ h => h) (Or.inl ⟨by rfl, ?_⟩) ?_ ?_
                          rotate_left
                          · intro w'
                            go_simp
                            with_reducible rfl
                          rotate_left
                          · simp only [Act.put, List.setIfInBounds_toArray, List.set_cons_zero, List.set_cons_succ, i64_w, i32_w]
                            rfl
                          refine pure_ (i := 22) (N := some 76) (v := ?_) (a' := ?_) #[true, true, true, true, true, true, true, true, true, true, true, true, true, true, true, true, true, true, true, true, false, true, true, false, false, false, false, false, false, false, false, false, false, false, false, false, false, false, false, false] rfl rfl (any_of HT_.out (by kernel_rfl)) (fun _ _ _ h => h) (Or.inl ⟨by rfl, ?_⟩) ?_ ?_
                          rotate_left
                          · intro w'
                            go_simp
                            with_reducible rfl
                          rotate_left
                          · simp only [Act.put, List.setIfInBounds_toArray, List.set_cons_zero, List.set_cons_succ, i64_w, i32_w]
                            rfl
                          refine pure_ (i := 23) (N := some 77) (v := ?_) (a' := ?_) #[true, true, true, true, true, true, true, true, true, true, true, true, true, true, true, true, true, true, true, true, false, true, true, true, false, false, false, false, false, false, false, false, false, false, false, false, false, false, false, false] rfl rfl (any_of HT_.out (by kernel_rfl)) (fun _ _ _ h => h) (Or.inl ⟨by rfl, ?_⟩) ?_ ?_
                          rotate_left
                          · intro w'
                            go_simp
                            with_reducible rfl
                          rotate_left
                          · simp only [Act.put, List.setIfInBounds_toArray, List.set_cons_zero, List.set_cons_succ, i64_w, i32_w]
                            rfl
                          refine pure_ (i := 24) (N := some 78) (v := ?_) (a' := ?_) #[true, true, true, true, true, true, true, true, true, true, true, true, true, true, true, true, true, true, true, true, false, true, true, true, true, false, false, false, false, false, false, false, false, false, false, false, false, false, false, false] rfl rfl (any_of HT_.out (by kernel_rfl)) (fun _ _ _ h => h) (Or.inl ⟨by rfl, ?_⟩) ?_ ?_
                          rotate_left
                          · intro w'
                            go_simp
                            with_reducible rfl
                          rotate_left
                          · simp only [Act.put, List.setIfInBounds_toArray, List.set_cons_zero, List.set_cons_succ, i64_w, i32_w]
                            rfl
                          refine take_ (i := 25) (N := some 79) (v := ?_) (a' := ?_) #[true, true, true, true, true, true, true, true, true, true, true, true, true, true, true, true, true, true, true, true, false, true, true, true, true, true, false, false, false, false, false, false, false, false, false, false, false, false, false, false] rfl rfl (take_ofW HT_.out HW_.out (by kernel_rfl)) (fun _ _ _ h => h) (Or.inl ⟨by rfl, ?_⟩) hHeld ?_ ?_
                          rotate_left
                          · rintro w' ⟨s0, s1, s2, s3, s4, s5, s6, s7, s8, s9, s10, s11, s12, s13, s14⟩
                            go_simp
                            with_reducible rfl
                          rotate_left
                          · simp only [Act.put, List.setIfInBounds_toArray, List.set_cons_zero, List.set_cons_succ, i64_w, i32_w]
                            rfl
                          refine one_ (i := 20) (N := some 74) #[true, true, true, true, true, true, true, true, true, true, true, true, true, true, true, true, true, true, true, true, true, true, true, true, true, true, false, false, false, false, false, false, false, false, false, false, false, false, false, false] rfl rfl (one_of HT_.out (by kernel_rfl)) (by decide) (fun K hK => ?_)
                          refine goes_ Try.func27 (by kernel_rfl) rfl #[.slice (some ad214) t202.length co33, .int .i64 ji24] (by rfl) rfl rfl (by (try simp only [List.map_toArray, List.map_cons, List.map_nil]); first | done | (simp only [hji24]; rfl) | rfl | (simp only [List.length_drop, List.length_take]; rfl)) ?_
                          with_reducible refine (probe_LeastT.calls k _ _ t202 ji24 t215 _ ?side1 ?side2 A28.out).mono ?_
                          (case side1 => repeat (first | exact (Kd.R_reads' HO204.out).2.2 | (with_reducible refine Kd.C_alloc ?_ _) | (with_reducible refine Kd.C_drewN ?_ _) | (with_reducible refine Kd.C_drew ?_)))
                          (case side2 => exact (Kd.R_reads' HO204.out).2.1)
                          rintro e w42 ⟨rfl, hb⟩
                          have HS0_ := (hb.cell (World.block_lt_of_cell? _ _ (hHeld.1))).trans (hHeld.1)
                          have HS1_ := (hb.cell (World.block_lt_of_cell? _ _ (hHeld.2.1))).trans (hHeld.2.1)
                          have HS2_ := (hb.cell (World.block_lt_of_cell? _ _ (hHeld.2.2.1))).trans (hHeld.2.2.1)
                          have HS3_ := (hb.cell (World.block_lt_of_cell? _ _ (hHeld.2.2.2.1))).trans (hHeld.2.2.2.1)
                          have HS4_ := (hb.cell (World.block_lt_of_cell? _ _ (hHeld.2.2.2.2.1))).trans (hHeld.2.2.2.2.1)
                          have HS5_ := (hb.cell (World.block_lt_of_cell? _ _ (hHeld.2.2.2.2.2.1))).trans (hHeld.2.2.2.2.2.1)
                          have HS6_ := (hb.cell (World.block_lt_of_cell? _ _ (hHeld.2.2.2.2.2.2.1))).trans (hHeld.2.2.2.2.2.2.1)
                          have HS7_ := (hb.cell (World.block_lt_of_cell? _ _ (hHeld.2.2.2.2.2.2.2.1))).trans (hHeld.2.2.2.2.2.2.2.1)
                          have HS8_ := (hb.cell (World.block_lt_of_cell? _ _ (hHeld.2.2.2.2.2.2.2.2.1))).trans (hHeld.2.2.2.2.2.2.2.2.1)
                          have HS9_ := (hb.cell (World.block_lt_of_cell? _ _ (hHeld.2.2.2.2.2.2.2.2.2.1))).trans (hHeld.2.2.2.2.2.2.2.2.2.1)
                          have HS10_ := (hb.cell (World.block_lt_of_cell? _ _ (hHeld.2.2.2.2.2.2.2.2.2.2.1))).trans (hHeld.2.2.2.2.2.2.2.2.2.2.1)
                          have HS11_ := (hb.cell (World.block_lt_of_cell? _ _ (hHeld.2.2.2.2.2.2.2.2.2.2.2.1))).trans (hHeld.2.2.2.2.2.2.2.2.2.2.2.1)
                          have HS12_ := (hb.cell (World.block_lt_of_cell? _ _ (hHeld.2.2.2.2.2.2.2.2.2.2.2.2.1))).trans (hHeld.2.2.2.2.2.2.2.2.2.2.2.2.1)
                          have HS13_ := (hb.cell (World.block_lt_of_cell? _ _ (hHeld.2.2.2.2.2.2.2.2.2.2.2.2.2.1))).trans (hHeld.2.2.2.2.2.2.2.2.2.2.2.2.2.1)
                          have HS14_ := (hb.cell (World.block_lt_of_cell? _ _ (hHeld.2.2.2.2.2.2.2.2.2.2.2.2.2.2))).trans (hHeld.2.2.2.2.2.2.2.2.2.2.2.2.2.2)
                          refine ⟨_, rfl, ?_⟩
                          have n0_ := Aside0.mk (Kd.R_below (by (with_reducible repeat (first | apply Kd.R_alloc | apply Kd.R_drewN | apply Kd.R_drew)); exact HO204.out) hb)
                          have n1_ := Aside0.mk (Kd.R_below (by (with_reducible repeat (first | apply Kd.R_alloc | apply Kd.R_drewN | apply Kd.R_drew)); exact HO211.out) hb)
                          have n2_ := Aside0.mk (below_step (by repeat (first | (with_reducible first | exact HB.out | apply below_alloc | apply pw_below_drewN | apply below_drew1) | exact HB.out)) hb)
                          clear HO204
                          clear HO211
                          clear HB
                          have HO204 := n0_
                          have HO211 := n1_
                          have HB := n2_
                          clear n0_ n1_ n2_
                          (try clear hb)
                          (try clear hb2)
                          (try clear hk)
                          (try clear hi)
                          refine hK.out _ _ ⟨HS0_, HS1_, HS2_, HS3_, HS4_, HS5_, HS6_, HS7_, HS8_, HS9_, HS10_, HS11_, HS12_, HS13_, HS14_⟩ (fun hHeld => ?_)
                          clear hK K
                          refine norm_ (a' := ?_) ?_ ?_
                          rotate_left
                          · show Act.put _ (some 74) _ = _
                            simp only [Act.put, List.setIfInBounds_toArray, List.set_cons_zero, List.set_cons_succ, i64_w, i32_w]
                            rfl
                          refine pure_ (i := 26) (N := some 80) (v := ?_) (a' := ?_) #[true, true, true, true, true, true, true, true, true, true, true, true, true, true, true, true, true, true, true, true, true, true, true, true, true, true, true, false, false, false, false, false, false, false, false, false, false, false, false, false] rfl rfl (any_of HT_.out (by kernel_rfl)) (fun _ _ _ h => h) (Or.inl ⟨by rfl, ?_⟩) ?_ ?_
                          rotate_left
                          · intro w'
                            go_simp
                            with_reducible rfl
                          rotate_left
                          · simp only [Act.put, List.setIfInBounds_toArray, List.set_cons_zero, List.set_cons_succ, i64_w, i32_w]
                            rfl
                          refine pure_ (i := 27) (N := some 81) (v := ?_) (a' := ?_) #[true, true, true, true, true, true, true, true, true, true, true, true, true, true, true, true, true, true, true, true, true, true, true, true, true, true, true, true, false, false, false, false, false, false, false, false, false, false, false, false] rfl rfl (any_of HT_.out (by kernel_rfl)) (fun _ _ _ h => h) (Or.inl ⟨by rfl, ?_⟩) ?_ ?_
                          rotate_left
                          · intro w'
                            go_simp
                            with_reducible rfl
                          rotate_left
                          · simp only [Act.put, List.setIfInBounds_toArray, List.set_cons_zero, List.set_cons_succ, i64_w, i32_w]
                            rfl
                          refine pure_ (i := 28) (N := some 82) (v := ?_) (a' := ?_) #[true, true, true, true, true, true, true, true, true, true, true, true, true, true, true, true, true, true, true, true, true, true, true, true, true, true, true, true, true, false, false, false, false, false, false, false, false, false, false, false] rfl rfl (any_of HT_.out (by kernel_rfl)) (fun _ _ _ h => h) (Or.inl ⟨by rfl, ?_⟩) ?_ ?_
                          rotate_left
                          · intro w'
                            go_simp
                            with_reducible rfl
                          rotate_left
                          · simp only [Act.put, List.setIfInBounds_toArray, List.set_cons_zero, List.set_cons_succ, i64_w, i32_w]
                            rfl
                          refine pure_ (i := 29) (N := some 83) (v := ?_) (a' := ?_) #[true, true, true, true, true, true, true, true, true, true, true, true, true, true, true, true, true, true, true, true, true, true, true, true, true, true, true, true, true, true, false, false, false, false, false, false, false, false, false, false] rfl rfl (any_of HT_.out (by kernel_rfl)) (fun _ _ _ h => h) (Or.inl ⟨by rfl, ?_⟩) ?_ ?_
                          rotate_left
                          · intro w'
                            go_simp
                            with_reducible rfl
                          rotate_left
                          · simp only [Act.put, List.setIfInBounds_toArray, List.set_cons_zero, List.set_cons_succ, i64_w, i32_w]
                            rfl
                          refine pure_ (i := 30) (N := some 84) (v := ?_) (a' := ?_) #[true, true, true, true, true, true, true, true, true, true, true, true, true, true, true, true, true, true, true, true, true, true, true, true, true, true, true, true, true, true, true, false, false, false, false, false, false, false, false, false] rfl rfl (any_of HT_.out (by kernel_rfl)) (fun _ _ _ h => h) (Or.inl ⟨by rfl, ?_⟩) ?_ ?_
                          rotate_left
                          · intro w'
                            go_simp
                            with_reducible rfl
                          rotate_left
                          · simp only [Act.put, List.setIfInBounds_toArray, List.set_cons_zero, List.set_cons_succ, i64_w, i32_w]
                            rfl
                          refine pure_ (i := 32) (N := some 86) (v := ?_) (a' := ?_) #[true, true, true, true, true, true, true, true, true, true, true, true, true, true, true, true, true, true, true, true, true, true, true, true, true, true, true, true, true, true, true, false, true, false, false, false, false, false, false, false] rfl rfl (any_of HT_.out (by kernel_rfl)) (fun _ _ _ h => h) (Or.inl ⟨by rfl, ?_⟩) ?_ ?_
                          rotate_left
                          · intro w'
                            go_simp
                            with_reducible rfl
                          rotate_left
                          · simp only [Act.put, List.setIfInBounds_toArray, List.set_cons_zero, List.set_cons_succ, i64_w, i32_w]
                            rfl
                          refine pure_ (i := 33) (N := some 87) (v := ?_) (a' := ?_) #[true, true, true, true, true, true, true, true, true, true, true, true, true, true, true, true, true, true, true, true, true, true, true, true, true, true, true, true, true, true, true, false, true, true, false, false, false, false, false, false] rfl rfl (any_of HT_.out (by kernel_rfl)) (fun _ _ _ h => h) (Or.inl ⟨by rfl, ?_⟩) ?_ ?_
                          rotate_left
                          · intro w'
                            go_simp
                            with_reducible rfl
                          rotate_left
                          · simp only [Act.put, List.setIfInBounds_toArray, List.set_cons_zero, List.set_cons_succ, i64_w, i32_w]
                            rfl
                          refine pure_ (i := 34) (N := some 88) (v := ?_) (a' := ?_) #[true, true, true, true, true, true, true, true, true, true, true, true, true, true, true, true, true, true, true, true, true, true, true, true, true, true, true, true, true, true, true, false, true, true, true, false, false, false, false, false] rfl rfl (any_of HT_.out (by kernel_rfl)) (fun _ _ _ h => h) (Or.inl ⟨by rfl, ?_⟩) ?_ ?_
                          rotate_left
                          · intro w'
                            go_simp
                            with_reducible rfl
                          rotate_left
                          · simp only [Act.put, List.setIfInBounds_toArray, List.set_cons_zero, List.set_cons_succ, i64_w, i32_w]
                            rfl
                          refine pure_ (i := 35) (N := some 89) (v := ?_) (a' := ?_) #[true, true, true, true, true, true, true, true, true, true, true, true, true, true, true, true, true, true, true, true, true, true, true, true, true, true, true, true, true, true, true, false, true, true, true, true, false, false, false, false] rfl rfl (any_of HT_.out (by kernel_rfl)) (fun _ _ _ h => h) (Or.inl ⟨by rfl, ?_⟩) ?_ ?_
                          rotate_left
                          · intro w'
                            go_simp
                            with_reducible rfl
                          rotate_left
                          · simp only [Act.put, List.setIfInBounds_toArray, List.set_cons_zero, List.set_cons_succ, i64_w, i32_w]
                            rfl
                          refine take_ (i := 36) (N := some 90) (v := ?_) (a' := ?_) #[true, true, true, true, true, true, true, true, true, true, true, true, true, true, true, true, true, true, true, true, true, true, true, true, true, true, true, true, true, true, true, false, true, true, true, true, true, false, false, false] rfl rfl (take_ofW HT_.out HW_.out (by kernel_rfl)) (fun _ _ _ h => h) (Or.inl ⟨by rfl, ?_⟩) hHeld ?_ ?_
                          rotate_left
                          · rintro w' ⟨s0, s1, s2, s3, s4, s5, s6, s7, s8, s9, s10, s11, s12, s13, s14⟩
                            go_simp
                            with_reducible rfl
                          rotate_left
                          · simp only [Act.put, List.setIfInBounds_toArray, List.set_cons_zero, List.set_cons_succ, i64_w, i32_w]
                            rfl
                          refine one_ (i := 31) (N := some 85) #[true, true, true, true, true, true, true, true, true, true, true, true, true, true, true, true, true, true, true, true, true, true, true, true, true, true, true, true, true, true, true, true, true, true, true, true, true, false, false, false] rfl rfl (one_of HT_.out (by kernel_rfl)) (by decide) (fun K hK => ?_)
                          refine goes_ Try.func27 (by kernel_rfl) rfl #[.slice (some ad214) t202.length co33, .int .i64 ji24] (by rfl) rfl rfl (by (try simp only [List.map_toArray, List.map_cons, List.map_nil]); first | done | (simp only [hji24]; rfl) | rfl | (simp only [List.length_drop, List.length_take]; rfl)) ?_
                          with_reducible refine (probe_LeastT.calls k _ _ t202 ji24 t217 _ ?side1 ?side2 A30.out).mono ?_
                          (case side1 => repeat (first | exact (Kd.R_reads' HO204.out).2.2 | (with_reducible refine Kd.C_alloc ?_ _) | (with_reducible refine Kd.C_drewN ?_ _) | (with_reducible refine Kd.C_drew ?_)))
                          (case side2 => exact (Kd.R_reads' HO204.out).2.1)
                          rintro e w43 ⟨rfl, hb⟩
                          have HS0_ := (hb.cell (World.block_lt_of_cell? _ _ (hHeld.1))).trans (hHeld.1)
                          have HS1_ := (hb.cell (World.block_lt_of_cell? _ _ (hHeld.2.1))).trans (hHeld.2.1)
                          have HS2_ := (hb.cell (World.block_lt_of_cell? _ _ (hHeld.2.2.1))).trans (hHeld.2.2.1)
                          have HS3_ := (hb.cell (World.block_lt_of_cell? _ _ (hHeld.2.2.2.1))).trans (hHeld.2.2.2.1)
                          have HS4_ := (hb.cell (World.block_lt_of_cell? _ _ (hHeld.2.2.2.2.1))).trans (hHeld.2.2.2.2.1)
                          have HS5_ := (hb.cell (World.block_lt_of_cell? _ _ (hHeld.2.2.2.2.2.1))).trans (hHeld.2.2.2.2.2.1)
                          have HS6_ := (hb.cell (World.block_lt_of_cell? _ _ (hHeld.2.2.2.2.2.2.1))).trans (hHeld.2.2.2.2.2.2.1)
                          have HS7_ := (hb.cell (World.block_lt_of_cell? _ _ (hHeld.2.2.2.2.2.2.2.1))).trans (hHeld.2.2.2.2.2.2.2.1)
                          have HS8_ := (hb.cell (World.block_lt_of_cell? _ _ (hHeld.2.2.2.2.2.2.2.2.1))).trans (hHeld.2.2.2.2.2.2.2.2.1)
                          have HS9_ := (hb.cell (World.block_lt_of_cell? _ _ (hHeld.2.2.2.2.2.2.2.2.2.1))).trans (hHeld.2.2.2.2.2.2.2.2.2.1)
                          have HS10_ := (hb.cell (World.block_lt_of_cell? _ _ (hHeld.2.2.2.2.2.2.2.2.2.2.1))).trans (hHeld.2.2.2.2.2.2.2.2.2.2.1)
                          have HS11_ := (hb.cell (World.block_lt_of_cell? _ _ (hHeld.2.2.2.2.2.2.2.2.2.2.2.1))).trans (hHeld.2.2.2.2.2.2.2.2.2.2.2.1)
                          have HS12_ := (hb.cell (World.block_lt_of_cell? _ _ (hHeld.2.2.2.2.2.2.2.2.2.2.2.2.1))).trans (hHeld.2.2.2.2.2.2.2.2.2.2.2.2.1)
                          have HS13_ := (hb.cell (World.block_lt_of_cell? _ _ (hHeld.2.2.2.2.2.2.2.2.2.2.2.2.2.1))).trans (hHeld.2.2.2.2.2.2.2.2.2.2.2.2.2.1)
                          have HS14_ := (hb.cell (World.block_lt_of_cell? _ _ (hHeld.2.2.2.2.2.2.2.2.2.2.2.2.2.2))).trans (hHeld.2.2.2.2.2.2.2.2.2.2.2.2.2.2)
                          refine ⟨_, rfl, ?_⟩
                          have n0_ := Aside0.mk (Kd.R_below (by (with_reducible repeat (first | apply Kd.R_alloc | apply Kd.R_drewN | apply Kd.R_drew)); exact HO204.out) hb)
                          have n1_ := Aside0.mk (Kd.R_below (by (with_reducible repeat (first | apply Kd.R_alloc | apply Kd.R_drewN | apply Kd.R_drew)); exact HO211.out) hb)
                          have n2_ := Aside0.mk (below_step (by repeat (first | (with_reducible first | exact HB.out | apply below_alloc | apply pw_below_drewN | apply below_drew1) | exact HB.out)) hb)
                          clear HO204
                          clear HO211
                          clear HB
                          have HO204 := n0_
                          have HO211 := n1_
                          have HB := n2_
                          clear n0_ n1_ n2_
                          (try clear hb)
                          (try clear hb2)
                          (try clear hk)
                          (try clear hi)
                          refine hK.out _ _ ⟨HS0_, HS1_, HS2_, HS3_, HS4_, HS5_, HS6_, HS7_, HS8_, HS9_, HS10_, HS11_, HS12_, HS13_, HS14_⟩ (fun hHeld => ?_)
                          clear hK K
                          refine norm_ (a' := ?_) ?_ ?_
                          rotate_left
                          · show Act.put _ (some 85) _ = _
                            simp only [Act.put, List.setIfInBounds_toArray, List.set_cons_zero, List.set_cons_succ, i64_w, i32_w]
                            rfl
                          refine pure_ (i := 37) (N := some 91) (v := ?_) (a' := ?_) #[true, true, true, true, true, true, true, true, true, true, true, true, true, true, true, true, true, true, true, true, true, true, true, true, true, true, true, true, true, true, true, true, true, true, true, true, true, true, false, false] rfl rfl (any_of HT_.out (by kernel_rfl)) (fun _ _ _ h => h) (Or.inl ⟨by rfl, ?_⟩) ?_ ?_
                          rotate_left
                          · intro w'
                            go_simp
                            with_reducible rfl
                          rotate_left
                          · simp only [Act.put, List.setIfInBounds_toArray, List.set_cons_zero, List.set_cons_succ, i64_w, i32_w]
                            rfl
                          refine pure_ (i := 38) (N := some 92) (v := ?_) (a' := ?_) #[true, true, true, true, true, true, true, true, true, true, true, true, true, true, true, true, true, true, true, true, true, true, true, true, true, true, true, true, true, true, true, true, true, true, true, true, true, true, true, false] rfl rfl (any_of HT_.out (by kernel_rfl)) (fun _ _ _ h => h) (Or.inl ⟨by rfl, ?_⟩) ?_ ?_
                          rotate_left
                          · intro w'
                            go_simp
                            with_reducible rfl
                          rotate_left
                          · simp only [Act.put, List.setIfInBounds_toArray, List.set_cons_zero, List.set_cons_succ, i64_w, i32_w]
                            rfl
                          refine pure_ (i := 39) (N := some 6) (v := ?_) (a' := ?_) #[true, true, true, true, true, true, true, true, true, true, true, true, true, true, true, true, true, true, true, true, true, true, true, true, true, true, true, true, true, true, true, true, true, true, true, true, true, true, true, true] rfl rfl (any_of HT_.out (by kernel_rfl)) (fun _ _ _ h => h) (Or.inl ⟨by rfl, ?_⟩) ?_ ?_
                          rotate_left
                          · intro w'
                            go_simp
                            with_reducible rfl
                          rotate_left
                          · simp only [Act.put, List.setIfInBounds_toArray, List.set_cons_zero, List.set_cons_succ, i64_w, i32_w]
                            rfl
                          refine done_ (done_of HT_.out (by kernel_rfl)) ?_
                          try go_wp2
                          go_ret
                          exact ⟨by first | rfl | (simp [errW_none, errW_some] <;> rfl) | (simp only [← hji17, ← hji24]; first | rfl | (simp [errW_none, errW_some] <;> rfl)) | (simp [*, errW_none, errW_some] <;> rfl), by repeat (first | (with_reducible first | exact HB.out | apply below_alloc | apply pw_below_drewN | apply below_drew1) | exact HB.out)⟩
                        · rw [if_neg c29] at H
                          have c29b0 : decide (t215 ≤ ((rd_T28 t202 (ji24)).f3)) = false := decide_eq_false c29
                          clear c29
                          exact absurd ((Option.some.inj H).trans HRT.out) (by decide)
                      · rw [if_neg c27] at H
                        have c27b0 : decide (((rd_T28 t202 (ji24)).f1) ≤ t205) = false := decide_eq_false c27
                        clear c27
                        exact absurd ((Option.some.inj H).trans HRT.out) (by decide)
                    · rw [if_neg c26] at H
                      exact absurd H (by simp)
                  · rw [if_neg c25] at H
                    exact absurd H (by simp)
                · rw [if_neg c23] at H
                  have c23b0 : decide (t205 ≤ t213) = false := decide_eq_false c23
                  clear c23
                  exact absurd ((Option.some.inj H).trans HRT.out) (by decide)
              · replace c21 := Bool.eq_false_iff.mpr c21
                subst c21
                have H1 : (some false) = some r := by rw [if_neg (show ¬ (false = true) by decide)] at H; exact H
                clear H
                have H := H1
                clear H1
                exact absurd ((Option.some.inj H).trans HRT.out) (by decide)
            · rw [if_neg c19] at H
              exact absurd H (by simp)
          · rw [if_neg c18] at H
            exact absurd H (by simp)
        · rw [if_neg c16] at H
          exact absurd H (by simp)

def WF22 (x : S22) : Prop := (Lit.int .i64 x.f0).wf = true ∧ (Lit.int .i64 x.f1).wf = true ∧ (Lit.int .i64 x.f2).wf = true
set_option maxRecDepth 100000 in
theorem openk22 {H : Type} {enc : TypeId × Value → H} {W : World} {base : Nat} {spare : Nat → Bool} {held : Bool} {m : Nat} {cs : List Value} {x : DataW H × List MemPlace} (h : DataW.trod enc Try.prog W base spare held m 22 cs = some x) : ∃ y : S22, cs = [.int .i64 y.f0, .int .i64 y.f1, .int .i64 y.f2] ∧ WF22 y := by
  obtain ⟨xs, n, _, _, hl, hx, hf⟩ := DataW.trod_array Try.underlying22 h
  rw [show Try.prog.cellsOf 22 = 3 from by kernel_rfl] at hl
  obtain ⟨c0, c1, c2, rfl⟩ : ∃ c0 c1 c2, cs = [c0, c1, c2] := by clear h hf; match cs, hl with | [c0, c1, c2], _ => exact ⟨c0, c1, c2, rfl⟩
  obtain ⟨y0, y1, y2, rfl⟩ : ∃ y0 y1 y2, xs = [y0, y1, y2] := by clear hf; match xs, hx with | [y0, y1, y2], _ => exact ⟨y0, y1, y2, rfl⟩
  have g0 := hf 0 (by omega)
  rw [show Try.prog.cellsOf 3 = 1 from by kernel_rfl] at g0
  obtain ⟨v0, q0, _, w0⟩ := DataW.trod_int (cs := [c0]) (x := y0) Try.underlying3 g0
  simp only [List.cons.injEq, and_true] at q0
  subst q0
  have g1 := hf 1 (by omega)
  rw [show Try.prog.cellsOf 3 = 1 from by kernel_rfl] at g1
  obtain ⟨v1, q1, _, w1⟩ := DataW.trod_int (cs := [c1]) (x := y1) Try.underlying3 g1
  simp only [List.cons.injEq, and_true] at q1
  subst q1
  have g2 := hf 2 (by omega)
  rw [show Try.prog.cellsOf 3 = 1 from by kernel_rfl] at g2
  obtain ⟨v2, q2, _, w2⟩ := DataW.trod_int (cs := [c2]) (x := y2) Try.underlying3 g2
  simp only [List.cons.injEq, and_true] at q2
  subst q2
  refine ⟨⟨v0, v1, v2⟩, rfl, ?_⟩
  unfold WF22
  exact ⟨w0, w1, w2⟩
theorem addr_add_add (a : Addr) (i j : Nat) : (a.add i).add j = a.add (i + j) := by
  unfold Addr.add
  by_cases hi : i = 0 <;> by_cases hj : j = 0 <;> simp [hi, hj, Nat.add_assoc]
theorem rowsk22 {H : Type} {enc : TypeId × Value → H} {W : World} {base : Nat} {spare : Nat → Bool} {held : Bool} {t : Nat} {a : Option Addr} {len cap : Nat} {d : DataW H} {ps : List MemPlace} (hu : Try.prog.underlying t = some (.slice 22)) (h : DataW.Trod enc Try.prog W base spare held t (.slice a len cap) d ps) : ∃ l : List S22, l.length = len ∧ Kd.C k22 W a l.length l ∧ l.length ≤ cap ∧ ∀ x ∈ l, WF22 x := by
  obtain ⟨fuel, hf⟩ := h
  rcases Go.Deep.open_slice hu hf with ⟨hcs, _⟩ | ⟨x, l, c, m, n, D, Pl, hcs, hb, hl, hm, hmm, _, hel⟩
  · simp [Value.cells] at hcs
    obtain ⟨rfl, rfl, rfl⟩ := hcs
    exact ⟨[], rfl, Kd.C_nil _ _, Nat.le_refl _, by simp⟩
  · simp [Value.cells] at hcs
    obtain ⟨rfl, rfl, rfl⟩ := hcs
    have hle : len ≤ m := by rw [hmm]; split <;> omega
    rw [show Try.prog.cellsOf 22 = 3 from by kernel_rfl] at hel
    have hc : ∀ i, i < len → ∃ y : S22, W.cells? base (x.add (i * 3)) 3 = some [.int .i64 y.f0, .int .i64 y.f1, .int .i64 y.f2] ∧ WF22 y := by
      intro i hi
      obtain ⟨cs', h1, h2⟩ := hel i (by omega)
      obtain ⟨y, rfl, wy⟩ := openk22 h2
      exact ⟨y, h1, wy⟩
    haveI : Inhabited S22 := ⟨z22⟩
    obtain ⟨Y, hY⟩ := Go.Deep.choose_lt hc
    have hlen : ((List.range len).map Y).length = len := by simp
    refine ⟨(List.range len).map Y, hlen, ⟨rfl, by unfold maxLen at hm; omega, fun _ => ⟨x, rfl, fun j p hj => ?_⟩⟩, by omega, ?_⟩
    · obtain ⟨hj1, hj2⟩ := List.getElem?_eq_some_iff.1 hj
      have hj3 : j < len := by omega
      have hp : p = Y j := by rw [← hj2]; simp
      subst hp
      obtain ⟨h1, _⟩ := hY j hj3
      obtain ⟨_, _, h2⟩ := World.cells?_some h1
      refine ⟨[.int .i64 (Y j).f0, .int .i64 (Y j).f1, .int .i64 (Y j).f2], rfl, k22_mk _ _, fun i u hu => ?_⟩
      have hi : i < 3 := (List.getElem?_eq_some_iff.1 hu).1
      have h3 := h2 i hi
      rw [hu, addr_add_add] at h3
      exact h3
    · intro y hy
      obtain ⟨i, hi, rfl⟩ := List.mem_map.1 hy
      exact (hY i (by simpa using hi)).2
theorem sizedk22 {H : Type} {enc : TypeId × Value → H} {W : World} {base : Nat} {spare : Nat → Bool} {held : Bool} {t : Nat} {a : Option Addr} {len cap : Nat} {d : DataW H} {ps : List MemPlace} {ts : List TypeId} {ds : List (DataW H)} {j : Nat}
    (hsz : (DataW.weightsEach Try.prog ts ds).all (· ≤ reachBytes) = true) (ht : ts[j]? = some t) (hd : ds[j]? = some d) (hu : Try.prog.underlying t = some (.slice 22)) (h : DataW.Trod enc Try.prog W base spare held t (.slice a len cap) d ps) : len * 24 ≤ 140737488351232 := by
  obtain ⟨fuel, hf⟩ := h
  rcases Go.Deep.open_slice hu hf with ⟨hcs, _⟩ | ⟨x, l, c, m, n, D, Pl, hcs, hb, hl, hm, hmm, hx, hel⟩
  · simp [Value.cells] at hcs
    obtain ⟨rfl, rfl, rfl⟩ := hcs
    simp
  · simp [Value.cells] at hcs
    obtain ⟨rfl, rfl, rfl⟩ := hcs
    obtain ⟨rfl, _⟩ := Prod.mk.inj hx
    have z := sized_slice hsz ht hd hu
    rw [show Try.prog.bytesOf 22 = 24 from by kernel_rfl, List.length_map, List.length_range] at z
    exact Nat.le_trans (Nat.mul_le_mul_right _ (Nat.le_add_right _ _)) z
/-- THE ONE PURE STATEMENT of horariumlaw26_ProbeMore. -/
def horariumlaw26_ProbeMore.Pure : Prop := ∀ (l0 : List (S22)) (a1 : Int) (a2 : Int), l0.length * 24 ≤ 140737488351232 → (∀ x ∈ l0, WF22 x) → (Lit.int .i64 a1).wf = true → (Lit.int .i64 a2).wf = true → ∃ k, horariumlaw26_ProbeMore.f k l0 a1 a2 = some true
theorem horariumlaw26_ProbeMore.walk (P : horariumlaw26_ProbeMore.Pure) (A0 : Option Addr) (c0 : Nat) (l0 : List (S22)) (a1 : Int) (a2 : Int) (w : World) (hr0 : Kd.C k22 w A0 l0.length l0) (hc0 : l0.length ≤ c0) (y0 : l0.length * 24 ≤ 140737488351232) (w0 : (∀ x ∈ l0, WF22 x)) (w1 : (Lit.int .i64 a1).wf = true) (w2 : (Lit.int .i64 a2).wf = true) :
    Calls Try.prog 8 #[.slice A0 l0.length c0, .int .i64 a1, .int .i64 a2] w fun e w' => e = .returned (.bool true) ∧ Below w.heap.size w w' := by
  obtain ⟨k, h⟩ := P l0 a1 a2 y0 w0 w1 w2
  refine (horariumlaw26_ProbeMore.calls k A0 c0 l0 a1 a2 true w hr0 hc0 h rfl).mono ?_
  rintro e w' ⟨rfl, hd⟩
  exact ⟨rfl, hd⟩

end Go.Proofs.Ytmgmpifbhjoijaa.PProbeMore
