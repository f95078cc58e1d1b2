-- Made by px.py (a program of this session, over the kit's printer) out of the translation. Not trusted: Lean checks it.
import Derived.Test.YtmgmpifbhjoijaaPProbeEdgesx0
import Derived.Test.YtmgmpifbhjoijaaPProbeEdgesx4
import Derived.Test.YtmgmpifbhjoijaaPProbeEdgesx5
import Derived.Test.YtmgmpifbhjoijaaPProbeEdgesx6
import Derived.Test.YtmgmpifbhjoijaaPProbeEdgesx8
import Derived.Test.YtmgmpifbhjoijaaPProbeEdgesx9
namespace Go.Proofs.Ytmgmpifbhjoijaa.PProbeEdges
open Go.RowKit Go.Proofs.YtmgmpifbhjoijaaW.PrintWords Go.Proofs.YtmgmpifbhjoijaaW.PrintLast Go.Proofs.YtmgmpifbhjoijaaW.PrintMore
attribute [local go_sem] max2_int min2_int max_two min_two max_three min_three max_four min_four   -- for this text's walks alone
set_option linter.unusedVariables false
set_option linter.unusedSimpArgs false

/-! ### probe_LeastD: function 21 (by hand) -/
-- probe_may probe_fits slices_Clone_api_Task
def leastD.T3 : Bool × List (List Nat × List Nat) := (true, [([], []), ([], []), ([0, 1], [0, 1]), ([2], [2]), ([3], [3]), ([], []), ([], []), ([5, 6], [5, 6]), ([7], [7]), ([8], [8]), ([], []), ([4, 9, 10], [4, 9, 10]), ([11, 11, 0, 1, 2, 3, 4, 5, 6, 7, 8, 9, 10, 11], [11])])
def leastD.B3 : List Nat := [0, 0, 3, 7, 15, 0, 0, 96, 224, 480, 0, 2047, 4095]
theorem leastD.tab3 : rtab .any (opsOf Try.f21 3) = leastD.T3 := by kernel_rfl
theorem leastD.bits3 : waitsOk leastD.T3.2 leastD.B3 = true := by kernel_rfl
def probe_LeastD.f (k : Nat) (l0 : List S28) (a1 : Int) : Option Int := (probe_may.f k l0 a1).bind fun b => if b = true then (if l0.length < 3518437208883 then (firstO k (fun n => probe_fits.f k (l0.set a1.toNat (chD (rd_T28 l0 a1) n))) (rd_T28 l0 a1).f1 (rd_T28 l0 a1).f2).bind fun less => some less else none) else some 0
theorem probe_LeastD.mono : ∀ a0 a1 k, LeO (probe_LeastD.f k a0 a1) (probe_LeastD.f (k + 1) a0 a1) := by
  intro a0 a1 k
  unfold probe_LeastD.f
  exact LeO.bind (probe_may.mono _ _ k) (fun b => LeO.ite (LeO.ite (LeO.bind (firstO_mono (fun n => probe_fits.mono _ k) k _ _) (fun _ => LeO.refl _)) (LeO.refl _)) (LeO.refl _))
set_option maxHeartbeats 8000000 in
set_option maxRecDepth 100000 in
theorem probe_LeastD.calls (k : Nat) (A0 : Option Addr) (c0 : Nat) (l0 : List S28) (a1 : Int) (r : Int) (w : World) (hr0 : Kd.C k28 w A0 l0.length l0) (hc0 : l0.length ≤ c0) (h : probe_LeastD.f k l0 a1 = some r) :
    Calls Try.prog 21 #[.slice A0 l0.length c0, .int .i64 a1] w fun e w' => e = .returned (.int .i64 r) ∧ Below w.heap.size w w' := by
  unfold probe_LeastD.f at h
  obtain ⟨b, hb, h1⟩ := Option.bind_eq_some_iff.mp h
  have HMY := Lib.hid hb
  have HR0 := Lib.hid hr0
  have HC0 := Lib.hid hc0
  cases b with
  | false =>
    rw [if_neg (by decide)] at h1
    obtain rfl := Option.some.inj h1
    clear h h1 hb hr0 hc0
    go_enter Try.func21, Try.ntmps21
    go_wp2_with (go_at_call 45; refine (probe_may.calls k A0 c0 l0 a1 false _ (Kd.C_alloc (Kd.C_alloc HR0.out (.cells #[.slice A0 l0.length c0] 24)) (.cells #[.int .i64 a1] 3)) HC0.out HMY.out).mono ?_; rintro e w1 ⟨rfl, q1⟩; have HB1 := Lib.hid (below_step (below_alloc (below_alloc (Below.refl w.heap.size w) _) _) q1); clear q1)
    go_ret
    exact ⟨rfl, HB1.out⟩
  | true =>
    rw [if_pos rfl] at h1
    have hmy := hb
    unfold probe_may.f at hmy
    by_cases p0 : a1 ≥ 0
    case neg => rw [if_neg p0] at hmy; cases hmy
    rw [if_pos p0] at hmy
    by_cases p1 : a1 < (l0.length : Int)
    case neg => rw [if_neg p1] at hmy; cases hmy
    obtain ⟨i, rfl⟩ := Int.eq_ofNat_of_zero_le p0
    by_cases hl : l0.length < 3518437208883
    case neg => rw [if_neg hl] at h1; cases h1
    rw [if_pos hl, Int.toNat_natCast] at h1
    obtain ⟨less, hless, h2⟩ := Option.bind_eq_some_iff.mp h1
    obtain ⟨x, hxe⟩ : ∃ x, rd_T28 l0 (i : Int) = x := ⟨_, rfl⟩
    rw [hxe] at hless
    try rw [hxe] at h2
    have hx : l0[i]? = some x := by
      rw [List.getElem?_eq_getElem (show i < l0.length by omega), ← hxe]
      unfold rd_T28
      rw [Int.toNat_natCast, List.getD_eq_getElem?_getD, List.getElem?_eq_getElem (show i < l0.length by omega)]; rfl
    obtain rfl := Option.some.inj h2
    have HLS := Lib.hid hless
    have HXX := Lib.hid hx
    have HXE := Lib.hid hxe
    have HLN := Lib.hid hl
    clear h h1 h2 hb hmy hr0 hc0 hless hx hxe hl
    have i0 : (0 : Int) ≤ (i : Int) := by omega
    have i1 : (i : Int) < (l0.length : Int) := by omega
    clear p0 p1
    go_enter Try.func21, Try.ntmps21
    go_wp2_with fail
    obtain ⟨W, hW⟩ : ∃ W, (w.alloc (.cells #[.slice A0 l0.length c0] 24)).alloc (.cells #[.int .i64 (i : Int)] 3) = W := ⟨_, rfl⟩
    have HBX : Hid (BoxLI W A0 c0 l0 i w.heap.size (w.heap.size + 1)) := by
      rw [← hW]
      refine ⟨blk_alloc (heap_alloc_new w _) _, ?_, Kd.C_alloc (Kd.C_alloc HR0.out _) _⟩
      have := heap_alloc_new (w.alloc (.cells #[.slice A0 l0.length c0] 24)) (.cells #[.int .i64 (i : Int)] 3)
      simp only [World.size_alloc] at this; exact this
    have HB : Hid (Below w.heap.size w W) := by rw [← hW]; exact below_alloc (below_alloc (Below.refl _ _) _) _
    rw [hW]
    clear hW
    obtain ⟨bl, hbl⟩ : ∃ b, w.heap.size = b := ⟨_, rfl⟩
    obtain ⟨bi, hbi⟩ : ∃ b, bl + 1 = b := ⟨_, rfl⟩
    have HW0 := Lib.hid hbl
    rw [hbl, hbi] at HBX
    rw [hbl, hbi]
    clear hbl hbi
    go_wp2_with (go_at_call 45; refine (probe_may.calls k A0 c0 l0 (i : Int) true _ HBX.out.hr HC0.out HMY.out).mono ?_; rintro e w1 ⟨rfl, q1⟩; replace HBX := Lib.hid (HBX.out.below q1); replace HB := Lib.hid (below_step HB.out q1); clear q1; have cl := (blk_cell HBX.out.hl 0).trans rfl; have ci := (blk_cell HBX.out.hi 0).trans rfl; obtain ⟨ad, e0, x0, x1, x2, x3, x4⟩ := at_T28 HBX.out.hr (i : Int) i0 i1; cases e0; rw [HXE.out] at x0 x1 x2 x3 x4; simp only [Int.toNat_natCast] at x0 x1 x2 x3 x4)
    replace cl : w1.drew.cell? ⟨bl, 0, none⟩ = some (.slice (some ad) l0.length c0) := cl
    replace ci : w1.drew.cell? ⟨bi, 0, none⟩ = some (.int .i64 (i : Int)) := ci
    replace x1 : w1.drew.cell? ⟨(ad.add (i * 5)).block, (ad.add (i * 5)).off + 1, none⟩ = some (.int .i64 x.f1) := x1
    replace x2 : w1.drew.cell? ⟨(ad.add (i * 5)).block, (ad.add (i * 5)).off + 2, none⟩ = some (.int .i64 x.f2) := x2
    replace HBX := Lib.hid (HBX.out.below (below_drew (Below.refl w1.heap.size w1)))
    replace HB := Lib.hid (below_drew1 HB.out)
    clear x0 x3 x4
    refine start_ (n := 13) (S := fun w' => w'.cell? ⟨bl, 0, none⟩ = some (.slice (some ad) l0.length c0) ∧ w'.cell? ⟨bi, 0, none⟩ = some (.int .i64 (i : Int)) ∧ w'.cell? ⟨(ad.add (i * 5)).block, (ad.add (i * 5)).off + 1, none⟩ = some (.int .i64 x.f1) ∧ w'.cell? ⟨(ad.add (i * 5)).block, (ad.add (i * 5)).off + 2, none⟩ = some (.int .i64 x.f2)) (ds := []) #[false, false, false, false, false, false, false, false, false, false, false, false, false] (by kernel_rfl) rfl rfl ⟨cl, ci, x1, x2⟩ (fun hHeld => ?_); refine with_tabW leastD.tab3 leastD.bits3 (fun HT_ HW_ => ?_)
    generalize w1.drew = w5 at HBX HB cl ci x1 x2 hHeld ⊢
    refine take_ (i := 0) (N := some 9) (v := ?_) (a' := ?_) #[true, false, false, false, false, false, false, false, false, false, false, false, false] rfl rfl (take_ofW HT_.out HW_.out (by kernel_rfl)) (fun _ _ _ h => h) (Or.inl ⟨by rfl, ?_⟩) hHeld ?_ ?_
    rotate_left
    · rintro w' ⟨s0, s1, s2, s3⟩
      go_simp
      with_reducible rfl
    rotate_left
    · simp only [Act.put, List.setIfInBounds_toArray, List.set_cons_zero, List.set_cons_succ, i64_w, i32_w]
      rfl
    refine take_ (i := 1) (N := some 10) (v := ?_) (a' := ?_) #[true, true, false, false, false, false, false, false, false, false, false, false, false] rfl rfl (take_ofW HT_.out HW_.out (by kernel_rfl)) (fun _ _ _ h => h) (Or.inl ⟨by rfl, ?_⟩) hHeld ?_ ?_
    rotate_left
    · rintro w' ⟨s0, s1, s2, s3⟩
      go_simp
      with_reducible rfl
    rotate_left
    · simp only [Act.put, List.setIfInBounds_toArray, List.set_cons_zero, List.set_cons_succ, i64_w, i32_w]
      rfl
    refine pure_ (i := 2) (N := some 11) (v := ?_) (a' := ?_) #[true, true, true, false, false, false, false, false, false, false, false, false, false] rfl rfl (any_of HT_.out (by kernel_rfl)) (fun _ _ _ h => h) (Or.inl ⟨by rfl, ?_⟩) ?_ ?_
    rotate_left
    · intro w'
      go_simp
      with_reducible rfl
    rotate_left
    · simp only [Act.put, List.setIfInBounds_toArray, List.set_cons_zero, List.set_cons_succ, i64_w, i32_w]
      rfl
    refine pure_ (i := 3) (N := some 12) (v := ?_) (a' := ?_) #[true, true, true, true, false, false, false, false, false, false, false, false, false] rfl rfl (any_of HT_.out (by kernel_rfl)) (fun _ _ _ h => h) (Or.inl ⟨by rfl, ?_⟩) ?_ ?_
    rotate_left
    · intro w'
      go_simp
      with_reducible rfl
    rotate_left
    · simp only [Act.put, List.setIfInBounds_toArray, List.set_cons_zero, List.set_cons_succ, i64_w, i32_w]
      rfl
    refine take_ (i := 4) (N := some 13) (v := ?_) (a' := ?_) #[true, true, true, true, true, false, false, false, false, false, false, false, false] rfl rfl (take_ofW HT_.out HW_.out (by kernel_rfl)) (fun _ _ _ h => h) (Or.inl ⟨by rfl, ?_⟩) hHeld ?_ ?_
    rotate_left
    · rintro w' ⟨s0, s1, s2, s3⟩
      go_simp
      with_reducible rfl
    rotate_left
    · simp only [Act.put, List.setIfInBounds_toArray, List.set_cons_zero, List.set_cons_succ, i64_w, i32_w]
      rfl
    refine take_ (i := 5) (N := some 14) (v := ?_) (a' := ?_) #[true, true, true, true, true, true, false, false, false, false, false, false, false] rfl rfl (take_ofW HT_.out HW_.out (by kernel_rfl)) (fun _ _ _ h => h) (Or.inl ⟨by rfl, ?_⟩) hHeld ?_ ?_
    rotate_left
    · rintro w' ⟨s0, s1, s2, s3⟩
      go_simp
      with_reducible rfl
    rotate_left
    · simp only [Act.put, List.setIfInBounds_toArray, List.set_cons_zero, List.set_cons_succ, i64_w, i32_w]
      rfl
    refine take_ (i := 6) (N := some 15) (v := ?_) (a' := ?_) #[true, true, true, true, true, true, true, false, false, false, false, false, false] rfl rfl (take_ofW HT_.out HW_.out (by kernel_rfl)) (fun _ _ _ h => h) (Or.inl ⟨by rfl, ?_⟩) hHeld ?_ ?_
    rotate_left
    · rintro w' ⟨s0, s1, s2, s3⟩
      go_simp
      with_reducible rfl
    rotate_left
    · simp only [Act.put, List.setIfInBounds_toArray, List.set_cons_zero, List.set_cons_succ, i64_w, i32_w]
      rfl
    refine pure_ (i := 7) (N := some 16) (v := ?_) (a' := ?_) #[true, true, true, true, true, true, true, true, false, false, false, false, false] rfl rfl (any_of HT_.out (by kernel_rfl)) (fun _ _ _ h => h) (Or.inl ⟨by rfl, ?_⟩) ?_ ?_
    rotate_left
    · intro w'
      go_simp
      with_reducible rfl
    rotate_left
    · simp only [Act.put, List.setIfInBounds_toArray, List.set_cons_zero, List.set_cons_succ, i64_w, i32_w]
      rfl
    refine pure_ (i := 8) (N := some 17) (v := ?_) (a' := ?_) #[true, true, true, true, true, true, true, true, true, false, false, false, false] rfl rfl (any_of HT_.out (by kernel_rfl)) (fun _ _ _ h => h) (Or.inl ⟨by rfl, ?_⟩) ?_ ?_
    rotate_left
    · intro w'
      go_simp
      with_reducible rfl
    rotate_left
    · simp only [Act.put, List.setIfInBounds_toArray, List.set_cons_zero, List.set_cons_succ, i64_w, i32_w]
      rfl
    refine take_ (i := 9) (N := some 18) (v := ?_) (a' := ?_) #[true, true, true, true, true, true, true, true, true, true, false, false, false] rfl rfl (take_ofW HT_.out HW_.out (by kernel_rfl)) (fun _ _ _ h => h) (Or.inl ⟨by rfl, ?_⟩) hHeld ?_ ?_
    rotate_left
    · rintro w' ⟨s0, s1, s2, s3⟩
      go_simp
      with_reducible rfl
    rotate_left
    · simp only [Act.put, List.setIfInBounds_toArray, List.set_cons_zero, List.set_cons_succ, i64_w, i32_w]
      rfl
    refine pure_ (i := 10) (N := some 19) (v := ?_) (a' := ?_) #[true, true, true, true, true, true, true, true, true, true, true, false, false] rfl rfl (any_of HT_.out (by kernel_rfl)) (fun _ _ _ h => h) (Or.inl ⟨by rfl, ?_⟩) ?_ ?_
    rotate_left
    · intro w'
      go_simp
      with_reducible rfl
    rotate_left
    · simp only [Act.put, List.setIfInBounds_toArray, List.set_cons_zero, List.set_cons_succ, i64_w, i32_w]
      rfl
    refine one_ (i := 11) (N := some 20) #[true, true, true, true, true, true, true, true, true, true, true, true, false] rfl rfl (one_of HT_.out (by kernel_rfl)) (by decide) (fun K hK => ?_)
    refine goes_ Try.func46 (by kernel_rfl) rfl #[.int .i64 x.f1, .int .i64 x.f2, .func (.func 50) #[] #[.pointer (some ⟨bl, 0, none⟩), .pointer (some ⟨bi, 0, none⟩)]] (by rfl) rfl rfl (by (try simp only [List.map_toArray, List.map_cons, List.map_nil]); first | done | rfl) ?_
    refine (firstD.calls k k (some ad) c0 l0 i bl bi x.f1 x.f2 less w5 HBX.out HC0.out HLN.out x HXX.out HLS.out).mono ?_
    rintro e w6 ⟨rfl, q1⟩
    refine ⟨_, rfl, ?_⟩
    replace HB := Lib.hid (below_step HB.out q1)
    replace cl := (q1.cell (World.block_lt_of_cell? w5 _ cl)).trans cl
    replace ci := (q1.cell (World.block_lt_of_cell? w5 _ ci)).trans ci
    replace x1 := (q1.cell (World.block_lt_of_cell? w5 _ x1)).trans x1
    replace x2 := (q1.cell (World.block_lt_of_cell? w5 _ x2)).trans x2
    clear q1
    refine hK.out _ _ ⟨cl, ci, x1, x2⟩ (fun hHeld => ?_)
    clear hK K
    refine norm_ (a' := ?_) ?_ ?_
    rotate_left
    · show Act.put _ (some 20) _ = _
      simp only [Act.put, List.setIfInBounds_toArray, List.set_cons_zero, List.set_cons_succ, i64_w, i32_w]
      rfl
    refine pure_ (i := 12) (N := some 4) (v := ?_) (a' := ?_) #[true, true, true, true, true, true, true, true, true, true, true, true, true] rfl rfl (any_of HT_.out (by kernel_rfl)) (fun _ _ _ h => h) (Or.inl ⟨by rfl, ?_⟩) ?_ ?_
    rotate_left
    · intro w'
      go_simp
      with_reducible rfl
    rotate_left
    · simp only [Act.put, List.setIfInBounds_toArray, List.set_cons_zero, List.set_cons_succ, i64_w, i32_w]
      rfl
    refine done_ (done_of HT_.out (by kernel_rfl)) ?_
    clear hHeld
    go_wp2
    go_ret
    exact ⟨rfl, HB.out⟩

/-! ### horariumlaw26_ProbeEdges: function 6 -/
def horariumlaw26_ProbeEdges.j0 : Nat → Bool → List (S28) → Int → Int → Int → Bool → Int → Int → Int → Int → Int → Option (Bool)
  | 0, _, _, _, _, _, _, _, _, _, _, _ => none
  | k + 1, x5, x6, x7, x9, x10, x65, x208000, x208001, x208002, x208003, x208004 => if x65 = true then (some false) else ((some (([] : List (S28)) : List (S28))).bind fun y210 => (if y210.length + x6.length < 3518437208883 then ((some (y210 ++ x6 : List (S28))).bind fun y213 => (if 0 ≤ x7 then (if x7 < (y213.length : Int) then ((some (y213.set (x7 : Int).toNat (⟨(rd_T28 y213 x7).f0, x9, (rd_T28 y213 x7).f2, (rd_T28 y213 x7).f3, (rd_T28 y213 x7).f4⟩ : S28) : List (S28))).bind fun y216 => ((horariumref12_Test.f k y216).bind fun t217 => (if t217 = 0 then ((some (y216.set (x7 : Int).toNat (⟨(rd_T28 y216 x7).f0, wrap64 (x9 + 1), (rd_T28 y216 x7).f2, (rd_T28 y216 x7).f3, (rd_T28 y216 x7).f4⟩ : S28) : List (S28))).bind fun y218 => ((horariumref12_Test.f k y218).bind fun t219 => (if t219 = 0 then (some false) else ((some (y218.set (x7 : Int).toNat (⟨(rd_T28 y218 x7).f0, x208001, (rd_T28 y218 x7).f2, (rd_T28 y218 x7).f3, (rd_T28 y218 x7).f4⟩ : S28) : List (S28))).bind fun y220 => ((some (y220.set (x7 : Int).toNat (⟨(rd_T28 y220 x7).f0, (rd_T28 y220 x7).f1, x10, (rd_T28 y220 x7).f3, (rd_T28 y220 x7).f4⟩ : S28) : List (S28))).bind fun y221 => ((horariumref12_Test.f k y221).bind fun t222 => (if t222 = 0 then (if x5 = true then ((horariumref12_Test.f k (y221.set (x7 : Int).toNat (⟨(rd_T28 y221 x7).f0, (rd_T28 y221 x7).f1, wrap64 (x10 - 1), (rd_T28 y221 x7).f3, (rd_T28 y221 x7).f4⟩ : S28))).bind fun t224 => (some (t224 != 0))) else (some false)) else (some false)))))))) else (some false)))) else (none)) else (none))) else (none)))
def horariumlaw26_ProbeEdges.f (k : Nat) (l0 : List (S22)) (a1 : Int) : Option (Bool) := (horariumlaw26_awake.f k).bind fun t201 => ((horariumlaw26_made.f k l0 true).bind fun t202 => (if (t202.length : Int) = 0 then (if t201 = true then ((probe_MostC.f k t202 0).bind fun t205 => (some (t205 == 0))) else (some false)) else (if 0 ≤ (Int.tmod (wrap64 ((Int.tmod a1 (t202.length : Int)) + (t202.length : Int))) (t202.length : Int)) then (if (Int.tmod (wrap64 ((Int.tmod a1 (t202.length : Int)) + (t202.length : Int))) (t202.length : Int)) < (t202.length : Int) then ((probe_MostC.f k t202 (Int.tmod (wrap64 ((Int.tmod a1 (t202.length : Int)) + (t202.length : Int))) (t202.length : Int))).bind fun t208 => ((probe_LeastD.f k t202 (Int.tmod (wrap64 ((Int.tmod a1 (t202.length : Int)) + (t202.length : Int))) (t202.length : Int))).bind fun t209 => (if t208 < ((rd_T28 t202 (Int.tmod (wrap64 ((Int.tmod a1 (t202.length : Int)) + (t202.length : Int))) (t202.length : Int))).f1) then (horariumlaw26_ProbeEdges.j0 k t201 t202 (Int.tmod (wrap64 ((Int.tmod a1 (t202.length : Int)) + (t202.length : Int))) (t202.length : Int)) t208 t209 true ((rd_T28 t202 (Int.tmod (wrap64 ((Int.tmod a1 (t202.length : Int)) + (t202.length : Int))) (t202.length : Int))).f0) ((rd_T28 t202 (Int.tmod (wrap64 ((Int.tmod a1 (t202.length : Int)) + (t202.length : Int))) (t202.length : Int))).f1) ((rd_T28 t202 (Int.tmod (wrap64 ((Int.tmod a1 (t202.length : Int)) + (t202.length : Int))) (t202.length : Int))).f2) ((rd_T28 t202 (Int.tmod (wrap64 ((Int.tmod a1 (t202.length : Int)) + (t202.length : Int))) (t202.length : Int))).f3) ((rd_T28 t202 (Int.tmod (wrap64 ((Int.tmod a1 (t202.length : Int)) + (t202.length : Int))) (t202.length : Int))).f4)) else (if t208 > ((rd_T28 t202 (Int.tmod (wrap64 ((Int.tmod a1 (t202.length : Int)) + (t202.length : Int))) (t202.length : Int))).f2) then (horariumlaw26_ProbeEdges.j0 k t201 t202 (Int.tmod (wrap64 ((Int.tmod a1 (t202.length : Int)) + (t202.length : Int))) (t202.length : Int)) t208 t209 true ((rd_T28 t202 (Int.tmod (wrap64 ((Int.tmod a1 (t202.length : Int)) + (t202.length : Int))) (t202.length : Int))).f0) ((rd_T28 t202 (Int.tmod (wrap64 ((Int.tmod a1 (t202.length : Int)) + (t202.length : Int))) (t202.length : Int))).f1) ((rd_T28 t202 (Int.tmod (wrap64 ((Int.tmod a1 (t202.length : Int)) + (t202.length : Int))) (t202.length : Int))).f2) ((rd_T28 t202 (Int.tmod (wrap64 ((Int.tmod a1 (t202.length : Int)) + (t202.length : Int))) (t202.length : Int))).f3) ((rd_T28 t202 (Int.tmod (wrap64 ((Int.tmod a1 (t202.length : Int)) + (t202.length : Int))) (t202.length : Int))).f4)) else (if t209 < ((rd_T28 t202 (Int.tmod (wrap64 ((Int.tmod a1 (t202.length : Int)) + (t202.length : Int))) (t202.length : Int))).f1) then (horariumlaw26_ProbeEdges.j0 k t201 t202 (Int.tmod (wrap64 ((Int.tmod a1 (t202.length : Int)) + (t202.length : Int))) (t202.length : Int)) t208 t209 true ((rd_T28 t202 (Int.tmod (wrap64 ((Int.tmod a1 (t202.length : Int)) + (t202.length : Int))) (t202.length : Int))).f0) ((rd_T28 t202 (Int.tmod (wrap64 ((Int.tmod a1 (t202.length : Int)) + (t202.length : Int))) (t202.length : Int))).f1) ((rd_T28 t202 (Int.tmod (wrap64 ((Int.tmod a1 (t202.length : Int)) + (t202.length : Int))) (t202.length : Int))).f2) ((rd_T28 t202 (Int.tmod (wrap64 ((Int.tmod a1 (t202.length : Int)) + (t202.length : Int))) (t202.length : Int))).f3) ((rd_T28 t202 (Int.tmod (wrap64 ((Int.tmod a1 (t202.length : Int)) + (t202.length : Int))) (t202.length : Int))).f4)) else (horariumlaw26_ProbeEdges.j0 k t201 t202 (Int.tmod (wrap64 ((Int.tmod a1 (t202.length : Int)) + (t202.length : Int))) (t202.length : Int)) t208 t209 (decide (t209 > ((rd_T28 t202 (Int.tmod (wrap64 ((Int.tmod a1 (t202.length : Int)) + (t202.length : Int))) (t202.length : Int))).f2))) ((rd_T28 t202 (Int.tmod (wrap64 ((Int.tmod a1 (t202.length : Int)) + (t202.length : Int))) (t202.length : Int))).f0) ((rd_T28 t202 (Int.tmod (wrap64 ((Int.tmod a1 (t202.length : Int)) + (t202.length : Int))) (t202.length : Int))).f1) ((rd_T28 t202 (Int.tmod (wrap64 ((Int.tmod a1 (t202.length : Int)) + (t202.length : Int))) (t202.length : Int))).f2) ((rd_T28 t202 (Int.tmod (wrap64 ((Int.tmod a1 (t202.length : Int)) + (t202.length : Int))) (t202.length : Int))).f3) ((rd_T28 t202 (Int.tmod (wrap64 ((Int.tmod a1 (t202.length : Int)) + (t202.length : Int))) (t202.length : Int))).f4))))))) else (none)) else (none))))
theorem horariumlaw26_ProbeEdges.mono_l : ∀ k, (∀ y0 y1 y2 y3 y4 y5 y6 y7 y8 y9 y10, LeO (horariumlaw26_ProbeEdges.j0 k y0 y1 y2 y3 y4 y5 y6 y7 y8 y9 y10) (horariumlaw26_ProbeEdges.j0 (k + 1) y0 y1 y2 y3 y4 y5 y6 y7 y8 y9 y10))
  | 0 => fun _ _ _ _ _ _ _ _ _ _ _ r h => by simp [horariumlaw26_ProbeEdges.j0] at h
  | k + 1 => by
    have ih0 := horariumlaw26_ProbeEdges.mono_l k
    · intro y0 y1 y2 y3 y4 y5 y6 y7 y8 y9 y10
      unfold horariumlaw26_ProbeEdges.j0
      repeat' first
      | (with_reducible exact ih0 _ _ _ _ _ _ _ _ _ _ _)
      | (with_reducible exact horariumlaw26_awake.mono _)
      | (with_reducible exact horariumlaw26_made.mono _ _ _)
      | (with_reducible exact horariumref12_Test.mono _ _)
      | (with_reducible exact probe_LeastD.mono _ _ _)
      | (with_reducible exact probe_MostC.mono _ _ _)
      | (with_reducible exact LeO.refl _)
      | (with_reducible exact LeO.none _)
      | (with_reducible refine LeO.ite ?_ ?_)
      | (with_reducible refine LeO.bind ?_ (fun _ => ?_))
      | exact ih0 _ _ _ _ _ _ _ _ _ _ _
      | exact horariumlaw26_awake.mono _
      | exact horariumlaw26_made.mono _ _ _
      | exact horariumref12_Test.mono _ _
      | exact probe_LeastD.mono _ _ _
      | exact probe_MostC.mono _ _ _
      | exact LeO.none _
      | refine LeO.ite ?_ ?_
      | refine LeO.bind ?_ (fun _ => ?_)
theorem horariumlaw26_ProbeEdges.mono : ∀ a0 a1 k, LeO (horariumlaw26_ProbeEdges.f k a0 a1) (horariumlaw26_ProbeEdges.f (k + 1) a0 a1) := by
  intro a0 a1 k
  have ih0 := horariumlaw26_ProbeEdges.mono_l k
  unfold horariumlaw26_ProbeEdges.f
  repeat' first
      | (with_reducible exact ih0 _ _ _ _ _ _ _ _ _ _ _)
      | (with_reducible exact horariumlaw26_awake.mono _)
      | (with_reducible exact horariumlaw26_made.mono _ _ _)
      | (with_reducible exact horariumref12_Test.mono _ _)
      | (with_reducible exact probe_LeastD.mono _ _ _)
      | (with_reducible exact probe_MostC.mono _ _ _)
      | (with_reducible exact LeO.refl _)
      | (with_reducible exact LeO.none _)
      | (with_reducible refine LeO.ite ?_ ?_)
      | (with_reducible refine LeO.bind ?_ (fun _ => ?_))
      | exact ih0 _ _ _ _ _ _ _ _ _ _ _
      | exact horariumlaw26_awake.mono _
      | exact horariumlaw26_made.mono _ _ _
      | exact horariumref12_Test.mono _ _
      | exact probe_LeastD.mono _ _ _
      | exact probe_MostC.mono _ _ _
      | exact LeO.none _
      | refine LeO.ite ?_ ?_
      | refine LeO.bind ?_ (fun _ => ?_)
set_option maxHeartbeats 8000000 in
set_option maxRecDepth 100000 in
theorem horariumlaw26_ProbeEdges.calls (k : Nat) (A0 : Option Addr) (c0 : Nat) (l0 : List (S22)) (a1 : Int) (r : Bool) (w : World) (hr0 : Kd.C k22 w A0 l0.length l0) (hc0 : l0.length ≤ c0) (h : horariumlaw26_ProbeEdges.f k l0 a1 = some r) (hrt : r = true) :
    Calls Try.prog 6 #[.slice A0 l0.length c0, .int .i64 a1] w fun e w' => e = .returned (.bool r) ∧ Below w.heap.size w w' := by
  have HRT := Lib.hid hrt
  clear hrt
  have hu28 := Try.underlying28
  have HR0 := Aside0.mk hr0
  have HC0 := Aside0.mk hc0
  clear hr0 hc0
  have HB := Aside0.mk (Below.refl w.heap.size w)
  have H : ((horariumlaw26_awake.f k).bind fun t201 => ((horariumlaw26_made.f k l0 true).bind fun t202 => (if (t202.length : Int) = 0 then (if t201 = true then ((probe_MostC.f k t202 0).bind fun t205 => (some (t205 == 0))) else (some false)) else (if 0 ≤ (Int.tmod (wrap64 ((Int.tmod a1 (t202.length : Int)) + (t202.length : Int))) (t202.length : Int)) then (if (Int.tmod (wrap64 ((Int.tmod a1 (t202.length : Int)) + (t202.length : Int))) (t202.length : Int)) < (t202.length : Int) then ((probe_MostC.f k t202 (Int.tmod (wrap64 ((Int.tmod a1 (t202.length : Int)) + (t202.length : Int))) (t202.length : Int))).bind fun t208 => ((probe_LeastD.f k t202 (Int.tmod (wrap64 ((Int.tmod a1 (t202.length : Int)) + (t202.length : Int))) (t202.length : Int))).bind fun t209 => (if t208 < ((rd_T28 t202 (Int.tmod (wrap64 ((Int.tmod a1 (t202.length : Int)) + (t202.length : Int))) (t202.length : Int))).f1) then (horariumlaw26_ProbeEdges.j0 k t201 t202 (Int.tmod (wrap64 ((Int.tmod a1 (t202.length : Int)) + (t202.length : Int))) (t202.length : Int)) t208 t209 true ((rd_T28 t202 (Int.tmod (wrap64 ((Int.tmod a1 (t202.length : Int)) + (t202.length : Int))) (t202.length : Int))).f0) ((rd_T28 t202 (Int.tmod (wrap64 ((Int.tmod a1 (t202.length : Int)) + (t202.length : Int))) (t202.length : Int))).f1) ((rd_T28 t202 (Int.tmod (wrap64 ((Int.tmod a1 (t202.length : Int)) + (t202.length : Int))) (t202.length : Int))).f2) ((rd_T28 t202 (Int.tmod (wrap64 ((Int.tmod a1 (t202.length : Int)) + (t202.length : Int))) (t202.length : Int))).f3) ((rd_T28 t202 (Int.tmod (wrap64 ((Int.tmod a1 (t202.length : Int)) + (t202.length : Int))) (t202.length : Int))).f4)) else (if t208 > ((rd_T28 t202 (Int.tmod (wrap64 ((Int.tmod a1 (t202.length : Int)) + (t202.length : Int))) (t202.length : Int))).f2) then (horariumlaw26_ProbeEdges.j0 k t201 t202 (Int.tmod (wrap64 ((Int.tmod a1 (t202.length : Int)) + (t202.length : Int))) (t202.length : Int)) t208 t209 true ((rd_T28 t202 (Int.tmod (wrap64 ((Int.tmod a1 (t202.length : Int)) + (t202.length : Int))) (t202.length : Int))).f0) ((rd_T28 t202 (Int.tmod (wrap64 ((Int.tmod a1 (t202.length : Int)) + (t202.length : Int))) (t202.length : Int))).f1) ((rd_T28 t202 (Int.tmod (wrap64 ((Int.tmod a1 (t202.length : Int)) + (t202.length : Int))) (t202.length : Int))).f2) ((rd_T28 t202 (Int.tmod (wrap64 ((Int.tmod a1 (t202.length : Int)) + (t202.length : Int))) (t202.length : Int))).f3) ((rd_T28 t202 (Int.tmod (wrap64 ((Int.tmod a1 (t202.length : Int)) + (t202.length : Int))) (t202.length : Int))).f4)) else (if t209 < ((rd_T28 t202 (Int.tmod (wrap64 ((Int.tmod a1 (t202.length : Int)) + (t202.length : Int))) (t202.length : Int))).f1) then (horariumlaw26_ProbeEdges.j0 k t201 t202 (Int.tmod (wrap64 ((Int.tmod a1 (t202.length : Int)) + (t202.length : Int))) (t202.length : Int)) t208 t209 true ((rd_T28 t202 (Int.tmod (wrap64 ((Int.tmod a1 (t202.length : Int)) + (t202.length : Int))) (t202.length : Int))).f0) ((rd_T28 t202 (Int.tmod (wrap64 ((Int.tmod a1 (t202.length : Int)) + (t202.length : Int))) (t202.length : Int))).f1) ((rd_T28 t202 (Int.tmod (wrap64 ((Int.tmod a1 (t202.length : Int)) + (t202.length : Int))) (t202.length : Int))).f2) ((rd_T28 t202 (Int.tmod (wrap64 ((Int.tmod a1 (t202.length : Int)) + (t202.length : Int))) (t202.length : Int))).f3) ((rd_T28 t202 (Int.tmod (wrap64 ((Int.tmod a1 (t202.length : Int)) + (t202.length : Int))) (t202.length : Int))).f4)) else (horariumlaw26_ProbeEdges.j0 k t201 t202 (Int.tmod (wrap64 ((Int.tmod a1 (t202.length : Int)) + (t202.length : Int))) (t202.length : Int)) t208 t209 (decide (t209 > ((rd_T28 t202 (Int.tmod (wrap64 ((Int.tmod a1 (t202.length : Int)) + (t202.length : Int))) (t202.length : Int))).f2))) ((rd_T28 t202 (Int.tmod (wrap64 ((Int.tmod a1 (t202.length : Int)) + (t202.length : Int))) (t202.length : Int))).f0) ((rd_T28 t202 (Int.tmod (wrap64 ((Int.tmod a1 (t202.length : Int)) + (t202.length : Int))) (t202.length : Int))).f1) ((rd_T28 t202 (Int.tmod (wrap64 ((Int.tmod a1 (t202.length : Int)) + (t202.length : Int))) (t202.length : Int))).f2) ((rd_T28 t202 (Int.tmod (wrap64 ((Int.tmod a1 (t202.length : Int)) + (t202.length : Int))) (t202.length : Int))).f3) ((rd_T28 t202 (Int.tmod (wrap64 ((Int.tmod a1 (t202.length : Int)) + (t202.length : Int))) (t202.length : Int))).f4))))))) else (none)) else (none))))) = some r := h
  clear h
  replace H := Option.bind_eq_some_iff.mp H
  obtain ⟨t201, A30, H⟩ := H
  replace H : ((horariumlaw26_made.f k l0 true).bind fun t202 => (if (t202.length : Int) = 0 then (if t201 = true then ((probe_MostC.f k t202 0).bind fun t205 => (some (t205 == 0))) else (some false)) else (if 0 ≤ (Int.tmod (wrap64 ((Int.tmod a1 (t202.length : Int)) + (t202.length : Int))) (t202.length : Int)) then (if (Int.tmod (wrap64 ((Int.tmod a1 (t202.length : Int)) + (t202.length : Int))) (t202.length : Int)) < (t202.length : Int) then ((probe_MostC.f k t202 (Int.tmod (wrap64 ((Int.tmod a1 (t202.length : Int)) + (t202.length : Int))) (t202.length : Int))).bind fun t208 => ((probe_LeastD.f k t202 (Int.tmod (wrap64 ((Int.tmod a1 (t202.length : Int)) + (t202.length : Int))) (t202.length : Int))).bind fun t209 => (if t208 < ((rd_T28 t202 (Int.tmod (wrap64 ((Int.tmod a1 (t202.length : Int)) + (t202.length : Int))) (t202.length : Int))).f1) then (horariumlaw26_ProbeEdges.j0 k t201 t202 (Int.tmod (wrap64 ((Int.tmod a1 (t202.length : Int)) + (t202.length : Int))) (t202.length : Int)) t208 t209 true ((rd_T28 t202 (Int.tmod (wrap64 ((Int.tmod a1 (t202.length : Int)) + (t202.length : Int))) (t202.length : Int))).f0) ((rd_T28 t202 (Int.tmod (wrap64 ((Int.tmod a1 (t202.length : Int)) + (t202.length : Int))) (t202.length : Int))).f1) ((rd_T28 t202 (Int.tmod (wrap64 ((Int.tmod a1 (t202.length : Int)) + (t202.length : Int))) (t202.length : Int))).f2) ((rd_T28 t202 (Int.tmod (wrap64 ((Int.tmod a1 (t202.length : Int)) + (t202.length : Int))) (t202.length : Int))).f3) ((rd_T28 t202 (Int.tmod (wrap64 ((Int.tmod a1 (t202.length : Int)) + (t202.length : Int))) (t202.length : Int))).f4)) else (if t208 > ((rd_T28 t202 (Int.tmod (wrap64 ((Int.tmod a1 (t202.length : Int)) + (t202.length : Int))) (t202.length : Int))).f2) then (horariumlaw26_ProbeEdges.j0 k t201 t202 (Int.tmod (wrap64 ((Int.tmod a1 (t202.length : Int)) + (t202.length : Int))) (t202.length : Int)) t208 t209 true ((rd_T28 t202 (Int.tmod (wrap64 ((Int.tmod a1 (t202.length : Int)) + (t202.length : Int))) (t202.length : Int))).f0) ((rd_T28 t202 (Int.tmod (wrap64 ((Int.tmod a1 (t202.length : Int)) + (t202.length : Int))) (t202.length : Int))).f1) ((rd_T28 t202 (Int.tmod (wrap64 ((Int.tmod a1 (t202.length : Int)) + (t202.length : Int))) (t202.length : Int))).f2) ((rd_T28 t202 (Int.tmod (wrap64 ((Int.tmod a1 (t202.length : Int)) + (t202.length : Int))) (t202.length : Int))).f3) ((rd_T28 t202 (Int.tmod (wrap64 ((Int.tmod a1 (t202.length : Int)) + (t202.length : Int))) (t202.length : Int))).f4)) else (if t209 < ((rd_T28 t202 (Int.tmod (wrap64 ((Int.tmod a1 (t202.length : Int)) + (t202.length : Int))) (t202.length : Int))).f1) then (horariumlaw26_ProbeEdges.j0 k t201 t202 (Int.tmod (wrap64 ((Int.tmod a1 (t202.length : Int)) + (t202.length : Int))) (t202.length : Int)) t208 t209 true ((rd_T28 t202 (Int.tmod (wrap64 ((Int.tmod a1 (t202.length : Int)) + (t202.length : Int))) (t202.length : Int))).f0) ((rd_T28 t202 (Int.tmod (wrap64 ((Int.tmod a1 (t202.length : Int)) + (t202.length : Int))) (t202.length : Int))).f1) ((rd_T28 t202 (Int.tmod (wrap64 ((Int.tmod a1 (t202.length : Int)) + (t202.length : Int))) (t202.length : Int))).f2) ((rd_T28 t202 (Int.tmod (wrap64 ((Int.tmod a1 (t202.length : Int)) + (t202.length : Int))) (t202.length : Int))).f3) ((rd_T28 t202 (Int.tmod (wrap64 ((Int.tmod a1 (t202.length : Int)) + (t202.length : Int))) (t202.length : Int))).f4)) else (horariumlaw26_ProbeEdges.j0 k t201 t202 (Int.tmod (wrap64 ((Int.tmod a1 (t202.length : Int)) + (t202.length : Int))) (t202.length : Int)) t208 t209 (decide (t209 > ((rd_T28 t202 (Int.tmod (wrap64 ((Int.tmod a1 (t202.length : Int)) + (t202.length : Int))) (t202.length : Int))).f2))) ((rd_T28 t202 (Int.tmod (wrap64 ((Int.tmod a1 (t202.length : Int)) + (t202.length : Int))) (t202.length : Int))).f0) ((rd_T28 t202 (Int.tmod (wrap64 ((Int.tmod a1 (t202.length : Int)) + (t202.length : Int))) (t202.length : Int))).f1) ((rd_T28 t202 (Int.tmod (wrap64 ((Int.tmod a1 (t202.length : Int)) + (t202.length : Int))) (t202.length : Int))).f2) ((rd_T28 t202 (Int.tmod (wrap64 ((Int.tmod a1 (t202.length : Int)) + (t202.length : Int))) (t202.length : Int))).f3) ((rd_T28 t202 (Int.tmod (wrap64 ((Int.tmod a1 (t202.length : Int)) + (t202.length : Int))) (t202.length : Int))).f4))))))) else (none)) else (none)))) = some r := H
  have A3 := Aside0.mk A30
  clear A30
  replace H := Option.bind_eq_some_iff.mp H
  obtain ⟨t202, A40, H⟩ := H
  replace H : (if (t202.length : Int) = 0 then (if t201 = true then ((probe_MostC.f k t202 0).bind fun t205 => (some (t205 == 0))) else (some false)) else (if 0 ≤ (Int.tmod (wrap64 ((Int.tmod a1 (t202.length : Int)) + (t202.length : Int))) (t202.length : Int)) then (if (Int.tmod (wrap64 ((Int.tmod a1 (t202.length : Int)) + (t202.length : Int))) (t202.length : Int)) < (t202.length : Int) then ((probe_MostC.f k t202 (Int.tmod (wrap64 ((Int.tmod a1 (t202.length : Int)) + (t202.length : Int))) (t202.length : Int))).bind fun t208 => ((probe_LeastD.f k t202 (Int.tmod (wrap64 ((Int.tmod a1 (t202.length : Int)) + (t202.length : Int))) (t202.length : Int))).bind fun t209 => (if t208 < ((rd_T28 t202 (Int.tmod (wrap64 ((Int.tmod a1 (t202.length : Int)) + (t202.length : Int))) (t202.length : Int))).f1) then (horariumlaw26_ProbeEdges.j0 k t201 t202 (Int.tmod (wrap64 ((Int.tmod a1 (t202.length : Int)) + (t202.length : Int))) (t202.length : Int)) t208 t209 true ((rd_T28 t202 (Int.tmod (wrap64 ((Int.tmod a1 (t202.length : Int)) + (t202.length : Int))) (t202.length : Int))).f0) ((rd_T28 t202 (Int.tmod (wrap64 ((Int.tmod a1 (t202.length : Int)) + (t202.length : Int))) (t202.length : Int))).f1) ((rd_T28 t202 (Int.tmod (wrap64 ((Int.tmod a1 (t202.length : Int)) + (t202.length : Int))) (t202.length : Int))).f2) ((rd_T28 t202 (Int.tmod (wrap64 ((Int.tmod a1 (t202.length : Int)) + (t202.length : Int))) (t202.length : Int))).f3) ((rd_T28 t202 (Int.tmod (wrap64 ((Int.tmod a1 (t202.length : Int)) + (t202.length : Int))) (t202.length : Int))).f4)) else (if t208 > ((rd_T28 t202 (Int.tmod (wrap64 ((Int.tmod a1 (t202.length : Int)) + (t202.length : Int))) (t202.length : Int))).f2) then (horariumlaw26_ProbeEdges.j0 k t201 t202 (Int.tmod (wrap64 ((Int.tmod a1 (t202.length : Int)) + (t202.length : Int))) (t202.length : Int)) t208 t209 true ((rd_T28 t202 (Int.tmod (wrap64 ((Int.tmod a1 (t202.length : Int)) + (t202.length : Int))) (t202.length : Int))).f0) ((rd_T28 t202 (Int.tmod (wrap64 ((Int.tmod a1 (t202.length : Int)) + (t202.length : Int))) (t202.length : Int))).f1) ((rd_T28 t202 (Int.tmod (wrap64 ((Int.tmod a1 (t202.length : Int)) + (t202.length : Int))) (t202.length : Int))).f2) ((rd_T28 t202 (Int.tmod (wrap64 ((Int.tmod a1 (t202.length : Int)) + (t202.length : Int))) (t202.length : Int))).f3) ((rd_T28 t202 (Int.tmod (wrap64 ((Int.tmod a1 (t202.length : Int)) + (t202.length : Int))) (t202.length : Int))).f4)) else (if t209 < ((rd_T28 t202 (Int.tmod (wrap64 ((Int.tmod a1 (t202.length : Int)) + (t202.length : Int))) (t202.length : Int))).f1) then (horariumlaw26_ProbeEdges.j0 k t201 t202 (Int.tmod (wrap64 ((Int.tmod a1 (t202.length : Int)) + (t202.length : Int))) (t202.length : Int)) t208 t209 true ((rd_T28 t202 (Int.tmod (wrap64 ((Int.tmod a1 (t202.length : Int)) + (t202.length : Int))) (t202.length : Int))).f0) ((rd_T28 t202 (Int.tmod (wrap64 ((Int.tmod a1 (t202.length : Int)) + (t202.length : Int))) (t202.length : Int))).f1) ((rd_T28 t202 (Int.tmod (wrap64 ((Int.tmod a1 (t202.length : Int)) + (t202.length : Int))) (t202.length : Int))).f2) ((rd_T28 t202 (Int.tmod (wrap64 ((Int.tmod a1 (t202.length : Int)) + (t202.length : Int))) (t202.length : Int))).f3) ((rd_T28 t202 (Int.tmod (wrap64 ((Int.tmod a1 (t202.length : Int)) + (t202.length : Int))) (t202.length : Int))).f4)) else (horariumlaw26_ProbeEdges.j0 k t201 t202 (Int.tmod (wrap64 ((Int.tmod a1 (t202.length : Int)) + (t202.length : Int))) (t202.length : Int)) t208 t209 (decide (t209 > ((rd_T28 t202 (Int.tmod (wrap64 ((Int.tmod a1 (t202.length : Int)) + (t202.length : Int))) (t202.length : Int))).f2))) ((rd_T28 t202 (Int.tmod (wrap64 ((Int.tmod a1 (t202.length : Int)) + (t202.length : Int))) (t202.length : Int))).f0) ((rd_T28 t202 (Int.tmod (wrap64 ((Int.tmod a1 (t202.length : Int)) + (t202.length : Int))) (t202.length : Int))).f1) ((rd_T28 t202 (Int.tmod (wrap64 ((Int.tmod a1 (t202.length : Int)) + (t202.length : Int))) (t202.length : Int))).f2) ((rd_T28 t202 (Int.tmod (wrap64 ((Int.tmod a1 (t202.length : Int)) + (t202.length : Int))) (t202.length : Int))).f3) ((rd_T28 t202 (Int.tmod (wrap64 ((Int.tmod a1 (t202.length : Int)) + (t202.length : Int))) (t202.length : Int))).f4))))))) else (none)) else (none))) = some r := H
  have A4 := Aside0.mk A40
  clear A40
  by_cases c5 : (t202.length : Int) = 0
  · rw [if_pos c5] at H
    have c5b0 : ((t202.length : Int) == 0) = true := beq_iff_eq.mpr c5
    have c5b1 : ((t202.length : Int) != 0) = false := bne_eq_false_iff_eq.mpr c5
    clear c5
    by_cases c6 : t201 = true
    · subst c6
      have H1 : ((probe_MostC.f k t202 0).bind fun t205 => (some (t205 == 0))) = some r := by rw [if_pos rfl] at H; exact H
      clear H
      have H := H1
      clear H1
      replace H := Option.bind_eq_some_iff.mp H
      obtain ⟨t205, A70, H⟩ := H
      replace H : (some (t205 == 0)) = some r := H
      have A7 := Aside0.mk A70
      clear A70
      obtain rfl := Option.some.inj H
      go_enter Try.func6, Try.ntmps6
      go_wp2_with (first | ((with_reducible refine gate_callee (f := 18) rfl ?_); refine goesL_ (some 12) rfl rfl Try.func18 (by kernel_rfl) rfl #[] rfl (by (try simp only [List.map_toArray, List.map_cons, List.map_nil]); first | done | rfl | (simp only [List.length_drop, List.length_take]; rfl)) ?_; (with_reducible refine (horariumlaw26_awake.calls k  true _ A3.out).mono ?_); rintro e w8 ⟨rfl, hb⟩; refine ⟨_, rfl, ?_⟩; have n0_ := Aside0.mk (below_step (by repeat (first | (with_reducible first | exact HB.out | apply below_alloc | apply pw_below_drewN | apply below_drew1) | exact HB.out)) hb); clear HB; have HB := n0_; clear n0_; (try clear hb); (try clear hb2); (try clear hk); (try clear hi)) | ((with_reducible refine gate_callee (f := 19) rfl ?_); refine goesL_ (some 14) rfl rfl Try.func19 (by kernel_rfl) rfl #[.slice A0 l0.length c0, .bool true] rfl (by (try simp only [List.map_toArray, List.map_cons, List.map_nil]); first | done | rfl | (simp only [List.length_drop, List.length_take]; rfl)) ?_; (with_reducible refine (horariumlaw26_made.calls k _ _ l0 true t202 _ ?side1 ?side2 A4.out).mono ?_); (case side1 => repeat (first | exact (Kd.C_below HR0.out HB.out) | (with_reducible refine Kd.C_alloc ?_ _) | (with_reducible refine Kd.C_drewN ?_ _) | (with_reducible refine Kd.C_drew ?_))); (case side2 => exact HC0.out); rintro e w9 ⟨v203, rfl, ho0, hb⟩; refine ⟨_, rfl, ?_⟩; have n0_ := Aside0.mk (Kd.R_lower ho0 (below_size (by repeat (first | (with_reducible first | exact HB.out | apply below_alloc | apply pw_below_drewN | apply below_drew1) | exact HB.out)))); have n1_ := Aside0.mk (below_step (by repeat (first | (with_reducible first | exact HB.out | apply below_alloc | apply pw_below_drewN | apply below_drew1) | exact HB.out)) hb); clear HB; have HO204 := n0_; have HB := n1_; clear n0_ n1_; (try clear hb); (try clear hb2); (try clear hk); (try clear hi); (try clear ho0); obtain ⟨Ao10, co10, eo10⟩ := Kd.R_slice HO204.out; subst eo10) | (go_at_call 20; (with_reducible refine (probe_MostC.calls k _ _ t202 0 t205 _ ?side1 ?side2 A7.out).mono ?_); (case side1 => repeat (first | exact (Kd.R_reads' HO204.out).2.2 | (with_reducible refine Kd.C_alloc ?_ _) | (with_reducible refine Kd.C_drewN ?_ _) | (with_reducible refine Kd.C_drew ?_))); (case side2 => exact (Kd.R_reads' HO204.out).2.1); rintro e w11 ⟨rfl, hb⟩; have n0_ := Aside0.mk (Kd.R_below (by (with_reducible repeat (first | apply Kd.R_alloc | apply Kd.R_drewN | apply Kd.R_drew)); exact HO204.out) hb); have n1_ := Aside0.mk (below_step (by repeat (first | (with_reducible first | exact HB.out | apply below_alloc | apply pw_below_drewN | apply below_drew1) | exact HB.out)) hb); clear HO204; clear HB; have HO204 := n0_; have HB := n1_; clear n0_ n1_; (try clear hb); (try clear hb2); (try clear hk); (try clear hi)))
      go_ret
      exact ⟨by first | rfl | (simp [errW_none, errW_some] <;> rfl) | (simp [*, errW_none, errW_some] <;> rfl), by repeat (first | (with_reducible first | exact HB.out | apply below_alloc | apply pw_below_drewN | apply below_drew1) | exact HB.out)⟩
    · replace c6 := Bool.eq_false_iff.mpr c6
      subst c6
      have H1 : (some false) = some r := by rw [if_neg (show ¬ (false = true) by decide)] at H; exact H
      clear H
      have H := H1
      clear H1
      exact absurd ((Option.some.inj H).trans HRT.out) (by decide)
  · rw [if_neg c5] at H
    have c5b0 : ((t202.length : Int) == 0) = false := beq_eq_false_iff_ne.mpr c5
    have c5b1 : ((t202.length : Int) != 0) = true := bne_iff_ne.mpr c5
    have c5b2 : ¬ (t202 = []) := fun h_ => c5 (by rw [h_]; rfl)
    obtain ⟨ji15, hji15⟩ : ∃ j_ : Int, (Int.tmod (wrap64 ((Int.tmod a1 (t202.length : Int)) + (t202.length : Int))) (t202.length : Int)) = j_ := ⟨_, rfl⟩
    replace H : (if 0 ≤ (ji15) then (if (ji15) < (t202.length : Int) then ((probe_MostC.f k t202 (ji15)).bind fun t208 => ((probe_LeastD.f k t202 (ji15)).bind fun t209 => (if t208 < ((rd_T28 t202 (ji15)).f1) then (horariumlaw26_ProbeEdges.j0 k t201 t202 ji15 t208 t209 true ((rd_T28 t202 (ji15)).f0) ((rd_T28 t202 (ji15)).f1) ((rd_T28 t202 (ji15)).f2) ((rd_T28 t202 (ji15)).f3) ((rd_T28 t202 (ji15)).f4)) else (if t208 > ((rd_T28 t202 (ji15)).f2) then (horariumlaw26_ProbeEdges.j0 k t201 t202 ji15 t208 t209 true ((rd_T28 t202 (ji15)).f0) ((rd_T28 t202 (ji15)).f1) ((rd_T28 t202 (ji15)).f2) ((rd_T28 t202 (ji15)).f3) ((rd_T28 t202 (ji15)).f4)) else (if t209 < ((rd_T28 t202 (ji15)).f1) then (horariumlaw26_ProbeEdges.j0 k t201 t202 ji15 t208 t209 true ((rd_T28 t202 (ji15)).f0) ((rd_T28 t202 (ji15)).f1) ((rd_T28 t202 (ji15)).f2) ((rd_T28 t202 (ji15)).f3) ((rd_T28 t202 (ji15)).f4)) else (horariumlaw26_ProbeEdges.j0 k t201 t202 ji15 t208 t209 (decide (t209 > ((rd_T28 t202 (ji15)).f2))) ((rd_T28 t202 (ji15)).f0) ((rd_T28 t202 (ji15)).f1) ((rd_T28 t202 (ji15)).f2) ((rd_T28 t202 (ji15)).f3) ((rd_T28 t202 (ji15)).f4))))))) else (none)) else (none)) = some r := by first | (rw [hji15] at H; exact H) | (simp only [hji15] at H ⊢; exact H)
    (try rw [hji15] at A3)
    (try rw [hji15] at A4)
    by_cases c16 : 0 ≤ (ji15)
    · rw [if_pos c16] at H
      have c16b0 : decide (0 ≤ (ji15)) = true := decide_eq_true c16
      clear c16
      by_cases c17 : (ji15) < (t202.length : Int)
      · rw [if_pos c17] at H
        have c17b0 : decide ((ji15) < (t202.length : Int)) = true := decide_eq_true c17
        clear c17
        replace H := Option.bind_eq_some_iff.mp H
        obtain ⟨t208, A180, H⟩ := H
        replace H : ((probe_LeastD.f k t202 (ji15)).bind fun t209 => (if t208 < ((rd_T28 t202 (ji15)).f1) then (horariumlaw26_ProbeEdges.j0 k t201 t202 ji15 t208 t209 true ((rd_T28 t202 (ji15)).f0) ((rd_T28 t202 (ji15)).f1) ((rd_T28 t202 (ji15)).f2) ((rd_T28 t202 (ji15)).f3) ((rd_T28 t202 (ji15)).f4)) else (if t208 > ((rd_T28 t202 (ji15)).f2) then (horariumlaw26_ProbeEdges.j0 k t201 t202 ji15 t208 t209 true ((rd_T28 t202 (ji15)).f0) ((rd_T28 t202 (ji15)).f1) ((rd_T28 t202 (ji15)).f2) ((rd_T28 t202 (ji15)).f3) ((rd_T28 t202 (ji15)).f4)) else (if t209 < ((rd_T28 t202 (ji15)).f1) then (horariumlaw26_ProbeEdges.j0 k t201 t202 ji15 t208 t209 true ((rd_T28 t202 (ji15)).f0) ((rd_T28 t202 (ji15)).f1) ((rd_T28 t202 (ji15)).f2) ((rd_T28 t202 (ji15)).f3) ((rd_T28 t202 (ji15)).f4)) else (horariumlaw26_ProbeEdges.j0 k t201 t202 ji15 t208 t209 (decide (t209 > ((rd_T28 t202 (ji15)).f2))) ((rd_T28 t202 (ji15)).f0) ((rd_T28 t202 (ji15)).f1) ((rd_T28 t202 (ji15)).f2) ((rd_T28 t202 (ji15)).f3) ((rd_T28 t202 (ji15)).f4)))))) = some r := H
        have A18 := Aside0.mk A180
        clear A180
        replace H := Option.bind_eq_some_iff.mp H
        obtain ⟨t209, A190, H⟩ := H
        replace H : (if t208 < ((rd_T28 t202 (ji15)).f1) then (horariumlaw26_ProbeEdges.j0 k t201 t202 ji15 t208 t209 true ((rd_T28 t202 (ji15)).f0) ((rd_T28 t202 (ji15)).f1) ((rd_T28 t202 (ji15)).f2) ((rd_T28 t202 (ji15)).f3) ((rd_T28 t202 (ji15)).f4)) else (if t208 > ((rd_T28 t202 (ji15)).f2) then (horariumlaw26_ProbeEdges.j0 k t201 t202 ji15 t208 t209 true ((rd_T28 t202 (ji15)).f0) ((rd_T28 t202 (ji15)).f1) ((rd_T28 t202 (ji15)).f2) ((rd_T28 t202 (ji15)).f3) ((rd_T28 t202 (ji15)).f4)) else (if t209 < ((rd_T28 t202 (ji15)).f1) then (horariumlaw26_ProbeEdges.j0 k t201 t202 ji15 t208 t209 true ((rd_T28 t202 (ji15)).f0) ((rd_T28 t202 (ji15)).f1) ((rd_T28 t202 (ji15)).f2) ((rd_T28 t202 (ji15)).f3) ((rd_T28 t202 (ji15)).f4)) else (horariumlaw26_ProbeEdges.j0 k t201 t202 ji15 t208 t209 (decide (t209 > ((rd_T28 t202 (ji15)).f2))) ((rd_T28 t202 (ji15)).f0) ((rd_T28 t202 (ji15)).f1) ((rd_T28 t202 (ji15)).f2) ((rd_T28 t202 (ji15)).f3) ((rd_T28 t202 (ji15)).f4))))) = some r := H
        have A19 := Aside0.mk A190
        clear A190
        have HC20 := Aside0.mk H
        clear H
        go_enter Try.func6, Try.ntmps6
        go_upto_region 9 with (first | ((with_reducible refine gate_callee (f := 18) rfl ?_); refine goesL_ (some 12) rfl rfl Try.func18 (by kernel_rfl) rfl #[] rfl (by (try simp only [List.map_toArray, List.map_cons, List.map_nil]); first | done | rfl | (simp only [List.length_drop, List.length_take]; rfl)) ?_; (with_reducible refine (horariumlaw26_awake.calls k  t201 _ A3.out).mono ?_); rintro e w21 ⟨rfl, hb⟩; refine ⟨_, rfl, ?_⟩; have n0_ := Aside0.mk (below_step (by repeat (first | (with_reducible first | exact HB.out | apply below_alloc | apply pw_below_drewN | apply below_drew1) | exact HB.out)) hb); clear HB; have HB := n0_; clear n0_; (try clear hb); (try clear hb2); (try clear hk); (try clear hi)) | ((with_reducible refine gate_callee (f := 19) rfl ?_); refine goesL_ (some 14) rfl rfl Try.func19 (by kernel_rfl) rfl #[.slice A0 l0.length c0, .bool true] rfl (by (try simp only [List.map_toArray, List.map_cons, List.map_nil]); first | done | rfl | (simp only [List.length_drop, List.length_take]; rfl)) ?_; (with_reducible refine (horariumlaw26_made.calls k _ _ l0 true t202 _ ?side1 ?side2 A4.out).mono ?_); (case side1 => repeat (first | exact (Kd.C_below HR0.out HB.out) | (with_reducible refine Kd.C_alloc ?_ _) | (with_reducible refine Kd.C_drewN ?_ _) | (with_reducible refine Kd.C_drew ?_))); (case side2 => exact HC0.out); rintro e w22 ⟨v203, rfl, ho0, hb⟩; refine ⟨_, rfl, ?_⟩; have n0_ := Aside0.mk (Kd.R_lower ho0 (below_size (by repeat (first | (with_reducible first | exact HB.out | apply below_alloc | apply pw_below_drewN | apply below_drew1) | exact HB.out)))); have n1_ := Aside0.mk (below_step (by repeat (first | (with_reducible first | exact HB.out | apply below_alloc | apply pw_below_drewN | apply below_drew1) | exact HB.out)) hb); clear HB; have HO204 := n0_; have HB := n1_; clear n0_ n1_; (try clear hb); (try clear hb2); (try clear hk); (try clear hi); (try clear ho0); obtain ⟨Ao23, co23, eo23⟩ := Kd.R_slice HO204.out; subst eo23; have p206 : 0 ≤ ((ji15) : Int) := of_decide_eq_true (by first | (with_reducible assumption) | assumption); have q206 : (ji15) < (t202.length : Int) := of_decide_eq_true (by first | (with_reducible assumption) | assumption); obtain ⟨ad206, e206, hx206_0, hx206_1, hx206_2, hx206_3, hx206_4⟩ := at_T28 (Kd.R_reads' HO204.out).2.2 (ji15) p206 q206; cases e206; replace p206 := eq_true p206; replace q206 := eq_true q206) | ((with_reducible refine gate_dst (N := 8) rfl ?_); refine box_event ?hg (N := 8) ?hd (cs := #[.int .i64 0, .int .i64 0, .int .i64 0, .int .i64 0, .int .i64 0]) (t := 28) ?hr ?_; (case hd => rfl); (case hg => rfl); (case hr => first | (go_simp; done) | (go_simp; rfl)); intro gb207 hg w24 hbox hb; have n0_ := Aside0.mk (Kd.R_below (Kd.R_elderB (by (with_reducible repeat (first | apply Kd.R_alloc | apply Kd.R_drewN | apply Kd.R_drew)); exact HO204.out) gb207 (Nat.le_of_eq hg.symm)) hb); have n1_ := Aside0.mk (below_step (by repeat (first | (with_reducible first | exact HB.out | apply below_alloc | apply pw_below_drewN | apply below_drew1) | exact HB.out)) hb); have n2_ := Aside0.mk (hbox); have n3_ := Aside0.mk ((by rw [hg]; exact (below_size (by repeat (first | (with_reducible first | exact HB.out | apply below_alloc | apply pw_below_drewN | apply below_drew1) | exact HB.out))) : w.heap.size ≤ gb207)); have n4_ := Aside0.mk ((by rw [hg]; exact (below_size (by repeat (first | (with_reducible first | exact HB.out | apply below_alloc | apply pw_below_drewN | apply below_drew1) | exact HB.out))) : w.heap.size ≤ gb207)); clear HO204; clear HB; have HO204 := n0_; have HB := n1_; have BK207 := n2_; have GW207 := n3_; have GE207 := n4_; clear n0_ n1_ n2_ n3_ n4_; clear hb hbox hg; have hcz25_0 : w24.cell? ⟨gb207, 0, none⟩ = some (.int .i64 0) := (blk_cell BK207.out 0).trans rfl; have hcz25_1 : w24.cell? ⟨gb207, 1, none⟩ = some (.int .i64 0) := (blk_cell BK207.out 1).trans rfl; have hcz25_2 : w24.cell? ⟨gb207, 2, none⟩ = some (.int .i64 0) := (blk_cell BK207.out 2).trans rfl; have hcz25_3 : w24.cell? ⟨gb207, 3, none⟩ = some (.int .i64 0) := (blk_cell BK207.out 3).trans rfl; have hcz25_4 : w24.cell? ⟨gb207, 4, none⟩ = some (.int .i64 0) := (blk_cell BK207.out 4).trans rfl; have hfz25_0 := blk_frozen BK207.out 0; have hfz25_1 := blk_frozen BK207.out 1; have hfz25_2 := blk_frozen BK207.out 2; have hfz25_3 := blk_frozen BK207.out 3; have hfz25_4 := blk_frozen BK207.out 4) | ((with_reducible refine gate_callee (f := 20) rfl ?_); refine goesL_ (some 40) rfl rfl Try.func20 (by kernel_rfl) rfl #[.slice (some ad206) t202.length co23, .int .i64 ji15] rfl (by (try simp only [List.map_toArray, List.map_cons, List.map_nil]); first | done | (simp only [hji15]; rfl) | rfl | (simp only [List.length_drop, List.length_take]; rfl)) ?_; (with_reducible refine (probe_MostC.calls k _ _ t202 ji15 t208 _ ?side1 ?side2 A18.out).mono ?_); (case side1 => refine (Kd.R_reads' (e := 28) (base := w.heap.size) (ok := fun k_ => (True ∧ k_ ≠ gb207)) (n := t202.length) (c := co23) ?_).2.2; exact (by (with_reducible repeat (first | apply Kd.R_alloc | apply Kd.R_drewN | apply Kd.R_drew)); exact (Kd.R_mono (Kd.R_far (p := ⟨gb207, 4, none⟩) (Kd.R_far (p := ⟨gb207, 3, none⟩) (Kd.R_far (p := ⟨gb207, 2, none⟩) (Kd.R_far (p := ⟨gb207, 1, none⟩) (Kd.R_far (p := ⟨gb207, 0, none⟩) (Kd.R_mono HO204.out (fun k_ hk => (⟨hk, hk.2⟩ : _ ∧ k_ ≠ gb207))) (fun _ hk => hk.2) (.int .i64 ((rd_T28 t202 (ji15)).f0))) (fun _ hk => hk.2) (.int .i64 ((rd_T28 t202 (ji15)).f1))) (fun _ hk => hk.2) (.int .i64 ((rd_T28 t202 (ji15)).f2))) (fun _ hk => hk.2) (.int .i64 ((rd_T28 t202 (ji15)).f3))) (fun _ hk => hk.2) (.int .i64 ((rd_T28 t202 (ji15)).f4))) (fun _ h_ => h_.1)))); (case side2 => exact (Kd.R_reads' HO204.out).2.1); rintro e w26 ⟨rfl, hb⟩; refine ⟨_, rfl, ?_⟩; have n0_ := Aside0.mk (Kd.R_below (by (with_reducible repeat (first | apply Kd.R_alloc | apply Kd.R_drewN | apply Kd.R_drew)); exact (Kd.R_mono (Kd.R_far (p := ⟨gb207, 4, none⟩) (Kd.R_far (p := ⟨gb207, 3, none⟩) (Kd.R_far (p := ⟨gb207, 2, none⟩) (Kd.R_far (p := ⟨gb207, 1, none⟩) (Kd.R_far (p := ⟨gb207, 0, none⟩) (Kd.R_mono HO204.out (fun k_ hk => (⟨hk, hk.2⟩ : _ ∧ k_ ≠ gb207))) (fun _ hk => hk.2) (.int .i64 ((rd_T28 t202 (ji15)).f0))) (fun _ hk => hk.2) (.int .i64 ((rd_T28 t202 (ji15)).f1))) (fun _ hk => hk.2) (.int .i64 ((rd_T28 t202 (ji15)).f2))) (fun _ hk => hk.2) (.int .i64 ((rd_T28 t202 (ji15)).f3))) (fun _ hk => hk.2) (.int .i64 ((rd_T28 t202 (ji15)).f4))) (fun _ h_ => h_.1))) hb); have n1_ := Aside0.mk (blk_below (g := gb207) (o := .cells #[.int .i64 ((rd_T28 t202 (ji15)).f0), .int .i64 ((rd_T28 t202 (ji15)).f1), .int .i64 ((rd_T28 t202 (ji15)).f2), .int .i64 ((rd_T28 t202 (ji15)).f3), .int .i64 ((rd_T28 t202 (ji15)).f4)] 28 (0, 0)) (by (with_reducible repeat (first | refine blk_drewN ?_ _ | refine blk_drew ?_ | refine blk_alloc ?_ _)); refine blk_put (cs := #[.int .i64 ((rd_T28 t202 (ji15)).f0), .int .i64 ((rd_T28 t202 (ji15)).f1), .int .i64 ((rd_T28 t202 (ji15)).f2), .int .i64 ((rd_T28 t202 (ji15)).f3), .int .i64 0]) ?_ 4 _ rfl; (with_reducible repeat (first | refine blk_drewN ?_ _ | refine blk_drew ?_ | refine blk_alloc ?_ _)); refine blk_put (cs := #[.int .i64 ((rd_T28 t202 (ji15)).f0), .int .i64 ((rd_T28 t202 (ji15)).f1), .int .i64 ((rd_T28 t202 (ji15)).f2), .int .i64 0, .int .i64 0]) ?_ 3 _ rfl; (with_reducible repeat (first | refine blk_drewN ?_ _ | refine blk_drew ?_ | refine blk_alloc ?_ _)); refine blk_put (cs := #[.int .i64 ((rd_T28 t202 (ji15)).f0), .int .i64 ((rd_T28 t202 (ji15)).f1), .int .i64 0, .int .i64 0, .int .i64 0]) ?_ 2 _ rfl; (with_reducible repeat (first | refine blk_drewN ?_ _ | refine blk_drew ?_ | refine blk_alloc ?_ _)); refine blk_put (cs := #[.int .i64 ((rd_T28 t202 (ji15)).f0), .int .i64 0, .int .i64 0, .int .i64 0, .int .i64 0]) ?_ 1 _ rfl; (with_reducible repeat (first | refine blk_drewN ?_ _ | refine blk_drew ?_ | refine blk_alloc ?_ _)); refine blk_put (cs := #[.int .i64 0, .int .i64 0, .int .i64 0, .int .i64 0, .int .i64 0]) ?_ 0 _ rfl; (with_reducible repeat (first | refine blk_drewN ?_ _ | refine blk_drew ?_ | refine blk_alloc ?_ _)); exact BK207.out) hb); have n2_ := Aside0.mk (below_step (by repeat (first | (with_reducible first | exact HB.out | apply below_alloc | apply pw_below_drewN | apply below_drew1 | refine below_set ?_ GE207.out) | exact HB.out)) hb); clear HO204; clear BK207; clear HB; have HO204 := n0_; have BK207 := n1_; have HB := n2_; clear n0_ n1_ n2_; (try clear hb); (try clear hb2); (try clear hk); (try clear hi)) | ((with_reducible refine gate_callee (f := 21) rfl ?_); refine goesL_ (some 43) rfl rfl Try.func21 (by kernel_rfl) rfl #[.slice (some ad206) t202.length co23, .int .i64 ji15] rfl (by (try simp only [List.map_toArray, List.map_cons, List.map_nil]); first | done | (simp only [hji15]; rfl) | rfl | (simp only [List.length_drop, List.length_take]; rfl)) ?_; (with_reducible refine (probe_LeastD.calls k _ _ t202 ji15 t209 _ ?side1 ?side2 A19.out).mono ?_); (case side1 => repeat (first | exact (Kd.R_reads' HO204.out).2.2 | (with_reducible refine Kd.C_alloc ?_ _) | (with_reducible refine Kd.C_drewN ?_ _) | (with_reducible refine Kd.C_drew ?_))); (case side2 => exact (Kd.R_reads' HO204.out).2.1); rintro e w27 ⟨rfl, hb⟩; refine ⟨_, rfl, ?_⟩; have n0_ := Aside0.mk (Kd.R_below (by (with_reducible repeat (first | apply Kd.R_alloc | apply Kd.R_drewN | apply Kd.R_drew)); exact HO204.out) hb); have n1_ := Aside0.mk (blk_below (g := gb207) (o := .cells #[.int .i64 ((rd_T28 t202 (ji15)).f0), .int .i64 ((rd_T28 t202 (ji15)).f1), .int .i64 ((rd_T28 t202 (ji15)).f2), .int .i64 ((rd_T28 t202 (ji15)).f3), .int .i64 ((rd_T28 t202 (ji15)).f4)] 28 (0, 0)) (by (with_reducible repeat (first | refine blk_drewN ?_ _ | refine blk_drew ?_ | refine blk_alloc ?_ _)); exact BK207.out) hb); have n2_ := Aside0.mk (below_step (by repeat (first | (with_reducible first | exact HB.out | apply below_alloc | apply pw_below_drewN | apply below_drew1 | refine below_set ?_ GE207.out) | exact HB.out)) hb); clear HO204; clear BK207; clear HB; have HO204 := n0_; have BK207 := n1_; have HB := n2_; clear n0_ n1_ n2_; (try clear hb); (try clear hb2); (try clear hk); (try clear hi)))
        (try simp only [Act.put, List.setIfInBounds_toArray, List.set_cons_zero, List.set_cons_succ])
        go_cut [65] (fun v65 wc => ∃ (kq : Nat) (x65_19 : Bool), v65 = .bool x65_19 ∧ Aside0 (horariumlaw26_ProbeEdges.j0 kq t201 t202 ji15 t208 t209 x65_19 ((rd_T28 t202 (ji15)).f0) ((rd_T28 t202 (ji15)).f1) ((rd_T28 t202 (ji15)).f2) ((rd_T28 t202 (ji15)).f3) ((rd_T28 t202 (ji15)).f4) = some r) ∧ Aside0 (kq ≤ k) ∧ Aside0 (Kd.R k28 28 wc w.heap.size (fun k_ => k_ ≠ gb207) (.slice (some ad206) t202.length co23) t202) ∧ Aside0 (wc.heap[gb207]? = some (.cells #[.int .i64 ((rd_T28 t202 (ji15)).f0), .int .i64 ((rd_T28 t202 (ji15)).f1), .int .i64 ((rd_T28 t202 (ji15)).f2), .int .i64 ((rd_T28 t202 (ji15)).f3), .int .i64 ((rd_T28 t202 (ji15)).f4)] 28 (0, 0))) ∧ Aside0 (Below w.heap.size w wc))
        case first =>
          have H := HC20.out
          clear HC20
          by_cases c28 : t208 < ((rd_T28 t202 (ji15)).f1)
          · rw [if_pos c28] at H
            have c28b0 : decide (t208 < ((rd_T28 t202 (ji15)).f1)) = true := decide_eq_true c28
            clear c28
            (first | rw [c28b0] | (simp only [i64_w, i32_w]; rw [c28b0]) | skip)
            have H' := Aside0.mk H
            clear H
            have hcz29_0 : w27.cell? ⟨gb207, 0, none⟩ = some (.int .i64 ((rd_T28 t202 (ji15)).f0)) := (blk_cell BK207.out 0).trans rfl
            have hcz29_1 : w27.cell? ⟨gb207, 1, none⟩ = some (.int .i64 ((rd_T28 t202 (ji15)).f1)) := (blk_cell BK207.out 1).trans rfl
            have hcz29_2 : w27.cell? ⟨gb207, 2, none⟩ = some (.int .i64 ((rd_T28 t202 (ji15)).f2)) := (blk_cell BK207.out 2).trans rfl
            have hcz29_3 : w27.cell? ⟨gb207, 3, none⟩ = some (.int .i64 ((rd_T28 t202 (ji15)).f3)) := (blk_cell BK207.out 3).trans rfl
            have hcz29_4 : w27.cell? ⟨gb207, 4, none⟩ = some (.int .i64 ((rd_T28 t202 (ji15)).f4)) := (blk_cell BK207.out 4).trans rfl
            have hfz29_0 := blk_frozen BK207.out 0
            have hfz29_1 := blk_frozen BK207.out 1
            have hfz29_2 := blk_frozen BK207.out 2
            have hfz29_3 := blk_frozen BK207.out 3
            have hfz29_4 := blk_frozen BK207.out 4
            go_wp2
            go_meet
            case rel => exact ⟨_, (true), (by first | rfl | (simp; done) | (simp [*]; done)), H', ⟨by first | omega | exact Nat.le_refl _⟩, ⟨by (with_reducible repeat (first | apply Kd.R_alloc | apply Kd.R_drewN | apply Kd.R_drew)); exact Kd.R_mono HO204.out (fun _ hk => hk.2)⟩, ⟨by (with_reducible repeat (first | refine blk_drewN ?_ _ | refine blk_drew ?_ | refine blk_alloc ?_ _)); exact BK207.out⟩, ⟨by repeat (first | (with_reducible first | exact HB.out | apply below_alloc | apply pw_below_drewN | apply below_drew1 | refine below_set ?_ GE207.out) | exact HB.out)⟩⟩
          · rw [if_neg c28] at H
            have c28b0 : decide (t208 < ((rd_T28 t202 (ji15)).f1)) = false := decide_eq_false c28
            clear c28
            (first | rw [c28b0] | (simp only [i64_w, i32_w]; rw [c28b0]) | skip)
            by_cases c30 : t208 > ((rd_T28 t202 (ji15)).f2)
            · rw [if_pos c30] at H
              have c30b0 : decide (((rd_T28 t202 (ji15)).f2) < t208) = true := decide_eq_true c30
              clear c30
              have H' := Aside0.mk H
              clear H
              have hcz31_0 : w27.cell? ⟨gb207, 0, none⟩ = some (.int .i64 ((rd_T28 t202 (ji15)).f0)) := (blk_cell BK207.out 0).trans rfl
              have hcz31_1 : w27.cell? ⟨gb207, 1, none⟩ = some (.int .i64 ((rd_T28 t202 (ji15)).f1)) := (blk_cell BK207.out 1).trans rfl
              have hcz31_2 : w27.cell? ⟨gb207, 2, none⟩ = some (.int .i64 ((rd_T28 t202 (ji15)).f2)) := (blk_cell BK207.out 2).trans rfl
              have hcz31_3 : w27.cell? ⟨gb207, 3, none⟩ = some (.int .i64 ((rd_T28 t202 (ji15)).f3)) := (blk_cell BK207.out 3).trans rfl
              have hcz31_4 : w27.cell? ⟨gb207, 4, none⟩ = some (.int .i64 ((rd_T28 t202 (ji15)).f4)) := (blk_cell BK207.out 4).trans rfl
              have hfz31_0 := blk_frozen BK207.out 0
              have hfz31_1 := blk_frozen BK207.out 1
              have hfz31_2 := blk_frozen BK207.out 2
              have hfz31_3 := blk_frozen BK207.out 3
              have hfz31_4 := blk_frozen BK207.out 4
              go_wp2
              go_meet
              case rel => exact ⟨_, (true), (by first | rfl | (simp; done) | (simp [*]; done)), H', ⟨by first | omega | exact Nat.le_refl _⟩, ⟨by (with_reducible repeat (first | apply Kd.R_alloc | apply Kd.R_drewN | apply Kd.R_drew)); exact Kd.R_mono HO204.out (fun _ hk => hk.2)⟩, ⟨by (with_reducible repeat (first | refine blk_drewN ?_ _ | refine blk_drew ?_ | refine blk_alloc ?_ _)); exact BK207.out⟩, ⟨by repeat (first | (with_reducible first | exact HB.out | apply below_alloc | apply pw_below_drewN | apply below_drew1 | refine below_set ?_ GE207.out) | exact HB.out)⟩⟩
            · rw [if_neg c30] at H
              have c30b0 : decide (((rd_T28 t202 (ji15)).f2) < t208) = false := decide_eq_false c30
              clear c30
              by_cases c32 : t209 < ((rd_T28 t202 (ji15)).f1)
              · rw [if_pos c32] at H
                have c32b0 : decide (t209 < ((rd_T28 t202 (ji15)).f1)) = true := decide_eq_true c32
                clear c32
                have H' := Aside0.mk H
                clear H
                have hcz33_0 : w27.cell? ⟨gb207, 0, none⟩ = some (.int .i64 ((rd_T28 t202 (ji15)).f0)) := (blk_cell BK207.out 0).trans rfl
                have hcz33_1 : w27.cell? ⟨gb207, 1, none⟩ = some (.int .i64 ((rd_T28 t202 (ji15)).f1)) := (blk_cell BK207.out 1).trans rfl
                have hcz33_2 : w27.cell? ⟨gb207, 2, none⟩ = some (.int .i64 ((rd_T28 t202 (ji15)).f2)) := (blk_cell BK207.out 2).trans rfl
                have hcz33_3 : w27.cell? ⟨gb207, 3, none⟩ = some (.int .i64 ((rd_T28 t202 (ji15)).f3)) := (blk_cell BK207.out 3).trans rfl
                have hcz33_4 : w27.cell? ⟨gb207, 4, none⟩ = some (.int .i64 ((rd_T28 t202 (ji15)).f4)) := (blk_cell BK207.out 4).trans rfl
                have hfz33_0 := blk_frozen BK207.out 0
                have hfz33_1 := blk_frozen BK207.out 1
                have hfz33_2 := blk_frozen BK207.out 2
                have hfz33_3 := blk_frozen BK207.out 3
                have hfz33_4 := blk_frozen BK207.out 4
                go_wp2
                go_meet
                case rel => exact ⟨_, (true), (by first | rfl | (simp; done) | (simp [*]; done)), H', ⟨by first | omega | exact Nat.le_refl _⟩, ⟨by (with_reducible repeat (first | apply Kd.R_alloc | apply Kd.R_drewN | apply Kd.R_drew)); exact Kd.R_mono HO204.out (fun _ hk => hk.2)⟩, ⟨by (with_reducible repeat (first | refine blk_drewN ?_ _ | refine blk_drew ?_ | refine blk_alloc ?_ _)); exact BK207.out⟩, ⟨by repeat (first | (with_reducible first | exact HB.out | apply below_alloc | apply pw_below_drewN | apply below_drew1 | refine below_set ?_ GE207.out) | exact HB.out)⟩⟩
              · rw [if_neg c32] at H
                have c32b0 : decide (t209 < ((rd_T28 t202 (ji15)).f1)) = false := decide_eq_false c32
                clear c32
                have H' := Aside0.mk H
                clear H
                have hcz34_0 : w27.cell? ⟨gb207, 0, none⟩ = some (.int .i64 ((rd_T28 t202 (ji15)).f0)) := (blk_cell BK207.out 0).trans rfl
                have hcz34_1 : w27.cell? ⟨gb207, 1, none⟩ = some (.int .i64 ((rd_T28 t202 (ji15)).f1)) := (blk_cell BK207.out 1).trans rfl
                have hcz34_2 : w27.cell? ⟨gb207, 2, none⟩ = some (.int .i64 ((rd_T28 t202 (ji15)).f2)) := (blk_cell BK207.out 2).trans rfl
                have hcz34_3 : w27.cell? ⟨gb207, 3, none⟩ = some (.int .i64 ((rd_T28 t202 (ji15)).f3)) := (blk_cell BK207.out 3).trans rfl
                have hcz34_4 : w27.cell? ⟨gb207, 4, none⟩ = some (.int .i64 ((rd_T28 t202 (ji15)).f4)) := (blk_cell BK207.out 4).trans rfl
                have hfz34_0 := blk_frozen BK207.out 0
                have hfz34_1 := blk_frozen BK207.out 1
                have hfz34_2 := blk_frozen BK207.out 2
                have hfz34_3 := blk_frozen BK207.out 3
                have hfz34_4 := blk_frozen BK207.out 4
                go_wp2
                go_meet
                case rel => exact ⟨_, (decide (t209 > ((rd_T28 t202 (ji15)).f2))), (by first | rfl | (simp; done) | (simp only [← hji15] <;> (first | rfl | simp)) | (simp [*]; done)), H', ⟨by first | omega | exact Nat.le_refl _⟩, ⟨by (with_reducible repeat (first | apply Kd.R_alloc | apply Kd.R_drewN | apply Kd.R_drew)); exact Kd.R_mono HO204.out (fun _ hk => hk.2)⟩, ⟨by (with_reducible repeat (first | refine blk_drewN ?_ _ | refine blk_drew ?_ | refine blk_alloc ?_ _)); exact BK207.out⟩, ⟨by repeat (first | (with_reducible first | exact HB.out | apply below_alloc | apply pw_below_drewN | apply below_drew1 | refine below_set ?_ GE207.out) | exact HB.out)⟩⟩
        case rest =>
          clear HC20
          try clear c1
          try clear c2
          try clear p2
          try clear q2
          try clear hx2
          try clear c3
          try clear c5
          try clear c5b0
          try clear c5b1
          try clear c5b2
          try clear c6
          try clear p6
          try clear c16
          try clear c16b0
          try clear c17
          try clear c17b0
          try clear c18
          try clear c19
          try clear c20
          try clear p20
          try clear q20
          try clear hx20
          try clear c21
          try clear c28
          try clear c28b0
          try clear c30
          try clear c30b0
          try clear c32
          try clear c32b0
          try clear hcz25_0
          try clear hcz25_1
          try clear hcz25_2
          try clear hcz25_3
          try clear hcz25_4
          try clear hcz29_0
          try clear hcz29_1
          try clear hcz29_2
          try clear hcz29_3
          try clear hcz29_4
          try clear hcz31_0
          try clear hcz31_1
          try clear hcz31_2
          try clear hcz31_3
          try clear hcz31_4
          try clear hcz33_0
          try clear hcz33_1
          try clear hcz33_2
          try clear hcz33_3
          try clear hcz33_4
          try clear hcz34_0
          try clear hcz34_1
          try clear hcz34_2
          try clear hcz34_3
          try clear hcz34_4
          try clear hfz25_0
          try clear hfz25_1
          try clear hfz25_2
          try clear hfz25_3
          try clear hfz25_4
          try clear hfz29_0
          try clear hfz29_1
          try clear hfz29_2
          try clear hfz29_3
          try clear hfz29_4
          try clear hfz31_0
          try clear hfz31_1
          try clear hfz31_2
          try clear hfz31_3
          try clear hfz31_4
          try clear hfz33_0
          try clear hfz33_1
          try clear hfz33_2
          try clear hfz33_3
          try clear hfz33_4
          try clear hfz34_0
          try clear hfz34_1
          try clear hfz34_2
          try clear hfz34_3
          try clear hfz34_4
          try clear hx206_0
          try clear hx206_1
          try clear hx206_2
          try clear hx206_3
          try clear hx206_4
          try clear p206
          try clear q206
          obtain ⟨kq, x65_19, rfl, HA, HJ19, HO_6, BK207, HB⟩ := hcut
          cases kq with
          | zero => exact absurd HA.out (by simp [horariumlaw26_ProbeEdges.j0])
          | succ kj19 =>
            have H := HA.out
            clear HA
            simp only [horariumlaw26_ProbeEdges.j0] at H
            by_cases c35 : x65_19 = true
            · subst c35
              have H1 : (some false) = some r := by rw [if_pos rfl] at H; exact H
              clear H
              have H := H1
              clear H1
              exact absurd ((Option.some.inj H).trans HRT.out) (by decide)
            · replace c35 := Bool.eq_false_iff.mpr c35
              subst c35
              have H1 : ((some (([] : List (S28)) : List (S28))).bind fun y210 => (if y210.length + t202.length < 3518437208883 then ((some (y210 ++ t202 : List (S28))).bind fun y213 => (if 0 ≤ ji15 then (if ji15 < (y213.length : Int) then ((some (y213.set (ji15 : Int).toNat (⟨(rd_T28 y213 ji15).f0, t208, (rd_T28 y213 ji15).f2, (rd_T28 y213 ji15).f3, (rd_T28 y213 ji15).f4⟩ : S28) : List (S28))).bind fun y216 => ((horariumref12_Test.f kj19 y216).bind fun t217 => (if t217 = 0 then ((some (y216.set (ji15 : Int).toNat (⟨(rd_T28 y216 ji15).f0, wrap64 (t208 + 1), (rd_T28 y216 ji15).f2, (rd_T28 y216 ji15).f3, (rd_T28 y216 ji15).f4⟩ : S28) : List (S28))).bind fun y218 => ((horariumref12_Test.f kj19 y218).bind fun t219 => (if t219 = 0 then (some false) else ((some (y218.set (ji15 : Int).toNat (⟨(rd_T28 y218 ji15).f0, ((rd_T28 t202 (ji15)).f1), (rd_T28 y218 ji15).f2, (rd_T28 y218 ji15).f3, (rd_T28 y218 ji15).f4⟩ : S28) : List (S28))).bind fun y220 => ((some (y220.set (ji15 : Int).toNat (⟨(rd_T28 y220 ji15).f0, (rd_T28 y220 ji15).f1, t209, (rd_T28 y220 ji15).f3, (rd_T28 y220 ji15).f4⟩ : S28) : List (S28))).bind fun y221 => ((horariumref12_Test.f kj19 y221).bind fun t222 => (if t222 = 0 then (if t201 = true then ((horariumref12_Test.f kj19 (y221.set (ji15 : Int).toNat (⟨(rd_T28 y221 ji15).f0, (rd_T28 y221 ji15).f1, wrap64 (t209 - 1), (rd_T28 y221 ji15).f3, (rd_T28 y221 ji15).f4⟩ : S28))).bind fun t224 => (some (t224 != 0))) else (some false)) else (some false)))))))) else (some false)))) else (none)) else (none))) else (none))) = some r := by rw [if_neg (show ¬ (false = true) by decide)] at H; exact H
              clear H
              have H := H1
              clear H1
              obtain ⟨y210, hy210⟩ : ∃ y_ : List (S28), y_ = (([] : List (S28))) := ⟨_, rfl⟩
              replace H : (if y210.length + t202.length < 3518437208883 then ((some (y210 ++ t202 : List (S28))).bind fun y213 => (if 0 ≤ ji15 then (if ji15 < (y213.length : Int) then ((some (y213.set (ji15 : Int).toNat (⟨(rd_T28 y213 ji15).f0, t208, (rd_T28 y213 ji15).f2, (rd_T28 y213 ji15).f3, (rd_T28 y213 ji15).f4⟩ : S28) : List (S28))).bind fun y216 => ((horariumref12_Test.f kj19 y216).bind fun t217 => (if t217 = 0 then ((some (y216.set (ji15 : Int).toNat (⟨(rd_T28 y216 ji15).f0, wrap64 (t208 + 1), (rd_T28 y216 ji15).f2, (rd_T28 y216 ji15).f3, (rd_T28 y216 ji15).f4⟩ : S28) : List (S28))).bind fun y218 => ((horariumref12_Test.f kj19 y218).bind fun t219 => (if t219 = 0 then (some false) else ((some (y218.set (ji15 : Int).toNat (⟨(rd_T28 y218 ji15).f0, ((rd_T28 t202 (ji15)).f1), (rd_T28 y218 ji15).f2, (rd_T28 y218 ji15).f3, (rd_T28 y218 ji15).f4⟩ : S28) : List (S28))).bind fun y220 => ((some (y220.set (ji15 : Int).toNat (⟨(rd_T28 y220 ji15).f0, (rd_T28 y220 ji15).f1, t209, (rd_T28 y220 ji15).f3, (rd_T28 y220 ji15).f4⟩ : S28) : List (S28))).bind fun y221 => ((horariumref12_Test.f kj19 y221).bind fun t222 => (if t222 = 0 then (if t201 = true then ((horariumref12_Test.f kj19 (y221.set (ji15 : Int).toNat (⟨(rd_T28 y221 ji15).f0, (rd_T28 y221 ji15).f1, wrap64 (t209 - 1), (rd_T28 y221 ji15).f3, (rd_T28 y221 ji15).f4⟩ : S28))).bind fun t224 => (some (t224 != 0))) else (some false)) else (some false)))))))) else (some false)))) else (none)) else (none))) else (none)) = some r := by first | (rw [hy210]; with_reducible exact H) | (have H2_ := (Option.bind_some _ _).symm.trans H; rw [hy210]; with_reducible exact H2_) | (have H2_ := (Option.bind_some _ _).symm.trans H; with_reducible exact H2_) | with_reducible exact H | (rw [hy210]; exact H) | exact H
              have Ny210 := Aside0.mk hy210
              clear hy210
              by_cases c36 : y210.length + t202.length < 3518437208883
              · rw [if_pos c36] at H
                have LMc36 := Aside0.mk c36
                clear c36
                obtain ⟨y213, hy213⟩ : ∃ y_ : List (S28), y_ = (y210 ++ t202) := ⟨_, rfl⟩
                replace H : (if 0 ≤ ji15 then (if ji15 < (y213.length : Int) then ((some (y213.set (ji15 : Int).toNat (⟨(rd_T28 y213 ji15).f0, t208, (rd_T28 y213 ji15).f2, (rd_T28 y213 ji15).f3, (rd_T28 y213 ji15).f4⟩ : S28) : List (S28))).bind fun y216 => ((horariumref12_Test.f kj19 y216).bind fun t217 => (if t217 = 0 then ((some (y216.set (ji15 : Int).toNat (⟨(rd_T28 y216 ji15).f0, wrap64 (t208 + 1), (rd_T28 y216 ji15).f2, (rd_T28 y216 ji15).f3, (rd_T28 y216 ji15).f4⟩ : S28) : List (S28))).bind fun y218 => ((horariumref12_Test.f kj19 y218).bind fun t219 => (if t219 = 0 then (some false) else ((some (y218.set (ji15 : Int).toNat (⟨(rd_T28 y218 ji15).f0, ((rd_T28 t202 (ji15)).f1), (rd_T28 y218 ji15).f2, (rd_T28 y218 ji15).f3, (rd_T28 y218 ji15).f4⟩ : S28) : List (S28))).bind fun y220 => ((some (y220.set (ji15 : Int).toNat (⟨(rd_T28 y220 ji15).f0, (rd_T28 y220 ji15).f1, t209, (rd_T28 y220 ji15).f3, (rd_T28 y220 ji15).f4⟩ : S28) : List (S28))).bind fun y221 => ((horariumref12_Test.f kj19 y221).bind fun t222 => (if t222 = 0 then (if t201 = true then ((horariumref12_Test.f kj19 (y221.set (ji15 : Int).toNat (⟨(rd_T28 y221 ji15).f0, (rd_T28 y221 ji15).f1, wrap64 (t209 - 1), (rd_T28 y221 ji15).f3, (rd_T28 y221 ji15).f4⟩ : S28))).bind fun t224 => (some (t224 != 0))) else (some false)) else (some false)))))))) else (some false)))) else (none)) else (none)) = some r := by first | (rw [hy213]; with_reducible exact H) | (have H2_ := (Option.bind_some _ _).symm.trans H; rw [hy213]; with_reducible exact H2_) | (have H2_ := (Option.bind_some _ _).symm.trans H; with_reducible exact H2_) | with_reducible exact H | (rw [hy213]; exact H) | exact H
                have Ny213 := Aside0.mk hy213
                clear hy213
                by_cases c37 : 0 ≤ ji15
                · rw [if_pos c37] at H
                  have c37b0 : decide (0 ≤ ji15) = true := decide_eq_true c37
                  clear c37
                  by_cases c38 : ji15 < (y213.length : Int)
                  · rw [if_pos c38] at H
                    have c38b0 : decide (ji15 < (y213.length : Int)) = true := decide_eq_true c38
                    clear c38
                    obtain ⟨y216, hy216⟩ : ∃ y_ : List (S28), y_ = (y213.set (ji15 : Int).toNat (⟨(rd_T28 y213 ji15).f0, t208, (rd_T28 y213 ji15).f2, (rd_T28 y213 ji15).f3, (rd_T28 y213 ji15).f4⟩ : S28)) := ⟨_, rfl⟩
                    replace H : ((horariumref12_Test.f kj19 y216).bind fun t217 => (if t217 = 0 then ((some (y216.set (ji15 : Int).toNat (⟨(rd_T28 y216 ji15).f0, wrap64 (t208 + 1), (rd_T28 y216 ji15).f2, (rd_T28 y216 ji15).f3, (rd_T28 y216 ji15).f4⟩ : S28) : List (S28))).bind fun y218 => ((horariumref12_Test.f kj19 y218).bind fun t219 => (if t219 = 0 then (some false) else ((some (y218.set (ji15 : Int).toNat (⟨(rd_T28 y218 ji15).f0, ((rd_T28 t202 (ji15)).f1), (rd_T28 y218 ji15).f2, (rd_T28 y218 ji15).f3, (rd_T28 y218 ji15).f4⟩ : S28) : List (S28))).bind fun y220 => ((some (y220.set (ji15 : Int).toNat (⟨(rd_T28 y220 ji15).f0, (rd_T28 y220 ji15).f1, t209, (rd_T28 y220 ji15).f3, (rd_T28 y220 ji15).f4⟩ : S28) : List (S28))).bind fun y221 => ((horariumref12_Test.f kj19 y221).bind fun t222 => (if t222 = 0 then (if t201 = true then ((horariumref12_Test.f kj19 (y221.set (ji15 : Int).toNat (⟨(rd_T28 y221 ji15).f0, (rd_T28 y221 ji15).f1, wrap64 (t209 - 1), (rd_T28 y221 ji15).f3, (rd_T28 y221 ji15).f4⟩ : S28))).bind fun t224 => (some (t224 != 0))) else (some false)) else (some false)))))))) else (some false))) = some r := by first | (rw [hy216]; with_reducible exact H) | (have H2_ := (Option.bind_some _ _).symm.trans H; rw [hy216]; with_reducible exact H2_) | (have H2_ := (Option.bind_some _ _).symm.trans H; with_reducible exact H2_) | with_reducible exact H | (rw [hy216]; exact H) | exact H
                    have Ny216 := Aside0.mk hy216
                    clear hy216
                    replace H := Option.bind_eq_some_iff.mp H
                    obtain ⟨t217, A400, H⟩ := H
                    replace H : (if t217 = 0 then ((some (y216.set (ji15 : Int).toNat (⟨(rd_T28 y216 ji15).f0, wrap64 (t208 + 1), (rd_T28 y216 ji15).f2, (rd_T28 y216 ji15).f3, (rd_T28 y216 ji15).f4⟩ : S28) : List (S28))).bind fun y218 => ((horariumref12_Test.f kj19 y218).bind fun t219 => (if t219 = 0 then (some false) else ((some (y218.set (ji15 : Int).toNat (⟨(rd_T28 y218 ji15).f0, ((rd_T28 t202 (ji15)).f1), (rd_T28 y218 ji15).f2, (rd_T28 y218 ji15).f3, (rd_T28 y218 ji15).f4⟩ : S28) : List (S28))).bind fun y220 => ((some (y220.set (ji15 : Int).toNat (⟨(rd_T28 y220 ji15).f0, (rd_T28 y220 ji15).f1, t209, (rd_T28 y220 ji15).f3, (rd_T28 y220 ji15).f4⟩ : S28) : List (S28))).bind fun y221 => ((horariumref12_Test.f kj19 y221).bind fun t222 => (if t222 = 0 then (if t201 = true then ((horariumref12_Test.f kj19 (y221.set (ji15 : Int).toNat (⟨(rd_T28 y221 ji15).f0, (rd_T28 y221 ji15).f1, wrap64 (t209 - 1), (rd_T28 y221 ji15).f3, (rd_T28 y221 ji15).f4⟩ : S28))).bind fun t224 => (some (t224 != 0))) else (some false)) else (some false)))))))) else (some false)) = some r := H
                    have A40 := Aside0.mk A400
                    clear A400
                    by_cases c41 : t217 = 0
                    · rw [if_pos c41] at H
                      have c41b0 : (t217 == 0) = true := beq_iff_eq.mpr c41
                      have c41b1 : (t217 != 0) = false := bne_eq_false_iff_eq.mpr c41
                      clear c41
                      obtain ⟨y218, hy218⟩ : ∃ y_ : List (S28), y_ = (y216.set (ji15 : Int).toNat (⟨(rd_T28 y216 ji15).f0, wrap64 (t208 + 1), (rd_T28 y216 ji15).f2, (rd_T28 y216 ji15).f3, (rd_T28 y216 ji15).f4⟩ : S28)) := ⟨_, rfl⟩
                      replace H : ((horariumref12_Test.f kj19 y218).bind fun t219 => (if t219 = 0 then (some false) else ((some (y218.set (ji15 : Int).toNat (⟨(rd_T28 y218 ji15).f0, ((rd_T28 t202 (ji15)).f1), (rd_T28 y218 ji15).f2, (rd_T28 y218 ji15).f3, (rd_T28 y218 ji15).f4⟩ : S28) : List (S28))).bind fun y220 => ((some (y220.set (ji15 : Int).toNat (⟨(rd_T28 y220 ji15).f0, (rd_T28 y220 ji15).f1, t209, (rd_T28 y220 ji15).f3, (rd_T28 y220 ji15).f4⟩ : S28) : List (S28))).bind fun y221 => ((horariumref12_Test.f kj19 y221).bind fun t222 => (if t222 = 0 then (if t201 = true then ((horariumref12_Test.f kj19 (y221.set (ji15 : Int).toNat (⟨(rd_T28 y221 ji15).f0, (rd_T28 y221 ji15).f1, wrap64 (t209 - 1), (rd_T28 y221 ji15).f3, (rd_T28 y221 ji15).f4⟩ : S28))).bind fun t224 => (some (t224 != 0))) else (some false)) else (some false))))))) = some r := by first | (rw [hy218]; with_reducible exact H) | (have H2_ := (Option.bind_some _ _).symm.trans H; rw [hy218]; with_reducible exact H2_) | (have H2_ := (Option.bind_some _ _).symm.trans H; with_reducible exact H2_) | with_reducible exact H | (rw [hy218]; exact H) | exact H
                      have Ny218 := Aside0.mk hy218
                      clear hy218
                      replace H := Option.bind_eq_some_iff.mp H
                      obtain ⟨t219, A430, H⟩ := H
                      replace H : (if t219 = 0 then (some false) else ((some (y218.set (ji15 : Int).toNat (⟨(rd_T28 y218 ji15).f0, ((rd_T28 t202 (ji15)).f1), (rd_T28 y218 ji15).f2, (rd_T28 y218 ji15).f3, (rd_T28 y218 ji15).f4⟩ : S28) : List (S28))).bind fun y220 => ((some (y220.set (ji15 : Int).toNat (⟨(rd_T28 y220 ji15).f0, (rd_T28 y220 ji15).f1, t209, (rd_T28 y220 ji15).f3, (rd_T28 y220 ji15).f4⟩ : S28) : List (S28))).bind fun y221 => ((horariumref12_Test.f kj19 y221).bind fun t222 => (if t222 = 0 then (if t201 = true then ((horariumref12_Test.f kj19 (y221.set (ji15 : Int).toNat (⟨(rd_T28 y221 ji15).f0, (rd_T28 y221 ji15).f1, wrap64 (t209 - 1), (rd_T28 y221 ji15).f3, (rd_T28 y221 ji15).f4⟩ : S28))).bind fun t224 => (some (t224 != 0))) else (some false)) else (some false)))))) = some r := H
                      have A43 := Aside0.mk A430
                      clear A430
                      by_cases c44 : t219 = 0
                      · rw [if_pos c44] at H
                        have c44b0 : (t219 == 0) = true := beq_iff_eq.mpr c44
                        have c44b1 : (t219 != 0) = false := bne_eq_false_iff_eq.mpr c44
                        clear c44
                        exact absurd ((Option.some.inj H).trans HRT.out) (by decide)
                      · rw [if_neg c44] at H
                        have c44b0 : (t219 == 0) = false := beq_eq_false_iff_ne.mpr c44
                        have c44b1 : (t219 != 0) = true := bne_iff_ne.mpr c44
                        obtain ⟨y220, hy220⟩ : ∃ y_ : List (S28), y_ = (y218.set (ji15 : Int).toNat (⟨(rd_T28 y218 ji15).f0, ((rd_T28 t202 (ji15)).f1), (rd_T28 y218 ji15).f2, (rd_T28 y218 ji15).f3, (rd_T28 y218 ji15).f4⟩ : S28)) := ⟨_, rfl⟩
                        replace H : ((some (y220.set (ji15 : Int).toNat (⟨(rd_T28 y220 ji15).f0, (rd_T28 y220 ji15).f1, t209, (rd_T28 y220 ji15).f3, (rd_T28 y220 ji15).f4⟩ : S28) : List (S28))).bind fun y221 => ((horariumref12_Test.f kj19 y221).bind fun t222 => (if t222 = 0 then (if t201 = true then ((horariumref12_Test.f kj19 (y221.set (ji15 : Int).toNat (⟨(rd_T28 y221 ji15).f0, (rd_T28 y221 ji15).f1, wrap64 (t209 - 1), (rd_T28 y221 ji15).f3, (rd_T28 y221 ji15).f4⟩ : S28))).bind fun t224 => (some (t224 != 0))) else (some false)) else (some false)))) = some r := by first | (rw [hy220]; with_reducible exact H) | (have H2_ := (Option.bind_some _ _).symm.trans H; rw [hy220]; with_reducible exact H2_) | (have H2_ := (Option.bind_some _ _).symm.trans H; with_reducible exact H2_) | with_reducible exact H | (rw [hy220]; exact H) | exact H
                        have Ny220 := Aside0.mk hy220
                        clear hy220
                        obtain ⟨y221, hy221⟩ : ∃ y_ : List (S28), y_ = (y220.set (ji15 : Int).toNat (⟨(rd_T28 y220 ji15).f0, (rd_T28 y220 ji15).f1, t209, (rd_T28 y220 ji15).f3, (rd_T28 y220 ji15).f4⟩ : S28)) := ⟨_, rfl⟩
                        replace H : ((horariumref12_Test.f kj19 y221).bind fun t222 => (if t222 = 0 then (if t201 = true then ((horariumref12_Test.f kj19 (y221.set (ji15 : Int).toNat (⟨(rd_T28 y221 ji15).f0, (rd_T28 y221 ji15).f1, wrap64 (t209 - 1), (rd_T28 y221 ji15).f3, (rd_T28 y221 ji15).f4⟩ : S28))).bind fun t224 => (some (t224 != 0))) else (some false)) else (some false))) = some r := by first | (rw [hy221]; with_reducible exact H) | (have H2_ := (Option.bind_some _ _).symm.trans H; rw [hy221]; with_reducible exact H2_) | (have H2_ := (Option.bind_some _ _).symm.trans H; with_reducible exact H2_) | with_reducible exact H | (rw [hy221]; exact H) | exact H
                        have Ny221 := Aside0.mk hy221
                        clear hy221
                        replace H := Option.bind_eq_some_iff.mp H
                        obtain ⟨t222, A560, H⟩ := H
                        replace H : (if t222 = 0 then (if t201 = true then ((horariumref12_Test.f kj19 (y221.set (ji15 : Int).toNat (⟨(rd_T28 y221 ji15).f0, (rd_T28 y221 ji15).f1, wrap64 (t209 - 1), (rd_T28 y221 ji15).f3, (rd_T28 y221 ji15).f4⟩ : S28))).bind fun t224 => (some (t224 != 0))) else (some false)) else (some false)) = some r := H
                        have A56 := Aside0.mk A560
                        clear A560
                        by_cases c57 : t222 = 0
                        · rw [if_pos c57] at H
                          have c57b0 : (t222 == 0) = true := beq_iff_eq.mpr c57
                          have c57b1 : (t222 != 0) = false := bne_eq_false_iff_eq.mpr c57
                          clear c57
                          obtain ⟨y223, hy223⟩ : ∃ y_ : List (S28), y_ = (y221.set (ji15 : Int).toNat (⟨(rd_T28 y221 ji15).f0, (rd_T28 y221 ji15).f1, wrap64 (t209 - 1), (rd_T28 y221 ji15).f3, (rd_T28 y221 ji15).f4⟩ : S28)) := ⟨_, rfl⟩
                          replace H : (if t201 = true then ((horariumref12_Test.f kj19 y223).bind fun t224 => (some (t224 != 0))) else (some false)) = some r := by first | (rw [hy223]; with_reducible exact H) | (have H2_ := (Option.bind_some _ _).symm.trans H; rw [hy223]; with_reducible exact H2_) | (have H2_ := (Option.bind_some _ _).symm.trans H; with_reducible exact H2_) | with_reducible exact H | (rw [hy223]; exact H) | exact H
                          have Ny223 := Aside0.mk hy223
                          clear hy223
                          by_cases c59 : t201 = true
                          · subst c59
                            have H1 : ((horariumref12_Test.f kj19 y223).bind fun t224 => (some (t224 != 0))) = some r := by rw [if_pos rfl] at H; exact H
                            clear H
                            have H := H1
                            clear H1
                            replace H := Option.bind_eq_some_iff.mp H
                            obtain ⟨t224, A600, H⟩ := H
                            replace H : (some (t224 != 0)) = some r := H
                            have A60 := Aside0.mk A600
                            clear A600
                            obtain rfl := Option.some.inj H
                            go_wp2_with (first | ((with_reducible refine gate_dst (N := 66) rfl ?_); refine Kd.R_lit k28 _ 28 ?hg (N := 66) ?hd (xs := ([] : List (S28))) (inner := []) (ok := fun _ => True) (okp := fun _ => True) ?hr ?hp (fun _ hk => hk) trivial (Below.refl _ _) (Nat.le_refl _) (by simp) ?_; (case hd => rfl); (case hg => rfl); (case hr => first | (go_simp; done) | (go_simp; rfl)); (case hp => exact (Reps.none _ _)); intro v211 w61 ho62 hb hg_ hnew_; clear hg_ hnew_; (first | rw [← Ny210.out] at ho62 | (simp only [Int.reduceToNat] at ho62; rw [← Ny210.out] at ho62)); have n0_ := Aside0.mk (Kd.R_elder' (by (with_reducible repeat (first | apply Kd.R_alloc | apply Kd.R_drewN | apply Kd.R_drew)); exact HO_6.out) (Kd.R_base ho62) hb); have n1_ := Aside0.mk (Kd.R_lower (Kd.R_newB (Kd.R_new' ho62 (Kd.R_lt (by (with_reducible repeat (first | apply Kd.R_alloc | apply Kd.R_drewN | apply Kd.R_drew)); exact HO_6.out))) (g := gb207) (o := .cells #[.int .i64 ((rd_T28 t202 (ji15)).f0), .int .i64 ((rd_T28 t202 (ji15)).f1), .int .i64 ((rd_T28 t202 (ji15)).f2), .int .i64 ((rd_T28 t202 (ji15)).f3), .int .i64 ((rd_T28 t202 (ji15)).f4)] 28 (0, 0)) (by (with_reducible repeat (first | refine blk_drewN ?_ _ | refine blk_drew ?_ | refine blk_alloc ?_ _)); exact BK207.out)) (below_size (by repeat (first | (with_reducible first | exact HB.out | apply below_alloc | apply pw_below_drewN | apply below_drew1 | refine below_set ?_ GE207.out) | exact HB.out)))); have n2_ := Aside0.mk (blk_below (g := gb207) (o := .cells #[.int .i64 ((rd_T28 t202 (ji15)).f0), .int .i64 ((rd_T28 t202 (ji15)).f1), .int .i64 ((rd_T28 t202 (ji15)).f2), .int .i64 ((rd_T28 t202 (ji15)).f3), .int .i64 ((rd_T28 t202 (ji15)).f4)] 28 (0, 0)) (by (with_reducible repeat (first | refine blk_drewN ?_ _ | refine blk_drew ?_ | refine blk_alloc ?_ _)); exact BK207.out) hb); have n3_ := Aside0.mk (below_step (by repeat (first | (with_reducible first | exact HB.out | apply below_alloc | apply pw_below_drewN | apply below_drew1 | refine below_set ?_ GE207.out) | exact HB.out)) hb); clear HO_6; clear BK207; clear HB; have HO_6 := n0_; have HO212 := n1_; have BK207 := n2_; have HB := n3_; clear n0_ n1_ n2_ n3_; clear hb ho62) | ((with_reducible refine gate_builtin (b := .append) (xs := #[.tmp 66, .tmp 67]) rfl ?_); at_builtin; refine Kd.R_append_rows k28 (w0 := w) w.heap.size rfl (.tmp 66) (.tmp 67) 24 28 (.agg #[(.int .i64 0), (.int .i64 0), (.int .i64 0), (.int .i64 0), (.int .i64 0)]) 40 rfl Try.underlying24 info28 rfl (by decide) (by omega) v211 y210 t202 _ _ _ (fun k_ => some k_ ≠ (.slice (some ad206) t202.length co23 : Value).ownBlock ∧ k_ ≠ gb207) (fun _ => False) rfl rfl ?aO ?aR (fun _ _ h => h) (fun _ h => h.elim) ?aF ?aB ?aS ?aL ?_; (case aR => repeat (first | exact (Kd.R_reads' HO_6.out).2.2 | (with_reducible refine Kd.C_alloc ?_ _) | (with_reducible refine Kd.C_drewN ?_ _) | (with_reducible refine Kd.C_drew ?_))); (case aB => exact (by repeat (first | (with_reducible first | exact HB.out | apply below_alloc | apply pw_below_drewN | apply below_drew1 | refine below_set ?_ GE207.out) | exact HB.out))); (case aF => exact (fun k_ hk => ⟨Kd.fresh' (Kd.R_lt (by (with_reducible repeat (first | apply Kd.R_alloc | apply Kd.R_drewN | apply Kd.R_drew)); exact HO_6.out)) k_ hk, Kd.freshB (g := gb207) (o := .cells #[.int .i64 ((rd_T28 t202 (ji15)).f0), .int .i64 ((rd_T28 t202 (ji15)).f1), .int .i64 ((rd_T28 t202 (ji15)).f2), .int .i64 ((rd_T28 t202 (ji15)).f3), .int .i64 ((rd_T28 t202 (ji15)).f4)] 28 (0, 0)) (by (with_reducible repeat (first | refine blk_drewN ?_ _ | refine blk_drew ?_ | refine blk_alloc ?_ _)); exact BK207.out) k_ hk⟩)); (case aO => exact (by (with_reducible repeat (first | apply Kd.R_alloc | apply Kd.R_drewN | apply Kd.R_drew)); exact Kd.R_mono HO212.out (fun _ hk => ⟨hk.1.2, hk.2⟩))); (case aS => exact (below_size (by repeat (first | (with_reducible first | exact HB.out | apply below_alloc | apply pw_below_drewN | apply below_drew1 | refine below_set ?_ GE207.out) | exact HB.out)))); (case aL => have := LMc36.out; omega); intro v214 w63 ho hb hg hat; rw [← Ny213.out] at ho; have n0_ := Aside0.mk (Kd.R_after (ok := (fun k_ => k_ ≠ gb207)) (by (with_reducible repeat (first | apply Kd.R_alloc | apply Kd.R_drewN | apply Kd.R_drew)); exact HO_6.out) hg hat); have n1_ := Aside0.mk (blk_grown (g := gb207) (o := .cells #[.int .i64 ((rd_T28 t202 (ji15)).f0), .int .i64 ((rd_T28 t202 (ji15)).f1), .int .i64 ((rd_T28 t202 (ji15)).f2), .int .i64 ((rd_T28 t202 (ji15)).f3), .int .i64 ((rd_T28 t202 (ji15)).f4)] 28 (0, 0)) (by (with_reducible repeat (first | refine blk_drewN ?_ _ | refine blk_drew ?_ | refine blk_alloc ?_ _)); exact BK207.out) hg (Kd.R_away HO212.out (fun _ hk => hk.2))); have n2_ := Aside0.mk (hb); have n3_ := Aside0.mk (ho); clear HO_6; clear BK207; clear HB; clear HO212; have HO_6 := n0_; have BK207 := n1_; have HB := n2_; have HO215 := n3_; clear n0_ n1_ n2_ n3_; clear ho hb hg hat; have p39 : 0 ≤ (ji15 : Int) := of_decide_eq_true (by first | (with_reducible assumption) | assumption); have q39 : (ji15 : Int) < ((y213.length : Int) : Int) := of_decide_eq_true (by first | (with_reducible assumption) | assumption); obtain ⟨go39, co39, eo39, gb39, gl39, cl39, HG39⟩ := Kd.R_form HO215.out (by omega); (first | cases eo39 | (injection eo39 with ea_ en_ ec_; (first | subst ea_ | (injection ea_ with ea_; subst ea_)); subst ec_; clear en_)); have GB39 := Aside0.mk gb39; have GG39 := Aside0.mk HG39; clear gb39 gl39 HG39; obtain ⟨ce39, hcl39, hM39, hcc39, hfr39⟩ := Kd.R_elem HO215.out z28 (ji15 : Int) p39 q39; obtain rfl := k28_openM hM39; have hx39_0 : w63.cell? ⟨go39, (ji15 : Int).toNat * 5, none⟩ = some (.int .i64 ((rd_T28 y213 ji15).f0)) := hcc39 0 _ rfl; have hx39_1 : w63.cell? ⟨go39, (ji15 : Int).toNat * 5 + 1, none⟩ = some (.int .i64 ((rd_T28 y213 ji15).f1)) := hcc39 1 _ rfl; have hx39_2 : w63.cell? ⟨go39, (ji15 : Int).toNat * 5 + 2, none⟩ = some (.int .i64 ((rd_T28 y213 ji15).f2)) := hcc39 2 _ rfl; have hx39_3 : w63.cell? ⟨go39, (ji15 : Int).toNat * 5 + 3, none⟩ = some (.int .i64 ((rd_T28 y213 ji15).f3)) := hcc39 3 _ rfl; have hx39_4 : w63.cell? ⟨go39, (ji15 : Int).toNat * 5 + 4, none⟩ = some (.int .i64 ((rd_T28 y213 ji15).f4)) := hcc39 4 _ rfl; have hf39_0 : w63.frozen? ⟨go39, (ji15 : Int).toNat * 5, none⟩ = false := hfr39 0; have hf39_1 : w63.frozen? ⟨go39, (ji15 : Int).toNat * 5 + 1, none⟩ = false := hfr39 1; have hf39_2 : w63.frozen? ⟨go39, (ji15 : Int).toNat * 5 + 2, none⟩ = false := hfr39 2; have hf39_3 : w63.frozen? ⟨go39, (ji15 : Int).toNat * 5 + 3, none⟩ = false := hfr39 3; have hf39_4 : w63.frozen? ⟨go39, (ji15 : Int).toNat * 5 + 4, none⟩ = false := hfr39 4; clear hcl39 hcc39 hfr39 hM39; replace p39 := eq_true p39; replace q39 := eq_true q39; have HX64 := Aside0.mk (show Kd.R k28 28 w63 w.heap.size (fun k_ => some k_ ≠ (.slice (some ad206) t202.length co23 : Value).ownBlock ∧ k_ ≠ gb207) (.slice (some ⟨go39, 0, none⟩) y213.length co39) y213 from (by (with_reducible repeat (first | apply Kd.R_alloc | apply Kd.R_drewN | apply Kd.R_drew)); exact HO215.out)); obtain ⟨ce64, hcl64, hM64, hcc64, hfr64⟩ := Kd.R_elem HX64.out z28 (ji15 : Int) (of_decide_eq_true (by first | (with_reducible assumption) | assumption)) (by have h_ : (ji15 : Int) < ((y213.length : Int) : Int) := of_decide_eq_true (by first | (with_reducible assumption) | assumption); first | exact h_ | (have e_ := (Kd.R_reads' HO215.out).1; omega) | simpa using h_); obtain rfl := k28_openM hM64; have HP64 := Kd.R_seg HX64.out (ji15 : Int) (of_decide_eq_true (by first | (with_reducible assumption) | assumption)) (by have h_ : (ji15 : Int) < ((y213.length : Int) : Int) := of_decide_eq_true (by first | (with_reducible assumption) | assumption); first | exact h_ | (have e_ := (Kd.R_reads' HO215.out).1; omega) | simpa using h_) (seg := [.int .i64 t208]) (j := 1) hcl64 hcc64 (show 2 ≤ 5 from by decide) (x' := (⟨(rd_T28 y213 ji15).f0, t208, (rd_T28 y213 ji15).f2, (rd_T28 y213 ji15).f3, (rd_T28 y213 ji15).f4⟩ : S28)) (k28_mkM _ _ _ (⟨(rd_T28 y213 ji15).f0, t208, (rd_T28 y213 ji15).f2, (rd_T28 y213 ji15).f3, (rd_T28 y213 ji15).f4⟩ : S28) ) (fun _ hk => hk); have hx64_1 := hcc64 1 _ rfl; (try simp only [show (k28).sz = 5 from rfl, Nat.mul_one, Nat.add_zero] at hx64_1); have hf64_1 := hfr64 1; (try simp only [show (k28).sz = 5 from rfl, Nat.mul_one, Nat.add_zero] at hf64_1); clear hcl64 hcc64 hfr64 hM64) | ((with_reducible refine gate_store (t := 2) (p := 73) rfl ?_); refine store_event (t := 2) (p := 73) (v := ?vo_w65) (w1 := (w63.setCell ⟨go39, (ji15 : Int).toNat * 5 + 1, none⟩ (.int .i64 t208))) ?hg ?ho ?hn ?hr ?_; (case ho => rfl); (case hg => rfl); (case hn => rfl); (case hr => first | (go_simp; done) | (go_simp; rfl)); intro w65 hw; have hg : w63.grownBy w65 (some go39) := (by rw [hw]; exact HP64.2); have hp_ : Kd.R k28 28 w65 w.heap.size (fun k_ => some k_ ≠ (.slice (some ad206) t202.length co23 : Value).ownBlock ∧ k_ ≠ gb207) (.slice (some ⟨go39, 0, none⟩) y213.length co39) y216 := (by rw [hw, Ny216.out]; exact HP64.1); clear HP64; have n0_ := Aside0.mk (Kd.R_after (v := (.slice (some ⟨go39, 0, none⟩) y213.length co39)) (v1 := (.slice (some ⟨go39, 0, none⟩) y213.length co39)) (ok := (fun k_ => k_ ≠ gb207)) (by (with_reducible repeat (first | apply Kd.R_alloc | apply Kd.R_drewN | apply Kd.R_drew)); exact HO_6.out) hg (.inl rfl)); have n1_ := Aside0.mk (blk_grown (g := gb207) (o := .cells #[.int .i64 ((rd_T28 t202 (ji15)).f0), .int .i64 ((rd_T28 t202 (ji15)).f1), .int .i64 ((rd_T28 t202 (ji15)).f2), .int .i64 ((rd_T28 t202 (ji15)).f3), .int .i64 ((rd_T28 t202 (ji15)).f4)] 28 (0, 0)) (by (with_reducible repeat (first | refine blk_drewN ?_ _ | refine blk_drew ?_ | refine blk_alloc ?_ _)); exact BK207.out) hg (Kd.R_away HO215.out (fun _ hk => hk.2))); have n2_ := Aside0.mk (hp_); have n3_ := Aside0.mk ((by rw [hw]; exact below_set (HB.out) GB39.out : Below w.heap.size w w65)); clear HO_6; clear BK207; clear HO215; clear HB; have HO_6 := n0_; have BK207 := n1_; have HO215 := n2_; have HB := n3_; clear n0_ n1_ n2_ n3_; clear hg hw hp_) | ((with_reducible refine gate_callee (f := 22) rfl ?_); refine goesL_ (some 75) rfl rfl Try.func22 (by kernel_rfl) rfl #[.slice (some ⟨go39, 0, none⟩) y216.length co39] rfl (by (try simp only [List.map_toArray, List.map_cons, List.map_nil]); first | done | (rw [show y216.length = y213.length from (Kd.R_reads' HO215.out).1.symm] <;> rfl) | rfl | (simp only [List.length_drop, List.length_take]; rfl)) ?_; (with_reducible refine (horariumref12_Test.calls kj19 _ _ y216 t217 _ ?side1 ?side2 A40.out).mono ?_); (case side1 => repeat (first | exact (Kd.R_reads' HO215.out).2.2 | (with_reducible refine Kd.C_alloc ?_ _) | (with_reducible refine Kd.C_drewN ?_ _) | (with_reducible refine Kd.C_drew ?_))); (case side2 => rw [show y216.length = y213.length from (Kd.R_reads' HO215.out).1.symm]; exact (Kd.R_reads' HO215.out).2.1); rintro e w66 ⟨rfl, hb⟩; refine ⟨_, rfl, ?_⟩; have n0_ := Aside0.mk (Kd.R_below (by (with_reducible repeat (first | apply Kd.R_alloc | apply Kd.R_drewN | apply Kd.R_drew)); exact HO_6.out) hb); have n1_ := Aside0.mk (Kd.R_below (by (with_reducible repeat (first | apply Kd.R_alloc | apply Kd.R_drewN | apply Kd.R_drew)); exact HO215.out) hb); have n2_ := Aside0.mk (blk_below (g := gb207) (o := .cells #[.int .i64 ((rd_T28 t202 (ji15)).f0), .int .i64 ((rd_T28 t202 (ji15)).f1), .int .i64 ((rd_T28 t202 (ji15)).f2), .int .i64 ((rd_T28 t202 (ji15)).f3), .int .i64 ((rd_T28 t202 (ji15)).f4)] 28 (0, 0)) (by (with_reducible repeat (first | refine blk_drewN ?_ _ | refine blk_drew ?_ | refine blk_alloc ?_ _)); exact BK207.out) hb); have n3_ := Aside0.mk (below_step (by repeat (first | (with_reducible first | exact HB.out | apply below_alloc | apply pw_below_drewN | apply below_drew1 | refine below_set ?_ GE207.out) | exact HB.out)) hb); clear HO_6; clear HO215; clear BK207; clear HB; have HO_6 := n0_; have HO215 := n1_; have BK207 := n2_; have HB := n3_; clear n0_ n1_ n2_ n3_; (try clear hb); (try clear hb2); (try clear hk); (try clear hi); have p42 : 0 ≤ (ji15 : Int) := of_decide_eq_true (by first | (with_reducible assumption) | assumption); have q42 : (ji15 : Int) < ((y213.length : Int) : Int) := of_decide_eq_true (by first | (with_reducible assumption) | assumption); obtain ⟨ce42, hcl42, hM42, hcc42, hfr42⟩ := Kd.R_elem HO215.out z28 (ji15 : Int) p42 q42; obtain rfl := k28_openM hM42; have hx42_0 : w66.cell? ⟨go39, (ji15 : Int).toNat * 5, none⟩ = some (.int .i64 ((rd_T28 y216 ji15).f0)) := hcc42 0 _ rfl; have hx42_1 : w66.cell? ⟨go39, (ji15 : Int).toNat * 5 + 1, none⟩ = some (.int .i64 ((rd_T28 y216 ji15).f1)) := hcc42 1 _ rfl; have hx42_2 : w66.cell? ⟨go39, (ji15 : Int).toNat * 5 + 2, none⟩ = some (.int .i64 ((rd_T28 y216 ji15).f2)) := hcc42 2 _ rfl; have hx42_3 : w66.cell? ⟨go39, (ji15 : Int).toNat * 5 + 3, none⟩ = some (.int .i64 ((rd_T28 y216 ji15).f3)) := hcc42 3 _ rfl; have hx42_4 : w66.cell? ⟨go39, (ji15 : Int).toNat * 5 + 4, none⟩ = some (.int .i64 ((rd_T28 y216 ji15).f4)) := hcc42 4 _ rfl; have hf42_0 : w66.frozen? ⟨go39, (ji15 : Int).toNat * 5, none⟩ = false := hfr42 0; have hf42_1 : w66.frozen? ⟨go39, (ji15 : Int).toNat * 5 + 1, none⟩ = false := hfr42 1; have hf42_2 : w66.frozen? ⟨go39, (ji15 : Int).toNat * 5 + 2, none⟩ = false := hfr42 2; have hf42_3 : w66.frozen? ⟨go39, (ji15 : Int).toNat * 5 + 3, none⟩ = false := hfr42 3; have hf42_4 : w66.frozen? ⟨go39, (ji15 : Int).toNat * 5 + 4, none⟩ = false := hfr42 4; clear hcl42 hcc42 hfr42 hM42; replace p42 := eq_true p42; replace q42 := eq_true q42; have HX67 := Aside0.mk (show Kd.R k28 28 w66 w.heap.size (fun k_ => some k_ ≠ (.slice (some ad206) t202.length co23 : Value).ownBlock ∧ k_ ≠ gb207) (.slice (some ⟨go39, 0, none⟩) y213.length co39) y216 from (by (with_reducible repeat (first | apply Kd.R_alloc | apply Kd.R_drewN | apply Kd.R_drew)); exact HO215.out)); obtain ⟨ce67, hcl67, hM67, hcc67, hfr67⟩ := Kd.R_elem HX67.out z28 (ji15 : Int) (of_decide_eq_true (by first | (with_reducible assumption) | assumption)) (by have h_ : (ji15 : Int) < ((y213.length : Int) : Int) := of_decide_eq_true (by first | (with_reducible assumption) | assumption); first | exact h_ | (have e_ := (Kd.R_reads' HO215.out).1; omega) | simpa using h_); obtain rfl := k28_openM hM67; have HP67 := Kd.R_seg HX67.out (ji15 : Int) (of_decide_eq_true (by first | (with_reducible assumption) | assumption)) (by have h_ : (ji15 : Int) < ((y213.length : Int) : Int) := of_decide_eq_true (by first | (with_reducible assumption) | assumption); first | exact h_ | (have e_ := (Kd.R_reads' HO215.out).1; omega) | simpa using h_) (seg := [.int .i64 (wrap64 (t208 + 1))]) (j := 1) hcl67 hcc67 (show 2 ≤ 5 from by decide) (x' := (⟨(rd_T28 y216 ji15).f0, wrap64 (t208 + 1), (rd_T28 y216 ji15).f2, (rd_T28 y216 ji15).f3, (rd_T28 y216 ji15).f4⟩ : S28)) (k28_mkM _ _ _ (⟨(rd_T28 y216 ji15).f0, wrap64 (t208 + 1), (rd_T28 y216 ji15).f2, (rd_T28 y216 ji15).f3, (rd_T28 y216 ji15).f4⟩ : S28) ) (fun _ hk => hk); have hx67_1 := hcc67 1 _ rfl; (try simp only [show (k28).sz = 5 from rfl, Nat.mul_one, Nat.add_zero] at hx67_1); have hf67_1 := hfr67 1; (try simp only [show (k28).sz = 5 from rfl, Nat.mul_one, Nat.add_zero] at hf67_1); clear hcl67 hcc67 hfr67 hM67) | ((with_reducible refine gate_store (t := 2) (p := 82) rfl ?_); refine store_event (t := 2) (p := 82) (v := ?vo_w68) (w1 := (w66.setCell ⟨go39, (ji15 : Int).toNat * 5 + 1, none⟩ (.int .i64 (wrap64 (t208 + 1))))) ?hg ?ho ?hn ?hr ?_; (case ho => rfl); (case hg => rfl); (case hn => rfl); (case hr => first | (go_simp; done) | (go_simp; rfl)); intro w68 hw; have hg : w66.grownBy w68 (some go39) := (by rw [hw]; exact HP67.2); have hp_ : Kd.R k28 28 w68 w.heap.size (fun k_ => some k_ ≠ (.slice (some ad206) t202.length co23 : Value).ownBlock ∧ k_ ≠ gb207) (.slice (some ⟨go39, 0, none⟩) y213.length co39) y218 := (by rw [hw, Ny218.out]; exact HP67.1); clear HP67; have n0_ := Aside0.mk (Kd.R_after (v := (.slice (some ⟨go39, 0, none⟩) y213.length co39)) (v1 := (.slice (some ⟨go39, 0, none⟩) y213.length co39)) (ok := (fun k_ => k_ ≠ gb207)) (by (with_reducible repeat (first | apply Kd.R_alloc | apply Kd.R_drewN | apply Kd.R_drew)); exact HO_6.out) hg (.inl rfl)); have n1_ := Aside0.mk (blk_grown (g := gb207) (o := .cells #[.int .i64 ((rd_T28 t202 (ji15)).f0), .int .i64 ((rd_T28 t202 (ji15)).f1), .int .i64 ((rd_T28 t202 (ji15)).f2), .int .i64 ((rd_T28 t202 (ji15)).f3), .int .i64 ((rd_T28 t202 (ji15)).f4)] 28 (0, 0)) (by (with_reducible repeat (first | refine blk_drewN ?_ _ | refine blk_drew ?_ | refine blk_alloc ?_ _)); exact BK207.out) hg (Kd.R_away HO215.out (fun _ hk => hk.2))); have n2_ := Aside0.mk (hp_); have n3_ := Aside0.mk ((by rw [hw]; exact below_set (HB.out) GB39.out : Below w.heap.size w w68)); clear HO_6; clear BK207; clear HO215; clear HB; have HO_6 := n0_; have BK207 := n1_; have HO215 := n2_; have HB := n3_; clear n0_ n1_ n2_ n3_; clear hg hw hp_) | ((with_reducible refine gate_callee (f := 22) rfl ?_); refine goesL_ (some 84) rfl rfl Try.func22 (by kernel_rfl) rfl #[.slice (some ⟨go39, 0, none⟩) y218.length co39] rfl (by (try simp only [List.map_toArray, List.map_cons, List.map_nil]); first | done | (rw [show y218.length = y213.length from (Kd.R_reads' HO215.out).1.symm] <;> rfl) | rfl | (simp only [List.length_drop, List.length_take]; rfl)) ?_; (with_reducible refine (horariumref12_Test.calls kj19 _ _ y218 t219 _ ?side1 ?side2 A43.out).mono ?_); (case side1 => repeat (first | exact (Kd.R_reads' HO215.out).2.2 | (with_reducible refine Kd.C_alloc ?_ _) | (with_reducible refine Kd.C_drewN ?_ _) | (with_reducible refine Kd.C_drew ?_))); (case side2 => rw [show y218.length = y213.length from (Kd.R_reads' HO215.out).1.symm]; exact (Kd.R_reads' HO215.out).2.1); rintro e w69 ⟨rfl, hb⟩; refine ⟨_, rfl, ?_⟩; have n0_ := Aside0.mk (Kd.R_below (by (with_reducible repeat (first | apply Kd.R_alloc | apply Kd.R_drewN | apply Kd.R_drew)); exact HO_6.out) hb); have n1_ := Aside0.mk (Kd.R_below (by (with_reducible repeat (first | apply Kd.R_alloc | apply Kd.R_drewN | apply Kd.R_drew)); exact HO215.out) hb); have n2_ := Aside0.mk (blk_below (g := gb207) (o := .cells #[.int .i64 ((rd_T28 t202 (ji15)).f0), .int .i64 ((rd_T28 t202 (ji15)).f1), .int .i64 ((rd_T28 t202 (ji15)).f2), .int .i64 ((rd_T28 t202 (ji15)).f3), .int .i64 ((rd_T28 t202 (ji15)).f4)] 28 (0, 0)) (by (with_reducible repeat (first | refine blk_drewN ?_ _ | refine blk_drew ?_ | refine blk_alloc ?_ _)); exact BK207.out) hb); have n3_ := Aside0.mk (below_step (by repeat (first | (with_reducible first | exact HB.out | apply below_alloc | apply pw_below_drewN | apply below_drew1 | refine below_set ?_ GE207.out) | exact HB.out)) hb); clear HO_6; clear HO215; clear BK207; clear HB; have HO_6 := n0_; have HO215 := n1_; have BK207 := n2_; have HB := n3_; clear n0_ n1_ n2_ n3_; (try clear hb); (try clear hb2); (try clear hk); (try clear hi); have hcz70_0 : w69.cell? ⟨gb207, 0, none⟩ = some (.int .i64 ((rd_T28 t202 (ji15)).f0)) := (blk_cell BK207.out 0).trans rfl; have hcz70_1 : w69.cell? ⟨gb207, 1, none⟩ = some (.int .i64 ((rd_T28 t202 (ji15)).f1)) := (blk_cell BK207.out 1).trans rfl; have hcz70_2 : w69.cell? ⟨gb207, 2, none⟩ = some (.int .i64 ((rd_T28 t202 (ji15)).f2)) := (blk_cell BK207.out 2).trans rfl; have hcz70_3 : w69.cell? ⟨gb207, 3, none⟩ = some (.int .i64 ((rd_T28 t202 (ji15)).f3)) := (blk_cell BK207.out 3).trans rfl; have hcz70_4 : w69.cell? ⟨gb207, 4, none⟩ = some (.int .i64 ((rd_T28 t202 (ji15)).f4)) := (blk_cell BK207.out 4).trans rfl; have hfz70_0 := blk_frozen BK207.out 0; have hfz70_1 := blk_frozen BK207.out 1; have hfz70_2 := blk_frozen BK207.out 2; have hfz70_3 := blk_frozen BK207.out 3; have hfz70_4 := blk_frozen BK207.out 4; have p54 : 0 ≤ (ji15 : Int) := of_decide_eq_true (by first | (with_reducible assumption) | assumption); have q54 : (ji15 : Int) < ((y213.length : Int) : Int) := of_decide_eq_true (by first | (with_reducible assumption) | assumption); obtain ⟨ce54, hcl54, hM54, hcc54, hfr54⟩ := Kd.R_elem HO215.out z28 (ji15 : Int) p54 q54; obtain rfl := k28_openM hM54; have hx54_0 : w69.cell? ⟨go39, (ji15 : Int).toNat * 5, none⟩ = some (.int .i64 ((rd_T28 y218 ji15).f0)) := hcc54 0 _ rfl; have hx54_1 : w69.cell? ⟨go39, (ji15 : Int).toNat * 5 + 1, none⟩ = some (.int .i64 ((rd_T28 y218 ji15).f1)) := hcc54 1 _ rfl; have hx54_2 : w69.cell? ⟨go39, (ji15 : Int).toNat * 5 + 2, none⟩ = some (.int .i64 ((rd_T28 y218 ji15).f2)) := hcc54 2 _ rfl; have hx54_3 : w69.cell? ⟨go39, (ji15 : Int).toNat * 5 + 3, none⟩ = some (.int .i64 ((rd_T28 y218 ji15).f3)) := hcc54 3 _ rfl; have hx54_4 : w69.cell? ⟨go39, (ji15 : Int).toNat * 5 + 4, none⟩ = some (.int .i64 ((rd_T28 y218 ji15).f4)) := hcc54 4 _ rfl; have hf54_0 : w69.frozen? ⟨go39, (ji15 : Int).toNat * 5, none⟩ = false := hfr54 0; have hf54_1 : w69.frozen? ⟨go39, (ji15 : Int).toNat * 5 + 1, none⟩ = false := hfr54 1; have hf54_2 : w69.frozen? ⟨go39, (ji15 : Int).toNat * 5 + 2, none⟩ = false := hfr54 2; have hf54_3 : w69.frozen? ⟨go39, (ji15 : Int).toNat * 5 + 3, none⟩ = false := hfr54 3; have hf54_4 : w69.frozen? ⟨go39, (ji15 : Int).toNat * 5 + 4, none⟩ = false := hfr54 4; clear hcl54 hcc54 hfr54 hM54; replace p54 := eq_true p54; replace q54 := eq_true q54; have HX71 := Aside0.mk (show Kd.R k28 28 w69 w.heap.size (fun k_ => some k_ ≠ (.slice (some ad206) t202.length co23 : Value).ownBlock ∧ k_ ≠ gb207) (.slice (some ⟨go39, 0, none⟩) y213.length co39) y218 from (by (with_reducible repeat (first | apply Kd.R_alloc | apply Kd.R_drewN | apply Kd.R_drew)); exact HO215.out)); obtain ⟨ce71, hcl71, hM71, hcc71, hfr71⟩ := Kd.R_elem HX71.out z28 (ji15 : Int) (of_decide_eq_true (by first | (with_reducible assumption) | assumption)) (by have h_ : (ji15 : Int) < ((y213.length : Int) : Int) := of_decide_eq_true (by first | (with_reducible assumption) | assumption); first | exact h_ | (have e_ := (Kd.R_reads' HO215.out).1; omega) | simpa using h_); obtain rfl := k28_openM hM71; have HP71 := Kd.R_seg HX71.out (ji15 : Int) (of_decide_eq_true (by first | (with_reducible assumption) | assumption)) (by have h_ : (ji15 : Int) < ((y213.length : Int) : Int) := of_decide_eq_true (by first | (with_reducible assumption) | assumption); first | exact h_ | (have e_ := (Kd.R_reads' HO215.out).1; omega) | simpa using h_) (seg := [.int .i64 ((rd_T28 t202 (ji15)).f1)]) (j := 1) hcl71 hcc71 (show 2 ≤ 5 from by decide) (x' := (⟨(rd_T28 y218 ji15).f0, ((rd_T28 t202 (ji15)).f1), (rd_T28 y218 ji15).f2, (rd_T28 y218 ji15).f3, (rd_T28 y218 ji15).f4⟩ : S28)) (k28_mkM _ _ _ (⟨(rd_T28 y218 ji15).f0, ((rd_T28 t202 (ji15)).f1), (rd_T28 y218 ji15).f2, (rd_T28 y218 ji15).f3, (rd_T28 y218 ji15).f4⟩ : S28) ) (fun _ hk => hk); have hx71_1 := hcc71 1 _ rfl; (try simp only [show (k28).sz = 5 from rfl, Nat.mul_one, Nat.add_zero] at hx71_1); have hf71_1 := hfr71 1; (try simp only [show (k28).sz = 5 from rfl, Nat.mul_one, Nat.add_zero] at hf71_1); clear hcl71 hcc71 hfr71 hM71) | ((with_reducible refine gate_store (t := 2) (p := 91) rfl ?_); refine store_event (t := 2) (p := 91) (v := ?vo_w72) (w1 := (w69.setCell ⟨go39, (ji15 : Int).toNat * 5 + 1, none⟩ (.int .i64 ((rd_T28 t202 (ji15)).f1)))) ?hg ?ho ?hn ?hr ?_; (case ho => rfl); (case hg => rfl); (case hn => rfl); (case hr => first | (go_simp; done) | (go_simp; rfl)); intro w72 hw; have hg : w69.grownBy w72 (some go39) := (by rw [hw]; exact HP71.2); have hp_ : Kd.R k28 28 w72 w.heap.size (fun k_ => some k_ ≠ (.slice (some ad206) t202.length co23 : Value).ownBlock ∧ k_ ≠ gb207) (.slice (some ⟨go39, 0, none⟩) y213.length co39) y220 := (by rw [hw, Ny220.out]; exact HP71.1); clear HP71; have n0_ := Aside0.mk (Kd.R_after (v := (.slice (some ⟨go39, 0, none⟩) y213.length co39)) (v1 := (.slice (some ⟨go39, 0, none⟩) y213.length co39)) (ok := (fun k_ => k_ ≠ gb207)) (by (with_reducible repeat (first | apply Kd.R_alloc | apply Kd.R_drewN | apply Kd.R_drew)); exact HO_6.out) hg (.inl rfl)); have n1_ := Aside0.mk (blk_grown (g := gb207) (o := .cells #[.int .i64 ((rd_T28 t202 (ji15)).f0), .int .i64 ((rd_T28 t202 (ji15)).f1), .int .i64 ((rd_T28 t202 (ji15)).f2), .int .i64 ((rd_T28 t202 (ji15)).f3), .int .i64 ((rd_T28 t202 (ji15)).f4)] 28 (0, 0)) (by (with_reducible repeat (first | refine blk_drewN ?_ _ | refine blk_drew ?_ | refine blk_alloc ?_ _)); exact BK207.out) hg (Kd.R_away HO215.out (fun _ hk => hk.2))); have n2_ := Aside0.mk (hp_); have n3_ := Aside0.mk ((by rw [hw]; exact below_set (HB.out) GB39.out : Below w.heap.size w w72)); clear HO_6; clear BK207; clear HO215; clear HB; have HO_6 := n0_; have BK207 := n1_; have HO215 := n2_; have HB := n3_; clear n0_ n1_ n2_ n3_; clear hg hw hp_; have p55 : 0 ≤ (ji15 : Int) := of_decide_eq_true (by first | (with_reducible assumption) | assumption); have q55 : (ji15 : Int) < ((y213.length : Int) : Int) := of_decide_eq_true (by first | (with_reducible assumption) | assumption); obtain ⟨ce55, hcl55, hM55, hcc55, hfr55⟩ := Kd.R_elem HO215.out z28 (ji15 : Int) p55 q55; obtain rfl := k28_openM hM55; have hx55_0 : w72.cell? ⟨go39, (ji15 : Int).toNat * 5, none⟩ = some (.int .i64 ((rd_T28 y220 ji15).f0)) := hcc55 0 _ rfl; have hx55_1 : w72.cell? ⟨go39, (ji15 : Int).toNat * 5 + 1, none⟩ = some (.int .i64 ((rd_T28 y220 ji15).f1)) := hcc55 1 _ rfl; have hx55_2 : w72.cell? ⟨go39, (ji15 : Int).toNat * 5 + 2, none⟩ = some (.int .i64 ((rd_T28 y220 ji15).f2)) := hcc55 2 _ rfl; have hx55_3 : w72.cell? ⟨go39, (ji15 : Int).toNat * 5 + 3, none⟩ = some (.int .i64 ((rd_T28 y220 ji15).f3)) := hcc55 3 _ rfl; have hx55_4 : w72.cell? ⟨go39, (ji15 : Int).toNat * 5 + 4, none⟩ = some (.int .i64 ((rd_T28 y220 ji15).f4)) := hcc55 4 _ rfl; have hf55_0 : w72.frozen? ⟨go39, (ji15 : Int).toNat * 5, none⟩ = false := hfr55 0; have hf55_1 : w72.frozen? ⟨go39, (ji15 : Int).toNat * 5 + 1, none⟩ = false := hfr55 1; have hf55_2 : w72.frozen? ⟨go39, (ji15 : Int).toNat * 5 + 2, none⟩ = false := hfr55 2; have hf55_3 : w72.frozen? ⟨go39, (ji15 : Int).toNat * 5 + 3, none⟩ = false := hfr55 3; have hf55_4 : w72.frozen? ⟨go39, (ji15 : Int).toNat * 5 + 4, none⟩ = false := hfr55 4; clear hcl55 hcc55 hfr55 hM55; replace p55 := eq_true p55; replace q55 := eq_true q55; have HX73 := Aside0.mk (show Kd.R k28 28 w72 w.heap.size (fun k_ => some k_ ≠ (.slice (some ad206) t202.length co23 : Value).ownBlock ∧ k_ ≠ gb207) (.slice (some ⟨go39, 0, none⟩) y213.length co39) y220 from (by (with_reducible repeat (first | apply Kd.R_alloc | apply Kd.R_drewN | apply Kd.R_drew)); exact HO215.out)); obtain ⟨ce73, hcl73, hM73, hcc73, hfr73⟩ := Kd.R_elem HX73.out z28 (ji15 : Int) (of_decide_eq_true (by first | (with_reducible assumption) | assumption)) (by have h_ : (ji15 : Int) < ((y213.length : Int) : Int) := of_decide_eq_true (by first | (with_reducible assumption) | assumption); first | exact h_ | (have e_ := (Kd.R_reads' HO215.out).1; omega) | simpa using h_); obtain rfl := k28_openM hM73; have HP73 := Kd.R_seg HX73.out (ji15 : Int) (of_decide_eq_true (by first | (with_reducible assumption) | assumption)) (by have h_ : (ji15 : Int) < ((y213.length : Int) : Int) := of_decide_eq_true (by first | (with_reducible assumption) | assumption); first | exact h_ | (have e_ := (Kd.R_reads' HO215.out).1; omega) | simpa using h_) (seg := [.int .i64 t209]) (j := 2) hcl73 hcc73 (show 3 ≤ 5 from by decide) (x' := (⟨(rd_T28 y220 ji15).f0, (rd_T28 y220 ji15).f1, t209, (rd_T28 y220 ji15).f3, (rd_T28 y220 ji15).f4⟩ : S28)) (k28_mkM _ _ _ (⟨(rd_T28 y220 ji15).f0, (rd_T28 y220 ji15).f1, t209, (rd_T28 y220 ji15).f3, (rd_T28 y220 ji15).f4⟩ : S28) ) (fun _ hk => hk); have hx73_2 := hcc73 2 _ rfl; (try simp only [show (k28).sz = 5 from rfl, Nat.mul_one, Nat.add_zero] at hx73_2); have hf73_2 := hfr73 2; (try simp only [show (k28).sz = 5 from rfl, Nat.mul_one, Nat.add_zero] at hf73_2); clear hcl73 hcc73 hfr73 hM73) | ((with_reducible refine gate_store (t := 2) (p := 96) rfl ?_); refine store_event (t := 2) (p := 96) (v := ?vo_w74) (w1 := (w72.setCell ⟨go39, (ji15 : Int).toNat * 5 + 2, none⟩ (.int .i64 t209))) ?hg ?ho ?hn ?hr ?_; (case ho => rfl); (case hg => rfl); (case hn => rfl); (case hr => first | (go_simp; done) | (go_simp; rfl)); intro w74 hw; have hg : w72.grownBy w74 (some go39) := (by rw [hw]; exact HP73.2); have hp_ : Kd.R k28 28 w74 w.heap.size (fun k_ => some k_ ≠ (.slice (some ad206) t202.length co23 : Value).ownBlock ∧ k_ ≠ gb207) (.slice (some ⟨go39, 0, none⟩) y213.length co39) y221 := (by rw [hw, Ny221.out]; exact HP73.1); clear HP73; have n0_ := Aside0.mk (Kd.R_after (v := (.slice (some ⟨go39, 0, none⟩) y213.length co39)) (v1 := (.slice (some ⟨go39, 0, none⟩) y213.length co39)) (ok := (fun k_ => k_ ≠ gb207)) (by (with_reducible repeat (first | apply Kd.R_alloc | apply Kd.R_drewN | apply Kd.R_drew)); exact HO_6.out) hg (.inl rfl)); have n1_ := Aside0.mk (blk_grown (g := gb207) (o := .cells #[.int .i64 ((rd_T28 t202 (ji15)).f0), .int .i64 ((rd_T28 t202 (ji15)).f1), .int .i64 ((rd_T28 t202 (ji15)).f2), .int .i64 ((rd_T28 t202 (ji15)).f3), .int .i64 ((rd_T28 t202 (ji15)).f4)] 28 (0, 0)) (by (with_reducible repeat (first | refine blk_drewN ?_ _ | refine blk_drew ?_ | refine blk_alloc ?_ _)); exact BK207.out) hg (Kd.R_away HO215.out (fun _ hk => hk.2))); have n2_ := Aside0.mk (hp_); have n3_ := Aside0.mk ((by rw [hw]; exact below_set (HB.out) GB39.out : Below w.heap.size w w74)); clear HO_6; clear BK207; clear HO215; clear HB; have HO_6 := n0_; have BK207 := n1_; have HO215 := n2_; have HB := n3_; clear n0_ n1_ n2_ n3_; clear hg hw hp_) | ((with_reducible refine gate_callee (f := 22) rfl ?_); refine goesL_ (some 98) rfl rfl Try.func22 (by kernel_rfl) rfl #[.slice (some ⟨go39, 0, none⟩) y221.length co39] rfl (by (try simp only [List.map_toArray, List.map_cons, List.map_nil]); first | done | (rw [show y221.length = y213.length from (Kd.R_reads' HO215.out).1.symm] <;> rfl) | rfl | (simp only [List.length_drop, List.length_take]; rfl)) ?_; (with_reducible refine (horariumref12_Test.calls kj19 _ _ y221 t222 _ ?side1 ?side2 A56.out).mono ?_); (case side1 => repeat (first | exact (Kd.R_reads' HO215.out).2.2 | (with_reducible refine Kd.C_alloc ?_ _) | (with_reducible refine Kd.C_drewN ?_ _) | (with_reducible refine Kd.C_drew ?_))); (case side2 => rw [show y221.length = y213.length from (Kd.R_reads' HO215.out).1.symm]; exact (Kd.R_reads' HO215.out).2.1); rintro e w75 ⟨rfl, hb⟩; refine ⟨_, rfl, ?_⟩; have n0_ := Aside0.mk (Kd.R_below (by (with_reducible repeat (first | apply Kd.R_alloc | apply Kd.R_drewN | apply Kd.R_drew)); exact HO_6.out) hb); have n1_ := Aside0.mk (Kd.R_below (by (with_reducible repeat (first | apply Kd.R_alloc | apply Kd.R_drewN | apply Kd.R_drew)); exact HO215.out) hb); have n2_ := Aside0.mk (blk_below (g := gb207) (o := .cells #[.int .i64 ((rd_T28 t202 (ji15)).f0), .int .i64 ((rd_T28 t202 (ji15)).f1), .int .i64 ((rd_T28 t202 (ji15)).f2), .int .i64 ((rd_T28 t202 (ji15)).f3), .int .i64 ((rd_T28 t202 (ji15)).f4)] 28 (0, 0)) (by (with_reducible repeat (first | refine blk_drewN ?_ _ | refine blk_drew ?_ | refine blk_alloc ?_ _)); exact BK207.out) hb); have n3_ := Aside0.mk (below_step (by repeat (first | (with_reducible first | exact HB.out | apply below_alloc | apply pw_below_drewN | apply below_drew1 | refine below_set ?_ GE207.out) | exact HB.out)) hb); clear HO_6; clear HO215; clear BK207; clear HB; have HO_6 := n0_; have HO215 := n1_; have BK207 := n2_; have HB := n3_; clear n0_ n1_ n2_ n3_; (try clear hb); (try clear hb2); (try clear hk); (try clear hi); have p58 : 0 ≤ (ji15 : Int) := of_decide_eq_true (by first | (with_reducible assumption) | assumption); have q58 : (ji15 : Int) < ((y213.length : Int) : Int) := of_decide_eq_true (by first | (with_reducible assumption) | assumption); obtain ⟨ce58, hcl58, hM58, hcc58, hfr58⟩ := Kd.R_elem HO215.out z28 (ji15 : Int) p58 q58; obtain rfl := k28_openM hM58; have hx58_0 : w75.cell? ⟨go39, (ji15 : Int).toNat * 5, none⟩ = some (.int .i64 ((rd_T28 y221 ji15).f0)) := hcc58 0 _ rfl; have hx58_1 : w75.cell? ⟨go39, (ji15 : Int).toNat * 5 + 1, none⟩ = some (.int .i64 ((rd_T28 y221 ji15).f1)) := hcc58 1 _ rfl; have hx58_2 : w75.cell? ⟨go39, (ji15 : Int).toNat * 5 + 2, none⟩ = some (.int .i64 ((rd_T28 y221 ji15).f2)) := hcc58 2 _ rfl; have hx58_3 : w75.cell? ⟨go39, (ji15 : Int).toNat * 5 + 3, none⟩ = some (.int .i64 ((rd_T28 y221 ji15).f3)) := hcc58 3 _ rfl; have hx58_4 : w75.cell? ⟨go39, (ji15 : Int).toNat * 5 + 4, none⟩ = some (.int .i64 ((rd_T28 y221 ji15).f4)) := hcc58 4 _ rfl; have hf58_0 : w75.frozen? ⟨go39, (ji15 : Int).toNat * 5, none⟩ = false := hfr58 0; have hf58_1 : w75.frozen? ⟨go39, (ji15 : Int).toNat * 5 + 1, none⟩ = false := hfr58 1; have hf58_2 : w75.frozen? ⟨go39, (ji15 : Int).toNat * 5 + 2, none⟩ = false := hfr58 2; have hf58_3 : w75.frozen? ⟨go39, (ji15 : Int).toNat * 5 + 3, none⟩ = false := hfr58 3; have hf58_4 : w75.frozen? ⟨go39, (ji15 : Int).toNat * 5 + 4, none⟩ = false := hfr58 4; clear hcl58 hcc58 hfr58 hM58; replace p58 := eq_true p58; replace q58 := eq_true q58; have HX76 := Aside0.mk (show Kd.R k28 28 w75 w.heap.size (fun k_ => some k_ ≠ (.slice (some ad206) t202.length co23 : Value).ownBlock ∧ k_ ≠ gb207) (.slice (some ⟨go39, 0, none⟩) y213.length co39) y221 from (by (with_reducible repeat (first | apply Kd.R_alloc | apply Kd.R_drewN | apply Kd.R_drew)); exact HO215.out)); obtain ⟨ce76, hcl76, hM76, hcc76, hfr76⟩ := Kd.R_elem HX76.out z28 (ji15 : Int) (of_decide_eq_true (by first | (with_reducible assumption) | assumption)) (by have h_ : (ji15 : Int) < ((y213.length : Int) : Int) := of_decide_eq_true (by first | (with_reducible assumption) | assumption); first | exact h_ | (have e_ := (Kd.R_reads' HO215.out).1; omega) | simpa using h_); obtain rfl := k28_openM hM76; have HP76 := Kd.R_seg HX76.out (ji15 : Int) (of_decide_eq_true (by first | (with_reducible assumption) | assumption)) (by have h_ : (ji15 : Int) < ((y213.length : Int) : Int) := of_decide_eq_true (by first | (with_reducible assumption) | assumption); first | exact h_ | (have e_ := (Kd.R_reads' HO215.out).1; omega) | simpa using h_) (seg := [.int .i64 (wrap64 (t209 - 1))]) (j := 2) hcl76 hcc76 (show 3 ≤ 5 from by decide) (x' := (⟨(rd_T28 y221 ji15).f0, (rd_T28 y221 ji15).f1, wrap64 (t209 - 1), (rd_T28 y221 ji15).f3, (rd_T28 y221 ji15).f4⟩ : S28)) (k28_mkM _ _ _ (⟨(rd_T28 y221 ji15).f0, (rd_T28 y221 ji15).f1, wrap64 (t209 - 1), (rd_T28 y221 ji15).f3, (rd_T28 y221 ji15).f4⟩ : S28) ) (fun _ hk => hk); have hx76_2 := hcc76 2 _ rfl; (try simp only [show (k28).sz = 5 from rfl, Nat.mul_one, Nat.add_zero] at hx76_2); have hf76_2 := hfr76 2; (try simp only [show (k28).sz = 5 from rfl, Nat.mul_one, Nat.add_zero] at hf76_2); clear hcl76 hcc76 hfr76 hM76) | ((with_reducible refine gate_store (t := 2) (p := 105) rfl ?_); refine store_event (t := 2) (p := 105) (v := ?vo_w77) (w1 := (w75.setCell ⟨go39, (ji15 : Int).toNat * 5 + 2, none⟩ (.int .i64 (wrap64 (t209 - 1))))) ?hg ?ho ?hn ?hr ?_; (case ho => rfl); (case hg => rfl); (case hn => rfl); (case hr => first | (go_simp; done) | (go_simp; rfl)); intro w77 hw; have hg : w75.grownBy w77 (some go39) := (by rw [hw]; exact HP76.2); have hp_ : Kd.R k28 28 w77 w.heap.size (fun k_ => some k_ ≠ (.slice (some ad206) t202.length co23 : Value).ownBlock ∧ k_ ≠ gb207) (.slice (some ⟨go39, 0, none⟩) y213.length co39) y223 := (by rw [hw, Ny223.out]; exact HP76.1); clear HP76; have n0_ := Aside0.mk (Kd.R_after (v := (.slice (some ⟨go39, 0, none⟩) y213.length co39)) (v1 := (.slice (some ⟨go39, 0, none⟩) y213.length co39)) (ok := (fun k_ => k_ ≠ gb207)) (by (with_reducible repeat (first | apply Kd.R_alloc | apply Kd.R_drewN | apply Kd.R_drew)); exact HO_6.out) hg (.inl rfl)); have n1_ := Aside0.mk (blk_grown (g := gb207) (o := .cells #[.int .i64 ((rd_T28 t202 (ji15)).f0), .int .i64 ((rd_T28 t202 (ji15)).f1), .int .i64 ((rd_T28 t202 (ji15)).f2), .int .i64 ((rd_T28 t202 (ji15)).f3), .int .i64 ((rd_T28 t202 (ji15)).f4)] 28 (0, 0)) (by (with_reducible repeat (first | refine blk_drewN ?_ _ | refine blk_drew ?_ | refine blk_alloc ?_ _)); exact BK207.out) hg (Kd.R_away HO215.out (fun _ hk => hk.2))); have n2_ := Aside0.mk (hp_); have n3_ := Aside0.mk ((by rw [hw]; exact below_set (HB.out) GB39.out : Below w.heap.size w w77)); clear HO_6; clear BK207; clear HO215; clear HB; have HO_6 := n0_; have BK207 := n1_; have HO215 := n2_; have HB := n3_; clear n0_ n1_ n2_ n3_; clear hg hw hp_) | (go_at_call 22; refine calls_of_args (args' := #[.slice (some ⟨go39, 0, none⟩) y223.length co39]) (by first | (rw [show y223.length = y213.length from (Kd.R_reads' HO215.out).1.symm] <;> rfl) | rfl) ?_; (with_reducible refine (horariumref12_Test.calls kj19 _ _ y223 t224 _ ?side1 ?side2 A60.out).mono ?_); (case side1 => repeat (first | exact (Kd.R_reads' HO215.out).2.2 | (with_reducible refine Kd.C_alloc ?_ _) | (with_reducible refine Kd.C_drewN ?_ _) | (with_reducible refine Kd.C_drew ?_))); (case side2 => rw [show y223.length = y213.length from (Kd.R_reads' HO215.out).1.symm]; exact (Kd.R_reads' HO215.out).2.1); rintro e w78 ⟨rfl, hb⟩; have n0_ := Aside0.mk (Kd.R_below (by (with_reducible repeat (first | apply Kd.R_alloc | apply Kd.R_drewN | apply Kd.R_drew)); exact HO_6.out) hb); have n1_ := Aside0.mk (Kd.R_below (by (with_reducible repeat (first | apply Kd.R_alloc | apply Kd.R_drewN | apply Kd.R_drew)); exact HO215.out) hb); have n2_ := Aside0.mk (blk_below (g := gb207) (o := .cells #[.int .i64 ((rd_T28 t202 (ji15)).f0), .int .i64 ((rd_T28 t202 (ji15)).f1), .int .i64 ((rd_T28 t202 (ji15)).f2), .int .i64 ((rd_T28 t202 (ji15)).f3), .int .i64 ((rd_T28 t202 (ji15)).f4)] 28 (0, 0)) (by (with_reducible repeat (first | refine blk_drewN ?_ _ | refine blk_drew ?_ | refine blk_alloc ?_ _)); exact BK207.out) hb); have n3_ := Aside0.mk (below_step (by repeat (first | (with_reducible first | exact HB.out | apply below_alloc | apply pw_below_drewN | apply below_drew1 | refine below_set ?_ GE207.out) | exact HB.out)) hb); clear HO_6; clear HO215; clear BK207; clear HB; have HO_6 := n0_; have HO215 := n1_; have BK207 := n2_; have HB := n3_; clear n0_ n1_ n2_ n3_; (try clear hb); (try clear hb2); (try clear hk); (try clear hi)))
                            go_ret
                            exact ⟨by first | rfl | (simp [errW_none, errW_some] <;> rfl) | (simp only [← hji15]; first | rfl | (simp [errW_none, errW_some] <;> rfl)) | (simp [*, errW_none, errW_some] <;> rfl), by repeat (first | (with_reducible first | exact HB.out | apply below_alloc | apply pw_below_drewN | apply below_drew1 | refine below_set ?_ GE207.out) | exact HB.out)⟩
                          · replace c59 := Bool.eq_false_iff.mpr c59
                            subst c59
                            have H1 : (some false) = some r := by rw [if_neg (show ¬ (false = true) by decide)] at H; exact H
                            clear H
                            have H := H1
                            clear H1
                            exact absurd ((Option.some.inj H).trans HRT.out) (by decide)
                        · rw [if_neg c57] at H
                          have c57b0 : (t222 == 0) = false := beq_eq_false_iff_ne.mpr c57
                          have c57b1 : (t222 != 0) = true := bne_iff_ne.mpr c57
                          exact absurd ((Option.some.inj H).trans HRT.out) (by decide)
                    · rw [if_neg c41] at H
                      have c41b0 : (t217 == 0) = false := beq_eq_false_iff_ne.mpr c41
                      have c41b1 : (t217 != 0) = true := bne_iff_ne.mpr c41
                      exact absurd ((Option.some.inj H).trans HRT.out) (by decide)
                  · rw [if_neg c38] at H
                    exact absurd H (by simp)
                · rw [if_neg c37] at H
                  exact absurd H (by simp)
              · rw [if_neg c36] at H
                exact absurd H (by simp)
      · rw [if_neg c17] at H
        exact absurd H (by simp)
    · rw [if_neg c16] at H
      exact absurd H (by simp)

def WF22 (x : S22) : Prop := (Lit.int .i64 x.f0).wf = true ∧ (Lit.int .i64 x.f1).wf = true ∧ (Lit.int .i64 x.f2).wf = true
set_option maxRecDepth 100000 in
theorem openk22 {H : Type} {enc : TypeId × Value → H} {W : World} {base : Nat} {spare : Nat → Bool} {held : Bool} {m : Nat} {cs : List Value} {x : DataW H × List MemPlace} (h : DataW.trod enc Try.prog W base spare held m 22 cs = some x) : ∃ y : S22, cs = [.int .i64 y.f0, .int .i64 y.f1, .int .i64 y.f2] ∧ WF22 y := by
  obtain ⟨xs, n, _, _, hl, hx, hf⟩ := DataW.trod_array Try.underlying22 h
  rw [show Try.prog.cellsOf 22 = 3 from by kernel_rfl] at hl
  obtain ⟨c0, c1, c2, rfl⟩ : ∃ c0 c1 c2, cs = [c0, c1, c2] := by clear h hf; match cs, hl with | [c0, c1, c2], _ => exact ⟨c0, c1, c2, rfl⟩
  obtain ⟨y0, y1, y2, rfl⟩ : ∃ y0 y1 y2, xs = [y0, y1, y2] := by clear hf; match xs, hx with | [y0, y1, y2], _ => exact ⟨y0, y1, y2, rfl⟩
  have g0 := hf 0 (by omega)
  rw [show Try.prog.cellsOf 3 = 1 from by kernel_rfl] at g0
  obtain ⟨v0, q0, _, w0⟩ := DataW.trod_int (cs := [c0]) (x := y0) Try.underlying3 g0
  simp only [List.cons.injEq, and_true] at q0
  subst q0
  have g1 := hf 1 (by omega)
  rw [show Try.prog.cellsOf 3 = 1 from by kernel_rfl] at g1
  obtain ⟨v1, q1, _, w1⟩ := DataW.trod_int (cs := [c1]) (x := y1) Try.underlying3 g1
  simp only [List.cons.injEq, and_true] at q1
  subst q1
  have g2 := hf 2 (by omega)
  rw [show Try.prog.cellsOf 3 = 1 from by kernel_rfl] at g2
  obtain ⟨v2, q2, _, w2⟩ := DataW.trod_int (cs := [c2]) (x := y2) Try.underlying3 g2
  simp only [List.cons.injEq, and_true] at q2
  subst q2
  refine ⟨⟨v0, v1, v2⟩, rfl, ?_⟩
  unfold WF22
  exact ⟨w0, w1, w2⟩
theorem addr_add_add (a : Addr) (i j : Nat) : (a.add i).add j = a.add (i + j) := by
  unfold Addr.add
  by_cases hi : i = 0 <;> by_cases hj : j = 0 <;> simp [hi, hj, Nat.add_assoc]
theorem rowsk22 {H : Type} {enc : TypeId × Value → H} {W : World} {base : Nat} {spare : Nat → Bool} {held : Bool} {t : Nat} {a : Option Addr} {len cap : Nat} {d : DataW H} {ps : List MemPlace} (hu : Try.prog.underlying t = some (.slice 22)) (h : DataW.Trod enc Try.prog W base spare held t (.slice a len cap) d ps) : ∃ l : List S22, l.length = len ∧ Kd.C k22 W a l.length l ∧ l.length ≤ cap ∧ ∀ x ∈ l, WF22 x := by
  obtain ⟨fuel, hf⟩ := h
  rcases Go.Deep.open_slice hu hf with ⟨hcs, _⟩ | ⟨x, l, c, m, n, D, Pl, hcs, hb, hl, hm, hmm, _, hel⟩
  · simp [Value.cells] at hcs
    obtain ⟨rfl, rfl, rfl⟩ := hcs
    exact ⟨[], rfl, Kd.C_nil _ _, Nat.le_refl _, by simp⟩
  · simp [Value.cells] at hcs
    obtain ⟨rfl, rfl, rfl⟩ := hcs
    have hle : len ≤ m := by rw [hmm]; split <;> omega
    rw [show Try.prog.cellsOf 22 = 3 from by kernel_rfl] at hel
    have hc : ∀ i, i < len → ∃ y : S22, W.cells? base (x.add (i * 3)) 3 = some [.int .i64 y.f0, .int .i64 y.f1, .int .i64 y.f2] ∧ WF22 y := by
      intro i hi
      obtain ⟨cs', h1, h2⟩ := hel i (by omega)
      obtain ⟨y, rfl, wy⟩ := openk22 h2
      exact ⟨y, h1, wy⟩
    haveI : Inhabited S22 := ⟨z22⟩
    obtain ⟨Y, hY⟩ := Go.Deep.choose_lt hc
    have hlen : ((List.range len).map Y).length = len := by simp
    refine ⟨(List.range len).map Y, hlen, ⟨rfl, by unfold maxLen at hm; omega, fun _ => ⟨x, rfl, fun j p hj => ?_⟩⟩, by omega, ?_⟩
    · obtain ⟨hj1, hj2⟩ := List.getElem?_eq_some_iff.1 hj
      have hj3 : j < len := by omega
      have hp : p = Y j := by rw [← hj2]; simp
      subst hp
      obtain ⟨h1, _⟩ := hY j hj3
      obtain ⟨_, _, h2⟩ := World.cells?_some h1
      refine ⟨[.int .i64 (Y j).f0, .int .i64 (Y j).f1, .int .i64 (Y j).f2], rfl, k22_mk _ _, fun i u hu => ?_⟩
      have hi : i < 3 := (List.getElem?_eq_some_iff.1 hu).1
      have h3 := h2 i hi
      rw [hu, addr_add_add] at h3
      exact h3
    · intro y hy
      obtain ⟨i, hi, rfl⟩ := List.mem_map.1 hy
      exact (hY i (by simpa using hi)).2
theorem sizedk22 {H : Type} {enc : TypeId × Value → H} {W : World} {base : Nat} {spare : Nat → Bool} {held : Bool} {t : Nat} {a : Option Addr} {len cap : Nat} {d : DataW H} {ps : List MemPlace} {ts : List TypeId} {ds : List (DataW H)} {j : Nat}
    (hsz : (DataW.weightsEach Try.prog ts ds).all (· ≤ reachBytes) = true) (ht : ts[j]? = some t) (hd : ds[j]? = some d) (hu : Try.prog.underlying t = some (.slice 22)) (h : DataW.Trod enc Try.prog W base spare held t (.slice a len cap) d ps) : len * 24 ≤ 140737488351232 := by
  obtain ⟨fuel, hf⟩ := h
  rcases Go.Deep.open_slice hu hf with ⟨hcs, _⟩ | ⟨x, l, c, m, n, D, Pl, hcs, hb, hl, hm, hmm, hx, hel⟩
  · simp [Value.cells] at hcs
    obtain ⟨rfl, rfl, rfl⟩ := hcs
    simp
  · simp [Value.cells] at hcs
    obtain ⟨rfl, rfl, rfl⟩ := hcs
    obtain ⟨rfl, _⟩ := Prod.mk.inj hx
    have z := sized_slice hsz ht hd hu
    rw [show Try.prog.bytesOf 22 = 24 from by kernel_rfl, List.length_map, List.length_range] at z
    exact Nat.le_trans (Nat.mul_le_mul_right _ (Nat.le_add_right _ _)) z
/-- THE ONE PURE STATEMENT of horariumlaw26_ProbeEdges. -/
def horariumlaw26_ProbeEdges.Pure : Prop := ∀ (l0 : List (S22)) (a1 : Int), l0.length * 24 ≤ 140737488351232 → (∀ x ∈ l0, WF22 x) → (Lit.int .i64 a1).wf = true → ∃ k, horariumlaw26_ProbeEdges.f k l0 a1 = some true
theorem horariumlaw26_ProbeEdges.walk (P : horariumlaw26_ProbeEdges.Pure) (A0 : Option Addr) (c0 : Nat) (l0 : List (S22)) (a1 : Int) (w : World) (hr0 : Kd.C k22 w A0 l0.length l0) (hc0 : l0.length ≤ c0) (y0 : l0.length * 24 ≤ 140737488351232) (w0 : (∀ x ∈ l0, WF22 x)) (w1 : (Lit.int .i64 a1).wf = true) :
    Calls Try.prog 6 #[.slice A0 l0.length c0, .int .i64 a1] w fun e w' => e = .returned (.bool true) ∧ Below w.heap.size w w' := by
  obtain ⟨k, h⟩ := P l0 a1 y0 w0 w1
  refine (horariumlaw26_ProbeEdges.calls k A0 c0 l0 a1 true w hr0 hc0 h rfl).mono ?_
  rintro e w' ⟨rfl, hd⟩
  exact ⟨rfl, hd⟩

end Go.Proofs.Ytmgmpifbhjoijaa.PProbeEdges
