-- Made by px.py (a program of this session, over the kit's printer) out of the translation. Not trusted: Lean checks it.
import Derived.Test.YtmgmpifbhjoijaaPProbeTellsx0
import Derived.Test.YtmgmpifbhjoijaaPProbeTellsx1
import Derived.Test.YtmgmpifbhjoijaaPProbeTellsx3
import Derived.Test.YtmgmpifbhjoijaaPProbeTellsx4
import Derived.Test.YtmgmpifbhjoijaaPProbeTellsx5
import Derived.Test.YtmgmpifbhjoijaaPProbeTellsx6
namespace Go.Proofs.Ytmgmpifbhjoijaa.PProbeTells
open Go.RowKit Go.Proofs.YtmgmpifbhjoijaaW.PrintWords Go.Proofs.YtmgmpifbhjoijaaW.PrintLast Go.Proofs.YtmgmpifbhjoijaaW.PrintMore
attribute [local go_sem] max2_int min2_int max_two min_two max_three min_three max_four min_four   -- for this text's walks alone
set_option linter.unusedVariables false
set_option linter.unusedSimpArgs false

/-! ### probe_LeastD: function 21 (by hand) -/
-- probe_may probe_fits slices_Clone_api_Task
def leastD.T3 : Bool × List (List Nat × List Nat) := (true, [([], []), ([], []), ([0, 1], [0, 1]), ([2], [2]), ([3], [3]), ([], []), ([], []), ([5, 6], [5, 6]), ([7], [7]), ([8], [8]), ([], []), ([4, 9, 10], [4, 9, 10]), ([11, 11, 0, 1, 2, 3, 4, 5, 6, 7, 8, 9, 10, 11], [11])])
def leastD.B3 : List Nat := [0, 0, 3, 7, 15, 0, 0, 96, 224, 480, 0, 2047, 4095]
theorem leastD.tab3 : rtab .any (opsOf Try.f21 3) = leastD.T3 := by kernel_rfl
theorem leastD.bits3 : waitsOk leastD.T3.2 leastD.B3 = true := by kernel_rfl
def probe_LeastD.f (k : Nat) (l0 : List S28) (a1 : Int) : Option Int := (probe_may.f k l0 a1).bind fun b => if b = true then (if l0.length < 3518437208883 then (firstO k (fun n => probe_fits.f k (l0.set a1.toNat (chD (rd_T28 l0 a1) n))) (rd_T28 l0 a1).f1 (rd_T28 l0 a1).f2).bind fun less => some less else none) else some 0
theorem probe_LeastD.mono : ∀ a0 a1 k, LeO (probe_LeastD.f k a0 a1) (probe_LeastD.f (k + 1) a0 a1) := by
  intro a0 a1 k
  unfold probe_LeastD.f
  exact LeO.bind (probe_may.mono _ _ k) (fun b => LeO.ite (LeO.ite (LeO.bind (firstO_mono (fun n => probe_fits.mono _ k) k _ _) (fun _ => LeO.refl _)) (LeO.refl _)) (LeO.refl _))
set_option maxHeartbeats 8000000 in
set_option maxRecDepth 100000 in
theorem probe_LeastD.calls (k : Nat) (A0 : Option Addr) (c0 : Nat) (l0 : List S28) (a1 : Int) (r : Int) (w : World) (hr0 : Kd.C k28 w A0 l0.length l0) (hc0 : l0.length ≤ c0) (h : probe_LeastD.f k l0 a1 = some r) :
    Calls Try.prog 21 #[.slice A0 l0.length c0, .int .i64 a1] w fun e w' => e = .returned (.int .i64 r) ∧ Below w.heap.size w w' := by
  unfold probe_LeastD.f at h
  obtain ⟨b, hb, h1⟩ := Option.bind_eq_some_iff.mp h
  have HMY := Lib.hid hb
  have HR0 := Lib.hid hr0
  have HC0 := Lib.hid hc0
  cases b with
  | false =>
    rw [if_neg (by decide)] at h1
    obtain rfl := Option.some.inj h1
    clear h h1 hb hr0 hc0
    go_enter Try.func21, Try.ntmps21
    go_wp2_with (go_at_call 45; refine (probe_may.calls k A0 c0 l0 a1 false _ (Kd.C_alloc (Kd.C_alloc HR0.out (.cells #[.slice A0 l0.length c0] 24)) (.cells #[.int .i64 a1] 3)) HC0.out HMY.out).mono ?_; rintro e w1 ⟨rfl, q1⟩; have HB1 := Lib.hid (below_step (below_alloc (below_alloc (Below.refl w.heap.size w) _) _) q1); clear q1)
    go_ret
    exact ⟨rfl, HB1.out⟩
  | true =>
    rw [if_pos rfl] at h1
    have hmy := hb
    unfold probe_may.f at hmy
    by_cases p0 : a1 ≥ 0
    case neg => rw [if_neg p0] at hmy; cases hmy
    rw [if_pos p0] at hmy
    by_cases p1 : a1 < (l0.length : Int)
    case neg => rw [if_neg p1] at hmy; cases hmy
    obtain ⟨i, rfl⟩ := Int.eq_ofNat_of_zero_le p0
    by_cases hl : l0.length < 3518437208883
    case neg => rw [if_neg hl] at h1; cases h1
    rw [if_pos hl, Int.toNat_natCast] at h1
    obtain ⟨less, hless, h2⟩ := Option.bind_eq_some_iff.mp h1
    obtain ⟨x, hxe⟩ : ∃ x, rd_T28 l0 (i : Int) = x := ⟨_, rfl⟩
    rw [hxe] at hless
    try rw [hxe] at h2
    have hx : l0[i]? = some x := by
      rw [List.getElem?_eq_getElem (show i < l0.length by omega), ← hxe]
      unfold rd_T28
      rw [Int.toNat_natCast, List.getD_eq_getElem?_getD, List.getElem?_eq_getElem (show i < l0.length by omega)]; rfl
    obtain rfl := Option.some.inj h2
    have HLS := Lib.hid hless
    have HXX := Lib.hid hx
    have HXE := Lib.hid hxe
    have HLN := Lib.hid hl
    clear h h1 h2 hb hmy hr0 hc0 hless hx hxe hl
    have i0 : (0 : Int) ≤ (i : Int) := by omega
    have i1 : (i : Int) < (l0.length : Int) := by omega
    clear p0 p1
    go_enter Try.func21, Try.ntmps21
    go_wp2_with fail
    obtain ⟨W, hW⟩ : ∃ W, (w.alloc (.cells #[.slice A0 l0.length c0] 24)).alloc (.cells #[.int .i64 (i : Int)] 3) = W := ⟨_, rfl⟩
    have HBX : Hid (BoxLI W A0 c0 l0 i w.heap.size (w.heap.size + 1)) := by
      rw [← hW]
      refine ⟨blk_alloc (heap_alloc_new w _) _, ?_, Kd.C_alloc (Kd.C_alloc HR0.out _) _⟩
      have := heap_alloc_new (w.alloc (.cells #[.slice A0 l0.length c0] 24)) (.cells #[.int .i64 (i : Int)] 3)
      simp only [World.size_alloc] at this; exact this
    have HB : Hid (Below w.heap.size w W) := by rw [← hW]; exact below_alloc (below_alloc (Below.refl _ _) _) _
    rw [hW]
    clear hW
    obtain ⟨bl, hbl⟩ : ∃ b, w.heap.size = b := ⟨_, rfl⟩
    obtain ⟨bi, hbi⟩ : ∃ b, bl + 1 = b := ⟨_, rfl⟩
    have HW0 := Lib.hid hbl
    rw [hbl, hbi] at HBX
    rw [hbl, hbi]
    clear hbl hbi
    go_wp2_with (go_at_call 45; refine (probe_may.calls k A0 c0 l0 (i : Int) true _ HBX.out.hr HC0.out HMY.out).mono ?_; rintro e w1 ⟨rfl, q1⟩; replace HBX := Lib.hid (HBX.out.below q1); replace HB := Lib.hid (below_step HB.out q1); clear q1; have cl := (blk_cell HBX.out.hl 0).trans rfl; have ci := (blk_cell HBX.out.hi 0).trans rfl; obtain ⟨ad, e0, x0, x1, x2, x3, x4⟩ := at_T28 HBX.out.hr (i : Int) i0 i1; cases e0; rw [HXE.out] at x0 x1 x2 x3 x4; simp only [Int.toNat_natCast] at x0 x1 x2 x3 x4)
    replace cl : w1.drew.cell? ⟨bl, 0, none⟩ = some (.slice (some ad) l0.length c0) := cl
    replace ci : w1.drew.cell? ⟨bi, 0, none⟩ = some (.int .i64 (i : Int)) := ci
    replace x1 : w1.drew.cell? ⟨(ad.add (i * 5)).block, (ad.add (i * 5)).off + 1, none⟩ = some (.int .i64 x.f1) := x1
    replace x2 : w1.drew.cell? ⟨(ad.add (i * 5)).block, (ad.add (i * 5)).off + 2, none⟩ = some (.int .i64 x.f2) := x2
    replace HBX := Lib.hid (HBX.out.below (below_drew (Below.refl w1.heap.size w1)))
    replace HB := Lib.hid (below_drew1 HB.out)
    clear x0 x3 x4
    refine start_ (n := 13) (S := fun w' => w'.cell? ⟨bl, 0, none⟩ = some (.slice (some ad) l0.length c0) ∧ w'.cell? ⟨bi, 0, none⟩ = some (.int .i64 (i : Int)) ∧ w'.cell? ⟨(ad.add (i * 5)).block, (ad.add (i * 5)).off + 1, none⟩ = some (.int .i64 x.f1) ∧ w'.cell? ⟨(ad.add (i * 5)).block, (ad.add (i * 5)).off + 2, none⟩ = some (.int .i64 x.f2)) (ds := []) #[false, false, false, false, false, false, false, false, false, false, false, false, false] (by kernel_rfl) rfl rfl ⟨cl, ci, x1, x2⟩ (fun hHeld => ?_); refine with_tabW leastD.tab3 leastD.bits3 (fun HT_ HW_ => ?_)
    generalize w1.drew = w5 at HBX HB cl ci x1 x2 hHeld ⊢
    refine take_ (i := 0) (N := some 9) (v := ?_) (a' := ?_) #[true, false, false, false, false, false, false, false, false, false, false, false, false] rfl rfl (take_ofW HT_.out HW_.out (by kernel_rfl)) (fun _ _ _ h => h) (Or.inl ⟨by rfl, ?_⟩) hHeld ?_ ?_
    rotate_left
    · rintro w' ⟨s0, s1, s2, s3⟩
      go_simp
      with_reducible rfl
    rotate_left
    · simp only [Act.put, List.setIfInBounds_toArray, List.set_cons_zero, List.set_cons_succ, i64_w, i32_w]
      rfl
    refine take_ (i := 1) (N := some 10) (v := ?_) (a' := ?_) #[true, true, false, false, false, false, false, false, false, false, false, false, false] rfl rfl (take_ofW HT_.out HW_.out (by kernel_rfl)) (fun _ _ _ h => h) (Or.inl ⟨by rfl, ?_⟩) hHeld ?_ ?_
    rotate_left
    · rintro w' ⟨s0, s1, s2, s3⟩
      go_simp
      with_reducible rfl
    rotate_left
    · simp only [Act.put, List.setIfInBounds_toArray, List.set_cons_zero, List.set_cons_succ, i64_w, i32_w]
      rfl
    refine pure_ (i := 2) (N := some 11) (v := ?_) (a' := ?_) #[true, true, true, false, false, false, false, false, false, false, false, false, false] rfl rfl (any_of HT_.out (by kernel_rfl)) (fun _ _ _ h => h) (Or.inl ⟨by rfl, ?_⟩) ?_ ?_
    rotate_left
    · intro w'
      go_simp
      with_reducible rfl
    rotate_left
    · simp only [Act.put, List.setIfInBounds_toArray, List.set_cons_zero, List.set_cons_succ, i64_w, i32_w]
      rfl
    refine pure_ (i := 3) (N := some 12) (v := ?_) (a' := ?_) #[true, true, true, true, false, false, false, false, false, false, false, false, false] rfl rfl (any_of HT_.out (by kernel_rfl)) (fun _ _ _ h => h) (Or.inl ⟨by rfl, ?_⟩) ?_ ?_
    rotate_left
    · intro w'
      go_simp
      with_reducible rfl
    rotate_left
    · simp only [Act.put, List.setIfInBounds_toArray, List.set_cons_zero, List.set_cons_succ, i64_w, i32_w]
      rfl
    refine take_ (i := 4) (N := some 13) (v := ?_) (a' := ?_) #[true, true, true, true, true, false, false, false, false, false, false, false, false] rfl rfl (take_ofW HT_.out HW_.out (by kernel_rfl)) (fun _ _ _ h => h) (Or.inl ⟨by rfl, ?_⟩) hHeld ?_ ?_
    rotate_left
    · rintro w' ⟨s0, s1, s2, s3⟩
      go_simp
      with_reducible rfl
    rotate_left
    · simp only [Act.put, List.setIfInBounds_toArray, List.set_cons_zero, List.set_cons_succ, i64_w, i32_w]
      rfl
    refine take_ (i := 5) (N := some 14) (v := ?_) (a' := ?_) #[true, true, true, true, true, true, false, false, false, false, false, false, false] rfl rfl (take_ofW HT_.out HW_.out (by kernel_rfl)) (fun _ _ _ h => h) (Or.inl ⟨by rfl, ?_⟩) hHeld ?_ ?_
    rotate_left
    · rintro w' ⟨s0, s1, s2, s3⟩
      go_simp
      with_reducible rfl
    rotate_left
    · simp only [Act.put, List.setIfInBounds_toArray, List.set_cons_zero, List.set_cons_succ, i64_w, i32_w]
      rfl
    refine take_ (i := 6) (N := some 15) (v := ?_) (a' := ?_) #[true, true, true, true, true, true, true, false, false, false, false, false, false] rfl rfl (take_ofW HT_.out HW_.out (by kernel_rfl)) (fun _ _ _ h => h) (Or.inl ⟨by rfl, ?_⟩) hHeld ?_ ?_
    rotate_left
    · rintro w' ⟨s0, s1, s2, s3⟩
      go_simp
      with_reducible rfl
    rotate_left
    · simp only [Act.put, List.setIfInBounds_toArray, List.set_cons_zero, List.set_cons_succ, i64_w, i32_w]
      rfl
    refine pure_ (i := 7) (N := some 16) (v := ?_) (a' := ?_) #[true, true, true, true, true, true, true, true, false, false, false, false, false] rfl rfl (any_of HT_.out (by kernel_rfl)) (fun _ _ _ h => h) (Or.inl ⟨by rfl, ?_⟩) ?_ ?_
    rotate_left
    · intro w'
      go_simp
      with_reducible rfl
    rotate_left
    · simp only [Act.put, List.setIfInBounds_toArray, List.set_cons_zero, List.set_cons_succ, i64_w, i32_w]
      rfl
    refine pure_ (i := 8) (N := some 17) (v := ?_) (a' := ?_) #[true, true, true, true, true, true, true, true, true, false, false, false, false] rfl rfl (any_of HT_.out (by kernel_rfl)) (fun _ _ _ h => h) (Or.inl ⟨by rfl, ?_⟩) ?_ ?_
    rotate_left
    · intro w'
      go_simp
      with_reducible rfl
    rotate_left
    · simp only [Act.put, List.setIfInBounds_toArray, List.set_cons_zero, List.set_cons_succ, i64_w, i32_w]
      rfl
    refine take_ (i := 9) (N := some 18) (v := ?_) (a' := ?_) #[true, true, true, true, true, true, true, true, true, true, false, false, false] rfl rfl (take_ofW HT_.out HW_.out (by kernel_rfl)) (fun _ _ _ h => h) (Or.inl ⟨by rfl, ?_⟩) hHeld ?_ ?_
    rotate_left
    · rintro w' ⟨s0, s1, s2, s3⟩
      go_simp
      with_reducible rfl
    rotate_left
    · simp only [Act.put, List.setIfInBounds_toArray, List.set_cons_zero, List.set_cons_succ, i64_w, i32_w]
      rfl
    refine pure_ (i := 10) (N := some 19) (v := ?_) (a' := ?_) #[true, true, true, true, true, true, true, true, true, true, true, false, false] rfl rfl (any_of HT_.out (by kernel_rfl)) (fun _ _ _ h => h) (Or.inl ⟨by rfl, ?_⟩) ?_ ?_
    rotate_left
    · intro w'
      go_simp
      with_reducible rfl
    rotate_left
    · simp only [Act.put, List.setIfInBounds_toArray, List.set_cons_zero, List.set_cons_succ, i64_w, i32_w]
      rfl
    refine one_ (i := 11) (N := some 20) #[true, true, true, true, true, true, true, true, true, true, true, true, false] rfl rfl (one_of HT_.out (by kernel_rfl)) (by decide) (fun K hK => ?_)
    refine goes_ Try.func46 (by kernel_rfl) rfl #[.int .i64 x.f1, .int .i64 x.f2, .func (.func 50) #[] #[.pointer (some ⟨bl, 0, none⟩), .pointer (some ⟨bi, 0, none⟩)]] (by rfl) rfl rfl (by (try simp only [List.map_toArray, List.map_cons, List.map_nil]); first | done | rfl) ?_
    refine (firstD.calls k k (some ad) c0 l0 i bl bi x.f1 x.f2 less w5 HBX.out HC0.out HLN.out x HXX.out HLS.out).mono ?_
    rintro e w6 ⟨rfl, q1⟩
    refine ⟨_, rfl, ?_⟩
    replace HB := Lib.hid (below_step HB.out q1)
    replace cl := (q1.cell (World.block_lt_of_cell? w5 _ cl)).trans cl
    replace ci := (q1.cell (World.block_lt_of_cell? w5 _ ci)).trans ci
    replace x1 := (q1.cell (World.block_lt_of_cell? w5 _ x1)).trans x1
    replace x2 := (q1.cell (World.block_lt_of_cell? w5 _ x2)).trans x2
    clear q1
    refine hK.out _ _ ⟨cl, ci, x1, x2⟩ (fun hHeld => ?_)
    clear hK K
    refine norm_ (a' := ?_) ?_ ?_
    rotate_left
    · show Act.put _ (some 20) _ = _
      simp only [Act.put, List.setIfInBounds_toArray, List.set_cons_zero, List.set_cons_succ, i64_w, i32_w]
      rfl
    refine pure_ (i := 12) (N := some 4) (v := ?_) (a' := ?_) #[true, true, true, true, true, true, true, true, true, true, true, true, true] rfl rfl (any_of HT_.out (by kernel_rfl)) (fun _ _ _ h => h) (Or.inl ⟨by rfl, ?_⟩) ?_ ?_
    rotate_left
    · intro w'
      go_simp
      with_reducible rfl
    rotate_left
    · simp only [Act.put, List.setIfInBounds_toArray, List.set_cons_zero, List.set_cons_succ, i64_w, i32_w]
      rfl
    refine done_ (done_of HT_.out (by kernel_rfl)) ?_
    clear hHeld
    go_wp2
    go_ret
    exact ⟨rfl, HB.out⟩

/-! ### probe_Tight: function 24 (by hand) -/
set_option maxHeartbeats 8000000 in
set_option maxRecDepth 100000 in
theorem tightApp.calls (bs base : Nat) (x s : Int) (out : List Int) (v : Value) (w : World) (hb : w.heap[bs]? = some (.cells #[v] 43 (0, 0))) (hown : w.ownsRow base 2 1 v out.length (out.map (Value.int .i64))) (l2 : bs < base) (l3 : base ≤ w.heap.size) (hlen : out.length < 10000000000000) (hs : s = 0) :
    Calls Try.prog 57 #[.int .i64 x, .int .i64 s, .pointer (some ⟨bs, 0, none⟩)] w fun e w' => e = .returned (.bool (decide (out.length + 1 < 4096))) ∧ (∃ v', w'.heap[bs]? = some (.cells #[v'] 43 (0, 0)) ∧ w'.ownsRow base 2 1 v' (out.length + 1) ((out ++ [x]).map (Value.int .i64))) ∧ ∀ B, B ≤ bs → Below B w w' := by
  subst hs
  have HB := Lib.hid hb
  have HO := Lib.hid hown
  have c0 : w.cell? ⟨bs, 0, none⟩ = some v := (blk_cell hb 0).trans rfl
  have hlt := blk_lt hb
  have m1 : ¬ bs = w.heap.size := by omega
  have m2 : ¬ w.heap.size = bs := by omega
  clear hb hown
  go_enter Try.func57, Try.ntmps57
  obtain ⟨i0, hi0, hz0, hz1, hz2⟩ := info_parts info2
  go_wp2_with (at_builtin; (
       refine wpList_append_own _ rfl _ _ 43 rfl base 2 i0 (.int .i64 0) 1 8 Try.underlying43 hi0 hz0 hz1 hz2 rfl (by decide) _ _ _ rfl (HO.out.alloc _) ⟨w.heap.size, 0, none⟩ 1 1 [.int .i64 x] rfl rfl (cell_one_new w (.int .i64 x) 2) (by simp [Value.oneCell']) (by unfold maxLen; omega) (by omega) (by simp; omega) ?_; intro v' w3 hown' hg3 hnil3
       replace hg3 : (w.alloc (.cells #[.int .i64 x] 2)).grownBy w3 v.ownBlock := hg3
       have hq3 : w3.heap[bs]? = some (.cells #[v] 43 (0, 0)) := (hg3.block bs (by simp; omega) (PxR.own_far HO.out (Or.inl l2))).trans ((Below.heap_alloc _ _ bs hlt).trans HB.out)
       have f3 : w3.frozen? ⟨bs, 0, none⟩ = false := blk_frozen hq3 0
       have c3 : w3.cell? ⟨bs, 0, none⟩ = some v := (blk_cell hq3 0).trans rfl
       obtain ⟨g', cap', rfl⟩ : ∃ g' cap', v' = .slice (some ⟨g', 0, none⟩) (out.length + 1) cap' := by
         rcases hown'.2 with ⟨_, h0⟩ | ⟨g', cap', _, h', _⟩
         · exact absurd h0 (by omega)
         · exact ⟨g', cap', h'⟩
       have HG3 := Lib.hid hg3
       have HW3 := Lib.hid hown'
       have HQ3 := Lib.hid hq3
       clear hg3 hown' hq3 hnil3
       go_frame))
  go_ret
  have hO := HW3.out.kept (PxR.grown_set w3 ⟨bs, 0, none⟩ (.slice (some ⟨g', 0, none⟩) (out.length + 1) cap')) (PxR.own_ne HW3.out (Or.inl l2))
  refine ⟨by simp; omega, ⟨_, by have := blk_set HQ3.out 0 (.slice (some ⟨g', 0, none⟩) (out.length + 1) cap'); simpa using this, by simpa using hO⟩, fun B h1 => ?_⟩
  have k1 : Below B w w3 := ((Below.refl B w).alloc (by omega) _).grown HG3.out (by simp; omega) (fun k e => by have := PxR.own_lt HO.out e; omega)
  exact k1.setCell (p := ⟨bs, 0, none⟩) h1 _
set_option maxHeartbeats 8000000 in
set_option maxRecDepth 100000 in
theorem tightPass.calls (bs base : Nat) (x s : Int) (out : List Int) (v : Value) (w : World) (hb : w.heap[bs]? = some (.cells #[v] 43 (0, 0))) (hown : w.ownsRow base 2 1 v out.length (out.map (Value.int .i64))) (hs : ¬ s = 0) :
    Calls Try.prog 57 #[.int .i64 x, .int .i64 s, .pointer (some ⟨bs, 0, none⟩)] w fun e w' => e = .returned (.bool (decide (out.length < 4096))) ∧ w' = w := by
  obtain ⟨A1, c1, rfl⟩ := own_slice hown
  have c0 : w.cell? ⟨bs, 0, none⟩ = some (.slice A1 out.length c1) := (blk_cell hb 0).trans rfl
  have hsb : (s == 0) = false := by simp [hs]
  clear hb hown
  go_enter Try.func57, Try.ntmps57
  go_wp2
  go_ret
  exact ⟨by simp; omega, rfl⟩
/-- The full deadlines up to the period, to 4096. -/
def tightGo (k : Nat) (l : List S28) (p : Int) : Nat → Int → Bool → List Int → Option (List Int)
  | 0, _, _, _ => none
  | j + 1, x, is, acc => if is = true then (if x ≤ p then (demand_Of.f k l x).bind fun n => if acc.length < 10000000000000 then (if wrap64 (x - n) = 0 then (if acc.length + 1 < 4096 then (demand_Next.f k l x).bind fun t => tightGo k l p j t.1 t.2 (acc ++ [x]) else some (acc ++ [x])) else (if acc.length < 4096 then (demand_Next.f k l x).bind fun t => tightGo k l p j t.1 t.2 acc else some acc)) else none else some acc) else some acc
theorem tightGo_mono (k : Nat) (l : List S28) (p : Int) : ∀ j x is acc, LeO (tightGo k l p j x is acc) (tightGo (k + 1) l p (j + 1) x is acc)
  | 0, x, is, acc => fun r h => by simp [tightGo] at h
  | j + 1, x, is, acc => by
    unfold tightGo
    exact LeO.ite (LeO.ite (LeO.bind (demand_Of.mono _ _ k) (fun n => LeO.ite (LeO.ite (LeO.ite (LeO.bind (demand_Next.mono _ _ k) (fun t => tightGo_mono k l p j _ _ _)) (LeO.refl _)) (LeO.ite (LeO.bind (demand_Next.mono _ _ k) (fun t => tightGo_mono k l p j _ _ _)) (LeO.refl _))) (LeO.refl _))) (LeO.refl _)) (LeO.refl _)
set_option maxHeartbeats 8000000 in
set_option maxRecDepth 100000 in
theorem eachT.calls (k j0 : Nat) (A0 : Option Addr) (c0 : Nat) (l0 : List S28) (p e0 x0 : Int) (is0 : Bool) (all : List Int) (bs base : Nat) (v0 : Value) (w wb : World) (hr0 : Kd.C k28 wb A0 l0.length l0) (hc0 : l0.length ≤ c0) (hwb : Below wb.heap.size wb w) (hbs : wb.heap.size ≤ bs) (hb : w.heap[bs]? = some (.cells #[v0] 43 (0, 0))) (hown : w.ownsRow base 2 1 v0 0 []) (l2 : bs < base) (l3 : base ≤ w.heap.size)
    (hP : param_Period.f k l0 = some (p, e0)) (hN : demand_Next.f k l0 0 = some (x0, is0)) (hG : tightGo k l0 p j0 x0 is0 [] = some all) :
    Calls Try.prog 54 #[.slice A0 l0.length c0, .func (.func 57) #[] #[.pointer (some ⟨bs, 0, none⟩)]] w fun e w' => e = .returned (.int .i64 p) ∧ (∃ v', w'.heap[bs]? = some (.cells #[v'] 43 (0, 0)) ∧ w'.ownsRow base 2 1 v' all.length (all.map (Value.int .i64))) ∧ Below wb.heap.size wb w' := by
  have HR0 := Lib.hid hr0
  have HC0 := Lib.hid hc0
  have HB := Lib.hid hwb
  have HQ := Lib.hid hb
  have HO := Lib.hid hown
  have HP := Lib.hid hP
  have HN := Lib.hid hN
  have HG := Lib.hid hG
  have HBS := Lib.hid hbs
  have HL2 := Lib.hid l2
  have HL3 := Lib.hid l3
  clear hr0 hc0 hwb hb hown hP hN hG hbs l2 l3
  go_enter Try.func54, Try.ntmps54
  go_wp2_with (first
    | (go_at_call 37; refine (param_Period.calls k A0 c0 l0 p e0 _ (Kd.C_below HR0.out HB.out) HC0.out HP.out).mono ?_; rintro e w1 ⟨rfl, q1⟩; replace HQ := Lib.hid (blk_below HQ.out q1); replace HO := Lib.hid (PxR.own_below HO.out q1); replace HL3 := Lib.hid (Nat.le_trans HL3.out q1.size); replace HB := Lib.hid (below_step HB.out q1); clear q1)
    | (go_at_call 83; refine (demand_Next.calls k A0 c0 l0 0 x0 is0 _ (Kd.C_below HR0.out HB.out) HC0.out HN.out).mono ?_; rintro e w2 ⟨rfl, q1⟩; replace HQ := Lib.hid (blk_below HQ.out q1); replace HO := Lib.hid (PxR.own_below HO.out q1); replace HL3 := Lib.hid (Nat.le_trans HL3.out q1.size); replace HB := Lib.hid (below_step HB.out q1); clear q1))
  go_loopg [7, 8] (j0 + 1) (fun gk v7 v8 wr => ∃ (j : Nat) (x : Int) (is : Bool) (acc : List Int) (v : Value), v7 = .int .i64 x ∧ v8 = .bool is ∧ j < gk ∧ Hid (tightGo k l0 p j x is acc = some all) ∧ Hid (wr.heap[bs]? = some (.cells #[v] 43 (0, 0))) ∧ Hid (wr.ownsRow base 2 1 v acc.length (acc.map (Value.int .i64))) ∧ Hid (base ≤ wr.heap.size) ∧ Hid (Below wb.heap.size wb wr))
  case atStart => exact ⟨j0, x0, is0, [], v0, rfl, rfl, by omega, HG, HQ, HO, HL3, HB⟩
  case round =>
    clear HG HQ HO HL3 HB
    obtain ⟨j, x, is, acc, v, rfl, rfl, hk, HG, HQ, HO, HL3, HB⟩ := hrel
    cases j with
    | zero => exact absurd HG.out (by simp [tightGo])
    | succ j =>
      have hg := HG.out
      unfold tightGo at hg
      cases is with
      | false =>
        rw [if_neg (by decide)] at hg
        obtain rfl := Option.some.inj hg
        clear hg HG
        go_wp2
        try rw [Exit.noGoto_ret]
        go_ret
        exact ⟨rfl, ⟨v, HQ.out, HO.out⟩, HB.out⟩
      | true =>
        rw [if_pos rfl] at hg
        by_cases c : x ≤ p
        · rw [if_pos c] at hg
          have cb : decide (x ≤ p) = true := decide_eq_true c
          obtain ⟨n, hn, hg2⟩ := Option.bind_eq_some_iff.mp hg
          have HOF := Lib.hid hn
          by_cases hl : acc.length < 10000000000000
          case neg => rw [if_neg hl] at hg2; cases hg2
          rw [if_pos hl] at hg2
          have HLN := Lib.hid hl
          by_cases hz : wrap64 (x - n) = 0
          · rw [if_pos hz] at hg2
            have HZ := Lib.hid hz
            clear hz
            obtain c2 | c2 := Classical.em (acc.length + 1 < 4096)
            · rw [if_pos c2] at hg2
              have cl : decide (acc.length + 1 < 4096) = true := decide_eq_true c2
              obtain ⟨⟨x', is'⟩, ht, hg3⟩ := Option.bind_eq_some_iff.mp hg2
              have HNX := Lib.hid ht
              have HG3 := Lib.hid hg3
              clear hg HG hg2 hg3 hn ht hl c2
              go_wp2_with (first
                | (go_at_call 84; refine (demand_Of.calls k A0 c0 l0 x n _ (Kd.C_below HR0.out HB.out) HC0.out HOF.out).mono ?_; rintro e w4 ⟨rfl, q1⟩; replace HQ := Lib.hid (blk_below HQ.out q1); replace HO := Lib.hid (PxR.own_below HO.out q1); replace HL3 := Lib.hid (Nat.le_trans HL3.out q1.size); replace HB := Lib.hid (below_step HB.out q1); clear q1)
                | (go_at_call 57; refine (tightApp.calls bs base x (wrap64 (x - n)) acc v _ HQ.out HO.out HL2.out HL3.out HLN.out HZ.out).mono ?_; rintro e w5 ⟨rfl, ⟨v', q2, q3⟩, q4⟩; have HQ5 := Lib.hid q2; have HO5 := Lib.hid (show w5.ownsRow base 2 1 v' (acc ++ [x]).length ((acc ++ [x]).map (Value.int .i64)) from (by rw [List.length_append]; exact q3)); replace HL3 := Lib.hid (Nat.le_trans HL3.out (q4 _ HBS.out).size); replace HB := Lib.hid (HB.out.trans (q4 _ HBS.out)); clear q2 q3 q4)
                | (go_at_call 83; refine (demand_Next.calls k A0 c0 l0 x x' is' _ (Kd.C_below HR0.out HB.out) HC0.out HNX.out).mono ?_; rintro e w6 ⟨rfl, q1⟩; have HQ6 := Lib.hid (blk_below HQ5.out q1); have HO6 := Lib.hid (PxR.own_below HO5.out q1); replace HL3 := Lib.hid (Nat.le_trans HL3.out q1.size); replace HB := Lib.hid (below_step HB.out q1); clear q1))
              go_roundg (j + 1)
              case measure => omega
              case rel => exact ⟨j, x', is', acc ++ [x], v', rfl, rfl, by omega, HG3, HQ6, HO6, HL3, HB⟩
            · rw [if_neg c2] at hg2
              have cl : decide (acc.length + 1 < 4096) = false := decide_eq_false c2
              obtain rfl := Option.some.inj hg2
              clear hg HG hg2 hn hl c2
              go_wp2_with (first
                | (go_at_call 84; refine (demand_Of.calls k A0 c0 l0 x n _ (Kd.C_below HR0.out HB.out) HC0.out HOF.out).mono ?_; rintro e w4 ⟨rfl, q1⟩; replace HQ := Lib.hid (blk_below HQ.out q1); replace HO := Lib.hid (PxR.own_below HO.out q1); replace HL3 := Lib.hid (Nat.le_trans HL3.out q1.size); replace HB := Lib.hid (below_step HB.out q1); clear q1)
                | (go_at_call 57; refine (tightApp.calls bs base x (wrap64 (x - n)) acc v _ HQ.out HO.out HL2.out HL3.out HLN.out HZ.out).mono ?_; rintro e w5 ⟨rfl, ⟨v', q2, q3⟩, q4⟩; have HQ5 := Lib.hid q2; have HO5 := Lib.hid (show w5.ownsRow base 2 1 v' (acc ++ [x]).length ((acc ++ [x]).map (Value.int .i64)) from (by rw [List.length_append]; exact q3)); replace HL3 := Lib.hid (Nat.le_trans HL3.out (q4 _ HBS.out).size); replace HB := Lib.hid (HB.out.trans (q4 _ HBS.out)); clear q2 q3 q4))
              try rw [Exit.noGoto_ret]
              go_ret
              exact ⟨rfl, ⟨v', HQ5.out, HO5.out⟩, HB.out⟩
          · rw [if_neg hz] at hg2
            have HZ := Lib.hid hz
            clear hz
            obtain c2 | c2 := Classical.em (acc.length < 4096)
            · rw [if_pos c2] at hg2
              have cl : decide (acc.length < 4096) = true := decide_eq_true c2
              obtain ⟨⟨x', is'⟩, ht, hg3⟩ := Option.bind_eq_some_iff.mp hg2
              have HNX := Lib.hid ht
              have HG3 := Lib.hid hg3
              clear hg HG hg2 hg3 hn ht hl c2
              go_wp2_with (first
                | (go_at_call 84; refine (demand_Of.calls k A0 c0 l0 x n _ (Kd.C_below HR0.out HB.out) HC0.out HOF.out).mono ?_; rintro e w4 ⟨rfl, q1⟩; replace HQ := Lib.hid (blk_below HQ.out q1); replace HO := Lib.hid (PxR.own_below HO.out q1); replace HL3 := Lib.hid (Nat.le_trans HL3.out q1.size); replace HB := Lib.hid (below_step HB.out q1); clear q1)
                | (go_at_call 57; refine (tightPass.calls bs base x (wrap64 (x - n)) acc v _ HQ.out HO.out HZ.out).mono ?_; rintro e w5 ⟨rfl, rfl⟩; have HQ5 := HQ; have HO5 := HO)
                | (go_at_call 83; refine (demand_Next.calls k A0 c0 l0 x x' is' _ (Kd.C_below HR0.out HB.out) HC0.out HNX.out).mono ?_; rintro e w6 ⟨rfl, q1⟩; have HQ6 := Lib.hid (blk_below HQ5.out q1); have HO6 := Lib.hid (PxR.own_below HO5.out q1); replace HL3 := Lib.hid (Nat.le_trans HL3.out q1.size); replace HB := Lib.hid (below_step HB.out q1); clear q1))
              go_roundg (j + 1)
              case measure => omega
              case rel => exact ⟨j, x', is', acc, v, rfl, rfl, by omega, HG3, HQ6, HO6, HL3, HB⟩
            · rw [if_neg c2] at hg2
              have cl : decide (acc.length < 4096) = false := decide_eq_false c2
              obtain rfl := Option.some.inj hg2
              clear hg HG hg2 hn hl c2
              go_wp2_with (first
                | (go_at_call 84; refine (demand_Of.calls k A0 c0 l0 x n _ (Kd.C_below HR0.out HB.out) HC0.out HOF.out).mono ?_; rintro e w4 ⟨rfl, q1⟩; replace HQ := Lib.hid (blk_below HQ.out q1); replace HO := Lib.hid (PxR.own_below HO.out q1); replace HL3 := Lib.hid (Nat.le_trans HL3.out q1.size); replace HB := Lib.hid (below_step HB.out q1); clear q1)
                | (go_at_call 57; refine (tightPass.calls bs base x (wrap64 (x - n)) acc v _ HQ.out HO.out HZ.out).mono ?_; rintro e w5 ⟨rfl, rfl⟩; have HQ5 := HQ; have HO5 := HO))
              try rw [Exit.noGoto_ret]
              go_ret
              exact ⟨rfl, ⟨v, HQ5.out, HO5.out⟩, HB.out⟩
        · rw [if_neg c] at hg
          have cb : decide (x ≤ p) = false := decide_eq_false c
          obtain rfl := Option.some.inj hg
          clear hg HG
          go_wp2
          try rw [Exit.noGoto_ret]
          go_ret
          exact ⟨rfl, ⟨v, HQ.out, HO.out⟩, HB.out⟩
-- probe_may probe_fits slices_Clone_api_Task param_Period demand_Next demand_Of
def probe_Tight.f (k : Nat) (l0 : List S28) : Option (List Int) := (probe_fits.f k l0).bind fun b => if b = true then (param_Period.f k l0).bind fun t => (demand_Next.f k l0 0).bind fun u => tightGo k l0 t.1 k u.1 u.2 [] else some []
theorem probe_Tight.mono : ∀ a0 k, LeO (probe_Tight.f k a0) (probe_Tight.f (k + 1) a0) := by
  intro a0 k
  unfold probe_Tight.f
  exact LeO.bind (probe_fits.mono _ k) (fun b => LeO.ite (LeO.bind (param_Period.mono _ k) (fun t => LeO.bind (demand_Next.mono _ _ k) (fun u => tightGo_mono k _ _ k _ _ _))) (LeO.refl _))
set_option maxHeartbeats 8000000 in
set_option maxRecDepth 100000 in
theorem probe_Tight.calls (k : Nat) (A0 : Option Addr) (c0 : Nat) (l0 : List S28) (r : List Int) (w : World) (hr0 : Kd.C k28 w A0 l0.length l0) (hc0 : l0.length ≤ c0) (h : probe_Tight.f k l0 = some r) :
    Calls Try.prog 24 #[.slice A0 l0.length c0] w fun e w' => ∃ v0_ : Value, e = .returned (v0_) ∧ Kd.R (Kd.int .i64) 2 w' w.heap.size (fun _ => True) v0_ r ∧ Below w.heap.size w w' := by
  unfold probe_Tight.f at h
  obtain ⟨b, hb, h1⟩ := Option.bind_eq_some_iff.mp h
  have HFT := Lib.hid hb
  have HR0 := Lib.hid hr0
  have HC0 := Lib.hid hc0
  cases b with
  | false =>
    rw [if_neg (by decide)] at h1
    obtain rfl := Option.some.inj h1
    clear h h1 hb hr0 hc0
    go_enter Try.func24, Try.ntmps24
    go_wp2_with (go_at_call 53; refine (probe_fits.calls k A0 c0 l0 false _ HR0.out HC0.out HFT.out).mono ?_; rintro e w1 ⟨rfl, q1⟩; have HB1 := Lib.hid q1; clear q1)
    go_ret
    exact ⟨_, rfl, Kd.R_nil _ _ _ _ _, HB1.out⟩
  | true =>
    rw [if_pos rfl] at h1
    obtain ⟨⟨p, e0⟩, hp, h2⟩ := Option.bind_eq_some_iff.mp h1
    obtain ⟨⟨x0, is0⟩, hn, hg⟩ := Option.bind_eq_some_iff.mp h2
    have HP := Lib.hid hp
    have HN := Lib.hid hn
    have HG := Lib.hid (show tightGo k l0 p k x0 is0 [] = some r from hg)
    clear h h1 h2 hb hr0 hc0 hp hn hg
    go_enter Try.func24, Try.ntmps24
    go_wp2_with (go_at_call 53; refine (probe_fits.calls k A0 c0 l0 true _ HR0.out HC0.out HFT.out).mono ?_; rintro e w1 ⟨rfl, q1⟩; have HB1 := Lib.hid q1; clear q1)
    obtain ⟨W, hW⟩ : ∃ W, w1.alloc (.cells #[.slice none 0 0] 43) = W := ⟨_, rfl⟩
    obtain ⟨bs, hbs⟩ : ∃ b, w1.heap.size = b := ⟨_, rfl⟩
    have HQ : Hid (W.heap[bs]? = some (.cells #[.slice none 0 0] 43 (0, 0))) := by rw [← hW, ← hbs]; exact heap_alloc_new w1 _
    have HB : Hid (Below w.heap.size w W) := by rw [← hW]; exact below_alloc HB1.out _
    have HSZ : Hid (bs + 1 ≤ W.heap.size) := by rw [← hW, World.size_alloc, hbs]; exact Nat.le_refl _
    have HWB : Hid (w.heap.size ≤ bs) := by rw [← hbs]; exact HB1.out.size
    rw [hW, hbs]
    clear hW hbs HB1
    go_wp2_with (go_at_call 54; refine (eachT.calls k k A0 c0 l0 p e0 x0 is0 r bs (bs + 1) (.slice none 0 0) W w HR0.out HC0.out HB.out HWB.out HQ.out (own_nil _ _ _ _) (Nat.lt_succ_self _) HSZ.out HP.out HN.out HG.out).mono ?_; rintro e w2 ⟨rfl, ⟨v', q2, q3⟩, q4⟩; have HO2 := Lib.hid q3; have cq := (blk_cell q2 0).trans rfl; have HB2 := Lib.hid q4; clear q2 q3 q4)
    go_ret
    exact ⟨v', rfl, Kd.R_lower (Kd.R_of_own HO2.out (fun _ _ => trivial)) (Nat.le_succ_of_le HWB.out), HB2.out⟩

/-! ### probe_LeastT: function 27 (by hand) -/
-- probe_may probe_fits slices_Clone_api_Task
/-- The least T, one by one down from it. -/
def leastTGo (k : Nat) (l : List S28) (i : Nat) (x : S28) : Nat → Int → Option Int
  | 0, _ => none
  | j + 1, n => if n > x.f2 then (probe_fits.f k (l.set i (chT x n))).bind fun b => if b = true then leastTGo k l i x j (wrap64 (n - 1)) else some n else some n
theorem leastTGo_mono (k : Nat) (l : List S28) (i : Nat) (x : S28) : ∀ j n, LeO (leastTGo k l i x j n) (leastTGo (k + 1) l i x (j + 1) n)
  | 0, n => fun r h => by simp [leastTGo] at h
  | j + 1, n => by
    unfold leastTGo
    exact LeO.ite (LeO.bind (probe_fits.mono _ k) (fun b => LeO.ite (leastTGo_mono k l i x j _) (LeO.refl _))) (LeO.refl _)
def probe_LeastT.f (k : Nat) (l0 : List S28) (a1 : Int) : Option Int := (probe_may.f k l0 a1).bind fun b => if b = true then (if l0.length < 3518437208883 then leastTGo k l0 a1.toNat (rd_T28 l0 a1) k (rd_T28 l0 a1).f3 else none) else some 0
theorem probe_LeastT.mono : ∀ a0 a1 k, LeO (probe_LeastT.f k a0 a1) (probe_LeastT.f (k + 1) a0 a1) := by
  intro a0 a1 k
  unfold probe_LeastT.f
  exact LeO.bind (probe_may.mono _ _ k) (fun b => LeO.ite (LeO.ite (leastTGo_mono k _ _ _ k _) (LeO.refl _)) (LeO.refl _))
def leastT.T4 : Bool × List (List Nat × List Nat) := (true, [([], []), ([], []), ([], []), ([1, 2], [1, 2]), ([3], [3]), ([4], [4]), ([0, 5], [0, 5])])
def leastT.B4 : List Nat := [0, 0, 0, 6, 14, 30, 63]
theorem leastT.tab4 : rtab .any (opsOf Try.f27 4) = leastT.T4 := by kernel_rfl
theorem leastT.bits4 : waitsOk leastT.T4.2 leastT.B4 = true := by kernel_rfl
set_option maxHeartbeats 8000000 in
set_option maxRecDepth 100000 in
theorem probe_LeastT.calls (k : Nat) (A0 : Option Addr) (c0 : Nat) (l0 : List S28) (a1 : Int) (r : Int) (w : World) (hr0 : Kd.C k28 w A0 l0.length l0) (hc0 : l0.length ≤ c0) (h : probe_LeastT.f k l0 a1 = some r) :
    Calls Try.prog 27 #[.slice A0 l0.length c0, .int .i64 a1] w fun e w' => e = .returned (.int .i64 r) ∧ Below w.heap.size w w' := by
  unfold probe_LeastT.f at h
  obtain ⟨b, hb, h1⟩ := Option.bind_eq_some_iff.mp h
  have HMY := Lib.hid hb
  have HR0 := Lib.hid hr0
  have HC0 := Lib.hid hc0
  cases b with
  | false =>
    rw [if_neg (by decide)] at h1
    obtain rfl := Option.some.inj h1
    clear h h1 hb hr0 hc0
    go_enter Try.func27, Try.ntmps27
    go_wp2
    go_step3
    go_wp2_with (go_at_call 45; refine (probe_may.calls k A0 c0 l0 a1 false _ HR0.out HC0.out HMY.out).mono ?_; rintro e w1 ⟨rfl, q1⟩; have HB1 := Lib.hid q1; clear q1)
    try rw [Exit.noGoto_ret]
    go_ret
    exact ⟨rfl, HB1.out⟩
  | true =>
    rw [if_pos rfl] at h1
    have hmy := hb
    unfold probe_may.f at hmy
    by_cases p0 : a1 ≥ 0
    case neg => rw [if_neg p0] at hmy; cases hmy
    rw [if_pos p0] at hmy
    by_cases p1 : a1 < (l0.length : Int)
    case neg => rw [if_neg p1] at hmy; cases hmy
    obtain ⟨i, rfl⟩ := Int.eq_ofNat_of_zero_le p0
    by_cases hl : l0.length < 3518437208883
    case neg => rw [if_neg hl] at h1; cases h1
    rw [if_pos hl, Int.toNat_natCast] at h1
    obtain ⟨x, hxe⟩ : ∃ x, rd_T28 l0 (i : Int) = x := ⟨_, rfl⟩
    rw [hxe] at h1
    have hx : l0[i]? = some x := by
      rw [List.getElem?_eq_getElem (show i < l0.length by omega), ← hxe]
      unfold rd_T28
      rw [Int.toNat_natCast, List.getD_eq_getElem?_getD, List.getElem?_eq_getElem (show i < l0.length by omega)]; rfl
    have HF := Lib.hid h1
    have HXX := Lib.hid hx
    have HLN := Lib.hid hl
    have i0 : (0 : Int) ≤ (i : Int) := by omega
    have i1 : (i : Int) < (l0.length : Int) := by omega
    obtain ⟨ad, e0, x0, x1, x2, x3, x4⟩ := at_T28 hr0 (i : Int) i0 i1
    cases e0
    rw [hxe] at x0 x1 x2 x3 x4
    simp only [Int.toNat_natCast] at x0 x1 x2 x3 x4
    have HX2 := Lib.hid x2
    have HX3 := Lib.hid x3
    clear h h1 hb hmy hr0 hc0 hx hxe hl p0 p1 x0 x1 x2 x3 x4
    go_enter Try.func27, Try.ntmps27
    go_wp2
    go_step3
    go_wp2_with (go_at_call 45; refine (probe_may.calls k (some ad) c0 l0 (i : Int) true _ HR0.out HC0.out HMY.out).mono ?_; rintro e w1 ⟨rfl, q1⟩; have HB := Lib.hid q1; have HBS := Lib.hid q1.size; have c3 := (q1.cell (World.block_lt_of_cell? w _ HX3.out)).trans HX3.out; clear q1)
    go_step3
    go_wp2
    clear c3
    have HT := Lib.hid (heap_alloc_new w1 (.cells #[.int .i64 x.f3] 2))
    replace HB := Lib.hid (below_alloc HB.out (.cells #[.int .i64 x.f3] 2))
    obtain ⟨W2, hW2⟩ : ∃ W, w1.alloc (.cells #[.int .i64 x.f3] 2) = W := ⟨_, rfl⟩
    obtain ⟨bt, hbt⟩ : ∃ b, w1.heap.size = b := ⟨_, rfl⟩
    have HBT : Hid (w.heap.size ≤ bt) := by rw [← hbt]; exact HBS.out
    rw [hW2, hbt] at HT
    rw [hW2] at HB
    rw [hW2, hbt]
    clear hW2 hbt
    go_loopg [] (k + 1) (fun gk wr => ∃ (j : Nat) (n : Int), j < gk ∧ Hid (leastTGo k l0 i x j n = some r) ∧ Hid (wr.heap[bt]? = some (.cells #[.int .i64 n] 2 (0, 0))) ∧ Hid (Below w.heap.size w wr))
    case atStart => exact ⟨k, x.f3, by omega, HF, HT, HB⟩
    case round =>
      clear HF HT HB
      obtain ⟨j, n, hk, HF, HT, HB⟩ := hrel
      cases j with
      | zero => exact absurd HF.out (by simp [leastTGo])
      | succ j =>
        have hf := HF.out
        unfold leastTGo at hf
        by_cases c : n > x.f2
        · rw [if_pos c] at hf
          have cb : decide (n > x.f2) = true := decide_eq_true c
          obtain ⟨d, hd, hf2⟩ := Option.bind_eq_some_iff.mp hf
          have HD := Lib.hid hd
          have HF2 := Lib.hid hf2
          clear hf HF hd hf2
          go_wp2
          have cn : wr.drew.cell? ⟨bt, 0, none⟩ = some (.int .i64 n) := (blk_cell HT.out 0).trans rfl
          have cd : wr.drew.cell? ⟨(ad.add (i * 5)).block, (ad.add (i * 5)).off + 2, none⟩ = some (.int .i64 x.f2) := (HB.out.cell (World.block_lt_of_cell? w _ HX2.out)).trans HX2.out
          replace HT := Lib.hid (blk_drew HT.out)
          replace HB := Lib.hid (below_drew1 HB.out)
          refine start_ (n := 7) (S := fun w' => w'.cell? ⟨bt, 0, none⟩ = some (.int .i64 n) ∧ w'.cell? ⟨(ad.add (i * 5)).block, (ad.add (i * 5)).off + 2, none⟩ = some (.int .i64 x.f2)) (ds := []) #[false, false, false, false, false, false, false] (by kernel_rfl) rfl rfl ⟨cn, cd⟩ (fun hHeld => ?_); refine with_tabW leastT.tab4 leastT.bits4 (fun HT_ HW_ => ?_)
          generalize wr.drew = w5 at HT HB cn cd hHeld ⊢
          refine take_ (i := 0) (N := some 15) (v := ?_) (a' := ?_) #[true, false, false, false, false, false, false] rfl rfl (take_ofW HT_.out HW_.out (by kernel_rfl)) (fun _ _ _ h => h) (Or.inl ⟨by rfl, ?_⟩) hHeld ?_ ?_
          rotate_left
          · rintro w' ⟨s0, s1⟩
            go_simp
            with_reducible rfl
          rotate_left
          · simp only [Act.put, List.setIfInBounds_toArray, List.set_cons_zero, List.set_cons_succ, i64_w, i32_w]
            rfl
          refine pure_ (i := 1) (N := some 16) (v := ?_) (a' := ?_) #[true, true, false, false, false, false, false] rfl rfl (any_of HT_.out (by kernel_rfl)) (fun _ _ _ h => h) (Or.inl ⟨by rfl, ?_⟩) ?_ ?_
          rotate_left
          · intro w'
            go_simp
            with_reducible rfl
          rotate_left
          · simp only [Act.put, List.setIfInBounds_toArray, List.set_cons_zero, List.set_cons_succ, i64_w, i32_w]
            rfl
          refine pure_ (i := 2) (N := some 17) (v := ?_) (a' := ?_) #[true, true, true, false, false, false, false] rfl rfl (any_of HT_.out (by kernel_rfl)) (fun _ _ _ h => h) (Or.inl ⟨by rfl, ?_⟩) ?_ ?_
          rotate_left
          · intro w'
            go_simp
            with_reducible rfl
          rotate_left
          · simp only [Act.put, List.setIfInBounds_toArray, List.set_cons_zero, List.set_cons_succ, i64_w, i32_w]
            rfl
          refine pure_ (i := 3) (N := some 18) (v := ?_) (a' := ?_) #[true, true, true, true, false, false, false] rfl rfl (any_of HT_.out (by kernel_rfl)) (fun _ _ _ h => h) (Or.inl ⟨by rfl, ?_⟩) ?_ ?_
          rotate_left
          · intro w'
            go_simp
            with_reducible rfl
          rotate_left
          · simp only [Act.put, List.setIfInBounds_toArray, List.set_cons_zero, List.set_cons_succ, i64_w, i32_w]
            rfl
          refine pure_ (i := 4) (N := some 19) (v := ?_) (a' := ?_) #[true, true, true, true, true, false, false] rfl rfl (any_of HT_.out (by kernel_rfl)) (fun _ _ _ h => h) (Or.inl ⟨by rfl, ?_⟩) ?_ ?_
          rotate_left
          · intro w'
            go_simp
            with_reducible rfl
          rotate_left
          · simp only [Act.put, List.setIfInBounds_toArray, List.set_cons_zero, List.set_cons_succ, i64_w, i32_w]
            rfl
          refine take_ (i := 5) (N := some 20) (v := ?_) (a' := ?_) #[true, true, true, true, true, true, false] rfl rfl (take_ofW HT_.out HW_.out (by kernel_rfl)) (fun _ _ _ h => h) (Or.inl ⟨by rfl, ?_⟩) hHeld ?_ ?_
          rotate_left
          · rintro w' ⟨s0, s1⟩
            go_simp
            with_reducible rfl
          rotate_left
          · simp only [Act.put, List.setIfInBounds_toArray, List.set_cons_zero, List.set_cons_succ, i64_w, i32_w]
            rfl
          refine pure_ (i := 6) (N := some 21) (v := ?_) (a' := ?_) #[true, true, true, true, true, true, true] rfl rfl (any_of HT_.out (by kernel_rfl)) (fun _ _ _ h => h) (Or.inl ⟨by rfl, ?_⟩) ?_ ?_
          rotate_left
          · intro w'
            go_simp
            with_reducible rfl
          rotate_left
          · simp only [Act.put, List.setIfInBounds_toArray, List.set_cons_zero, List.set_cons_succ, i64_w, i32_w]
            rfl
          refine done_ (done_of HT_.out (by kernel_rfl)) ?_
          clear hHeld
          cases d with
          | true =>
            go_wp2_with (go_at_call 48; refine (turnT.calls k (some ad) c0 l0 i bt n true _ (Kd.C_below HR0.out HB.out) HC0.out HLN.out x HXX.out HT.out HD.out).mono ?_; rintro e w6 ⟨rfl, q1⟩; replace HT := Lib.hid (blk_below HT.out q1); replace HB := Lib.hid (below_step HB.out q1); clear q1 cn cd; have cn := (blk_cell HT.out 0).trans rfl; have fn := blk_frozen HT.out 0)
            go_roundg (j + 1)
            case measure => omega
            case rel => exact ⟨j, wrap64 (n - 1), by omega, HF2, Lib.hid (blk_put HT.out 0 _ rfl), Lib.hid (HB.out.setCell (p := ⟨bt, 0, none⟩) HBT.out _)⟩
          | false =>
            have hr := Option.some.inj (show some n = some r from HF2.out)
            go_wp2_with (go_at_call 48; refine (turnT.calls k (some ad) c0 l0 i bt n false _ (Kd.C_below HR0.out HB.out) HC0.out HLN.out x HXX.out HT.out HD.out).mono ?_; rintro e w6 ⟨rfl, q1⟩; replace HT := Lib.hid (blk_below HT.out q1); replace HB := Lib.hid (below_step HB.out q1); clear q1 cn cd; have cn := (blk_cell HT.out 0).trans rfl)
            try rw [Exit.noGoto_ret]
            go_ret
            exact ⟨rfl, HB.out⟩
        · rw [if_neg c] at hf
          have cb : decide (n > x.f2) = false := decide_eq_false c
          obtain rfl := Option.some.inj hf
          clear hf HF
          go_wp2
          have cn : wr.drew.cell? ⟨bt, 0, none⟩ = some (.int .i64 n) := (blk_cell HT.out 0).trans rfl
          have cd : wr.drew.cell? ⟨(ad.add (i * 5)).block, (ad.add (i * 5)).off + 2, none⟩ = some (.int .i64 x.f2) := (HB.out.cell (World.block_lt_of_cell? w _ HX2.out)).trans HX2.out
          replace HT := Lib.hid (blk_drew HT.out)
          replace HB := Lib.hid (below_drew1 HB.out)
          refine start_ (n := 7) (S := fun w' => w'.cell? ⟨bt, 0, none⟩ = some (.int .i64 n) ∧ w'.cell? ⟨(ad.add (i * 5)).block, (ad.add (i * 5)).off + 2, none⟩ = some (.int .i64 x.f2)) (ds := []) #[false, false, false, false, false, false, false] (by kernel_rfl) rfl rfl ⟨cn, cd⟩ (fun hHeld => ?_); refine with_tabW leastT.tab4 leastT.bits4 (fun HT_ HW_ => ?_)
          generalize wr.drew = w5 at HT HB cn cd hHeld ⊢
          refine take_ (i := 0) (N := some 15) (v := ?_) (a' := ?_) #[true, false, false, false, false, false, false] rfl rfl (take_ofW HT_.out HW_.out (by kernel_rfl)) (fun _ _ _ h => h) (Or.inl ⟨by rfl, ?_⟩) hHeld ?_ ?_
          rotate_left
          · rintro w' ⟨s0, s1⟩
            go_simp
            with_reducible rfl
          rotate_left
          · simp only [Act.put, List.setIfInBounds_toArray, List.set_cons_zero, List.set_cons_succ, i64_w, i32_w]
            rfl
          refine pure_ (i := 1) (N := some 16) (v := ?_) (a' := ?_) #[true, true, false, false, false, false, false] rfl rfl (any_of HT_.out (by kernel_rfl)) (fun _ _ _ h => h) (Or.inl ⟨by rfl, ?_⟩) ?_ ?_
          rotate_left
          · intro w'
            go_simp
            with_reducible rfl
          rotate_left
          · simp only [Act.put, List.setIfInBounds_toArray, List.set_cons_zero, List.set_cons_succ, i64_w, i32_w]
            rfl
          refine pure_ (i := 2) (N := some 17) (v := ?_) (a' := ?_) #[true, true, true, false, false, false, false] rfl rfl (any_of HT_.out (by kernel_rfl)) (fun _ _ _ h => h) (Or.inl ⟨by rfl, ?_⟩) ?_ ?_
          rotate_left
          · intro w'
            go_simp
            with_reducible rfl
          rotate_left
          · simp only [Act.put, List.setIfInBounds_toArray, List.set_cons_zero, List.set_cons_succ, i64_w, i32_w]
            rfl
          refine pure_ (i := 3) (N := some 18) (v := ?_) (a' := ?_) #[true, true, true, true, false, false, false] rfl rfl (any_of HT_.out (by kernel_rfl)) (fun _ _ _ h => h) (Or.inl ⟨by rfl, ?_⟩) ?_ ?_
          rotate_left
          · intro w'
            go_simp
            with_reducible rfl
          rotate_left
          · simp only [Act.put, List.setIfInBounds_toArray, List.set_cons_zero, List.set_cons_succ, i64_w, i32_w]
            rfl
          refine pure_ (i := 4) (N := some 19) (v := ?_) (a' := ?_) #[true, true, true, true, true, false, false] rfl rfl (any_of HT_.out (by kernel_rfl)) (fun _ _ _ h => h) (Or.inl ⟨by rfl, ?_⟩) ?_ ?_
          rotate_left
          · intro w'
            go_simp
            with_reducible rfl
          rotate_left
          · simp only [Act.put, List.setIfInBounds_toArray, List.set_cons_zero, List.set_cons_succ, i64_w, i32_w]
            rfl
          refine take_ (i := 5) (N := some 20) (v := ?_) (a' := ?_) #[true, true, true, true, true, true, false] rfl rfl (take_ofW HT_.out HW_.out (by kernel_rfl)) (fun _ _ _ h => h) (Or.inl ⟨by rfl, ?_⟩) hHeld ?_ ?_
          rotate_left
          · rintro w' ⟨s0, s1⟩
            go_simp
            with_reducible rfl
          rotate_left
          · simp only [Act.put, List.setIfInBounds_toArray, List.set_cons_zero, List.set_cons_succ, i64_w, i32_w]
            rfl
          refine pure_ (i := 6) (N := some 21) (v := ?_) (a' := ?_) #[true, true, true, true, true, true, true] rfl rfl (any_of HT_.out (by kernel_rfl)) (fun _ _ _ h => h) (Or.inl ⟨by rfl, ?_⟩) ?_ ?_
          rotate_left
          · intro w'
            go_simp
            with_reducible rfl
          rotate_left
          · simp only [Act.put, List.setIfInBounds_toArray, List.set_cons_zero, List.set_cons_succ, i64_w, i32_w]
            rfl
          refine done_ (done_of HT_.out (by kernel_rfl)) ?_
          clear hHeld
          go_wp2
          try rw [Exit.noGoto_ret]
          go_ret
          exact ⟨rfl, HB.out⟩

/-! ### r10_Same: function 61 -/
def r10_Same.l0 : Nat → List Int → List Int → Int → Option (Bool)
  | 0, _, _, _ => none
  | k + 1, x0, x1, x5 => if x5 < (x0.length : Int) then (if 0 ≤ x5 then (if x5 < (x1.length : Int) then (if (rd x0 x5) = (rd x1 x5) then (r10_Same.l0 k x0 x1 (wrap64 (x5 + 1))) else (some false)) else (none)) else (none)) else (some true)
def r10_Same.f (k : Nat) (l0 : List Int) (l1 : List Int) : Option (Bool) := if (l0.length : Int) = (l1.length : Int) then (r10_Same.l0 k l0 l1 0) else (some false)
theorem r10_Same.mono_l : ∀ k, (∀ y0 y1 y2, LeO (r10_Same.l0 k y0 y1 y2) (r10_Same.l0 (k + 1) y0 y1 y2))
  | 0 => fun _ _ _ r h => by simp [r10_Same.l0] at h
  | k + 1 => by
    have ih0 := r10_Same.mono_l k
    · intro y0 y1 y2
      unfold r10_Same.l0
      repeat' first
      | (with_reducible exact ih0 _ _ _)
      | (with_reducible exact LeO.refl _)
      | (with_reducible exact LeO.none _)
      | (with_reducible refine LeO.ite ?_ ?_)
      | (with_reducible refine LeO.bind ?_ (fun _ => ?_))
      | exact ih0 _ _ _
      | exact LeO.none _
      | refine LeO.ite ?_ ?_
      | refine LeO.bind ?_ (fun _ => ?_)
theorem r10_Same.mono : ∀ a0 a1 k, LeO (r10_Same.f k a0 a1) (r10_Same.f (k + 1) a0 a1) := by
  intro a0 a1 k
  have ih0 := r10_Same.mono_l k
  unfold r10_Same.f
  repeat' first
      | (with_reducible exact ih0 _ _ _)
      | (with_reducible exact LeO.refl _)
      | (with_reducible exact LeO.none _)
      | (with_reducible refine LeO.ite ?_ ?_)
      | (with_reducible refine LeO.bind ?_ (fun _ => ?_))
      | exact ih0 _ _ _
      | exact LeO.none _
      | refine LeO.ite ?_ ?_
      | refine LeO.bind ?_ (fun _ => ?_)
set_option maxHeartbeats 8000000 in
set_option maxRecDepth 100000 in
theorem r10_Same.calls (k : Nat) (A0 : Option Addr) (c0 : Nat) (l0 : List Int) (A1 : Option Addr) (c1 : Nat) (l1 : List Int) (r : Bool) (w : World) (hr0 : Kd.C (Kd.int .i64) w A0 l0.length l0) (hc0 : l0.length ≤ c0) (hr1 : Kd.C (Kd.int .i64) w A1 l1.length l1) (hc1 : l1.length ≤ c1) (h : r10_Same.f k l0 l1 = some r) :
    Calls Try.prog 61 #[.slice A0 l0.length c0, .slice A1 l1.length c1] w fun e w' => e = .returned (.bool r) ∧ Drawn0 w w' := by
  have HR0 := Aside0.mk hr0
  have HC0 := Aside0.mk hc0
  clear hr0 hc0
  have HR1 := Aside0.mk hr1
  have HC1 := Aside0.mk hc1
  clear hr1 hc1
  have H : (if (l0.length : Int) = (l1.length : Int) then (r10_Same.l0 k l0 l1 0) else (some false)) = some r := h
  clear h
  by_cases c3 : (l0.length : Int) = (l1.length : Int)
  · rw [if_pos c3] at H
    have c3b0 : ((l0.length : Int) == (l1.length : Int)) = true := beq_iff_eq.mpr c3
    have c3b1 : ((l0.length : Int) != (l1.length : Int)) = false := bne_eq_false_iff_eq.mpr c3
    have c3b2 : (l0.length == l1.length) = true := by first | simpa using c3 | (simp at c3 ⊢; omega)
    clear c3
    have H' := Aside0.mk H
    clear H
    go_enter Try.func61, Try.ntmps61
    go_wp2
    repeat (go_quiet (fail); try go_wp2)
    go_loopg [5] k (fun kq v5 w' => ∃ (x5_1 : Int), v5 = .int .i64 x5_1 ∧ Aside0 (r10_Same.l0 kq l0 l1 x5_1 = some r) ∧ Aside0 (kq ≤ k) ∧ Drawn0 w w')
    case atStart => exact ⟨(0), (by first | rfl | (simp; done) | (simp [*]; done)), H', ⟨Nat.le_refl _⟩, by repeat (first | exact Drawn0.refl _ | apply Drawn0.step)⟩
    case round =>
      clear H'
      try clear c1
      try clear p2
      try clear c3
      try clear c3b0
      try clear c3b1
      try clear c3b2
      obtain ⟨x5_1, rfl, HA, HK1, ⟨m1, rfl⟩⟩ := hrel
      cases gk with
      | zero => exact absurd HA.out (by simp [r10_Same.l0])
      | succ k1 =>
        have H := HA.out
        clear HA
        simp only [r10_Same.l0] at H
        by_cases c4 : x5_1 < (l0.length : Int)
        · rw [if_pos c4] at H
          have c4b0 : decide (x5_1 < (l0.length : Int)) = true := decide_eq_true c4
          clear c4
          by_cases c5 : 0 ≤ x5_1
          · rw [if_pos c5] at H
            have c5b0 : decide (0 ≤ x5_1) = true := decide_eq_true c5
            clear c5
            by_cases c6 : x5_1 < (l1.length : Int)
            · rw [if_pos c6] at H
              have c6b0 : decide (x5_1 < (l1.length : Int)) = true := decide_eq_true c6
              clear c6
              by_cases c7 : (rd l0 x5_1) = (rd l1 x5_1)
              · rw [if_pos c7] at H
                have c7b0 : ((rd l0 x5_1) == (rd l1 x5_1)) = true := beq_iff_eq.mpr c7
                have c7b1 : ((rd l0 x5_1) != (rd l1 x5_1)) = false := bne_eq_false_iff_eq.mpr c7
                clear c7
                have H' := Aside0.mk H
                clear H
                have p201 : 0 ≤ (x5_1 : Int) := of_decide_eq_true (by first | (with_reducible assumption) | assumption)
                have q201 : x5_1 < (l0.length : Int) := of_decide_eq_true (by first | (with_reducible assumption) | assumption)
                obtain ⟨ad201, e201, hx201_0⟩ := Kd.at_int HR0.out x5_1 p201 q201
                cases e201
                replace p201 := eq_true p201
                replace q201 := eq_true q201
                have p202 : 0 ≤ (x5_1 : Int) := of_decide_eq_true (by first | (with_reducible assumption) | assumption)
                have q202 : x5_1 < (l1.length : Int) := of_decide_eq_true (by first | (with_reducible assumption) | assumption)
                obtain ⟨ad202, e202, hx202_0⟩ := Kd.at_int HR1.out x5_1 p202 q202
                cases e202
                replace p202 := eq_true p202
                replace q202 := eq_true q202
                go_wp2
                repeat (go_quiet (fail); try go_wp2)
                go_roundg k1
                case measure => have := HK1.out; omega
                case rel => exact ⟨(wrap64 (x5_1 + 1)), (by first | rfl | (simp; done) | (simp [*]; done)), H', ⟨by have := HK1.out; omega⟩, by repeat (first | exact Drawn0.refl _ | apply Drawn0.step)⟩
              · rw [if_neg c7] at H
                have c7b0 : ((rd l0 x5_1) == (rd l1 x5_1)) = false := beq_eq_false_iff_ne.mpr c7
                have c7b1 : ((rd l0 x5_1) != (rd l1 x5_1)) = true := bne_iff_ne.mpr c7
                obtain rfl := Option.some.inj H
                have p201 : 0 ≤ (x5_1 : Int) := of_decide_eq_true (by first | (with_reducible assumption) | assumption)
                have q201 : x5_1 < (l0.length : Int) := of_decide_eq_true (by first | (with_reducible assumption) | assumption)
                obtain ⟨ad201, e201, hx201_0⟩ := Kd.at_int HR0.out x5_1 p201 q201
                cases e201
                replace p201 := eq_true p201
                replace q201 := eq_true q201
                have p202 : 0 ≤ (x5_1 : Int) := of_decide_eq_true (by first | (with_reducible assumption) | assumption)
                have q202 : x5_1 < (l1.length : Int) := of_decide_eq_true (by first | (with_reducible assumption) | assumption)
                obtain ⟨ad202, e202, hx202_0⟩ := Kd.at_int HR1.out x5_1 p202 q202
                cases e202
                replace p202 := eq_true p202
                replace q202 := eq_true q202
                go_wp2
                repeat (go_quiet (fail); try go_wp2)
                go_ret
                exact ⟨by first | rfl | (simp; done) | (simp only [i64_w]; done) | (simp [*]; done), by repeat (first | exact Drawn0.refl _ | apply Drawn0.step)⟩
            · rw [if_neg c6] at H
              exact absurd H (by simp)
          · rw [if_neg c5] at H
            exact absurd H (by simp)
        · rw [if_neg c4] at H
          have c4b0 : decide (x5_1 < (l0.length : Int)) = false := decide_eq_false c4
          clear c4
          obtain rfl := Option.some.inj H
          go_wp2
          repeat (go_quiet (fail); try go_wp2)
          go_ret
          exact ⟨by first | rfl | (simp; done) | (simp only [i64_w]; done) | (simp [*]; done), by repeat (first | exact Drawn0.refl _ | apply Drawn0.step)⟩
  · rw [if_neg c3] at H
    have c3b0 : ((l0.length : Int) == (l1.length : Int)) = false := beq_eq_false_iff_ne.mpr c3
    have c3b1 : ((l0.length : Int) != (l1.length : Int)) = true := bne_iff_ne.mpr c3
    have c3b2 : (l0.length == l1.length) = false := by first | simpa using c3 | (simp at c3 ⊢; omega)
    obtain rfl := Option.some.inj H
    go_enter Try.func61, Try.ntmps61
    go_wp2
    repeat (go_quiet (fail); try go_wp2)
    go_ret
    exact ⟨by first | rfl | (simp; done) | (simp only [i64_w]; done) | (simp [*]; done), by repeat (first | exact Drawn0.refl _ | apply Drawn0.step)⟩

/-! ### r10_next: function 106 -/
def r10_next.f (a0_0 : Int) (a0_1 : Int) (a0_2 : Int) (a0_3 : Int) (a0_4 : Int) (a1 : Int) : Option (Int) := if a1 < a0_2 then (some a0_2) else (if a0_3 = 0 then (none) else (some (wrap64 (a0_2 + (wrap64 (a0_3 * (wrap64 ((wrap64 (Int.tdiv (wrap64 (a1 - a0_2)) a0_3)) + 1))))))))
set_option maxHeartbeats 8000000 in
set_option maxRecDepth 100000 in
theorem r10_next.calls (a0_0 : Int) (a0_1 : Int) (a0_2 : Int) (a0_3 : Int) (a0_4 : Int) (a1 : Int) (r : Int) (w : World) (h : r10_next.f a0_0 a0_1 a0_2 a0_3 a0_4 a1 = some r) :
    Calls Try.prog 106 #[.agg #[.int .i64 a0_0, .int .i64 a0_1, .int .i64 a0_2, .int .i64 a0_3, .int .i64 a0_4], .int .i64 a1] w fun e w' => e = .returned (.int .i64 r) ∧ Below w.heap.size w w' := by
  have hu28 := Try.underlying28
  have HB := Aside0.mk (Below.refl w.heap.size w)
  have H : (if a1 < a0_2 then (some a0_2) else (if a0_3 = 0 then (none) else (some (wrap64 (a0_2 + (wrap64 (a0_3 * (wrap64 ((wrap64 (Int.tdiv (wrap64 (a1 - a0_2)) a0_3)) + 1))))))))) = some r := h
  clear h
  by_cases c3 : a1 < a0_2
  · rw [if_pos c3] at H
    have c3b0 : decide (a1 < a0_2) = true := decide_eq_true c3
    clear c3
    obtain rfl := Option.some.inj H
    go_enter Try.func106, Try.ntmps106
    go_wp2_with (first | ((with_reducible refine gate_dst (N := 2) rfl ?_); refine box_event ?hg (N := 2) ?hd (cs := #[.int .i64 a0_0, .int .i64 a0_1, .int .i64 a0_2, .int .i64 a0_3, .int .i64 a0_4]) (t := 28) ?hr ?_; (case hd => rfl); (case hg => rfl); (case hr => first | (go_simp; done) | (go_simp; rfl)); intro gb203 hg w4 hbox hb; have n0_ := Aside0.mk (below_step (by repeat (first | (with_reducible first | exact HB.out | apply below_alloc | apply pw_below_drewN | apply below_drew1) | exact HB.out)) hb); have n1_ := Aside0.mk (hbox); have n2_ := Aside0.mk ((by rw [hg]; exact (below_size (by repeat (first | (with_reducible first | exact HB.out | apply below_alloc | apply pw_below_drewN | apply below_drew1) | exact HB.out))) : w.heap.size ≤ gb203)); have n3_ := Aside0.mk ((by rw [hg]; exact (below_size (by repeat (first | (with_reducible first | exact HB.out | apply below_alloc | apply pw_below_drewN | apply below_drew1) | exact HB.out))) : w.heap.size ≤ gb203)); clear HB; have HB := n0_; have BK203 := n1_; have GW203 := n2_; have GE203 := n3_; clear n0_ n1_ n2_ n3_; clear hb hbox hg; have hcz5_0 : w4.cell? ⟨gb203, 0, none⟩ = some (.int .i64 a0_0) := (blk_cell BK203.out 0).trans rfl; have hcz5_1 : w4.cell? ⟨gb203, 1, none⟩ = some (.int .i64 a0_1) := (blk_cell BK203.out 1).trans rfl; have hcz5_2 : w4.cell? ⟨gb203, 2, none⟩ = some (.int .i64 a0_2) := (blk_cell BK203.out 2).trans rfl; have hcz5_3 : w4.cell? ⟨gb203, 3, none⟩ = some (.int .i64 a0_3) := (blk_cell BK203.out 3).trans rfl; have hcz5_4 : w4.cell? ⟨gb203, 4, none⟩ = some (.int .i64 a0_4) := (blk_cell BK203.out 4).trans rfl; have hfz5_0 := blk_frozen BK203.out 0; have hfz5_1 := blk_frozen BK203.out 1; have hfz5_2 := blk_frozen BK203.out 2; have hfz5_3 := blk_frozen BK203.out 3; have hfz5_4 := blk_frozen BK203.out 4))
    repeat (go_quiet (first | ((with_reducible refine gate_dst (N := 2) rfl ?_); refine box_event ?hg (N := 2) ?hd (cs := #[.int .i64 a0_0, .int .i64 a0_1, .int .i64 a0_2, .int .i64 a0_3, .int .i64 a0_4]) (t := 28) ?hr ?_; (case hd => rfl); (case hg => rfl); (case hr => first | (go_simp; done) | (go_simp; rfl)); intro gb203 hg w4 hbox hb; have n0_ := Aside0.mk (below_step (by repeat (first | (with_reducible first | exact HB.out | apply below_alloc | apply pw_below_drewN | apply below_drew1) | exact HB.out)) hb); have n1_ := Aside0.mk (hbox); have n2_ := Aside0.mk ((by rw [hg]; exact (below_size (by repeat (first | (with_reducible first | exact HB.out | apply below_alloc | apply pw_below_drewN | apply below_drew1) | exact HB.out))) : w.heap.size ≤ gb203)); have n3_ := Aside0.mk ((by rw [hg]; exact (below_size (by repeat (first | (with_reducible first | exact HB.out | apply below_alloc | apply pw_below_drewN | apply below_drew1) | exact HB.out))) : w.heap.size ≤ gb203)); clear HB; have HB := n0_; have BK203 := n1_; have GW203 := n2_; have GE203 := n3_; clear n0_ n1_ n2_ n3_; clear hb hbox hg; have hcz5_0 : w4.cell? ⟨gb203, 0, none⟩ = some (.int .i64 a0_0) := (blk_cell BK203.out 0).trans rfl; have hcz5_1 : w4.cell? ⟨gb203, 1, none⟩ = some (.int .i64 a0_1) := (blk_cell BK203.out 1).trans rfl; have hcz5_2 : w4.cell? ⟨gb203, 2, none⟩ = some (.int .i64 a0_2) := (blk_cell BK203.out 2).trans rfl; have hcz5_3 : w4.cell? ⟨gb203, 3, none⟩ = some (.int .i64 a0_3) := (blk_cell BK203.out 3).trans rfl; have hcz5_4 : w4.cell? ⟨gb203, 4, none⟩ = some (.int .i64 a0_4) := (blk_cell BK203.out 4).trans rfl; have hfz5_0 := blk_frozen BK203.out 0; have hfz5_1 := blk_frozen BK203.out 1; have hfz5_2 := blk_frozen BK203.out 2; have hfz5_3 := blk_frozen BK203.out 3; have hfz5_4 := blk_frozen BK203.out 4)); try go_wp2_with (first | ((with_reducible refine gate_dst (N := 2) rfl ?_); refine box_event ?hg (N := 2) ?hd (cs := #[.int .i64 a0_0, .int .i64 a0_1, .int .i64 a0_2, .int .i64 a0_3, .int .i64 a0_4]) (t := 28) ?hr ?_; (case hd => rfl); (case hg => rfl); (case hr => first | (go_simp; done) | (go_simp; rfl)); intro gb203 hg w4 hbox hb; have n0_ := Aside0.mk (below_step (by repeat (first | (with_reducible first | exact HB.out | apply below_alloc | apply pw_below_drewN | apply below_drew1) | exact HB.out)) hb); have n1_ := Aside0.mk (hbox); have n2_ := Aside0.mk ((by rw [hg]; exact (below_size (by repeat (first | (with_reducible first | exact HB.out | apply below_alloc | apply pw_below_drewN | apply below_drew1) | exact HB.out))) : w.heap.size ≤ gb203)); have n3_ := Aside0.mk ((by rw [hg]; exact (below_size (by repeat (first | (with_reducible first | exact HB.out | apply below_alloc | apply pw_below_drewN | apply below_drew1) | exact HB.out))) : w.heap.size ≤ gb203)); clear HB; have HB := n0_; have BK203 := n1_; have GW203 := n2_; have GE203 := n3_; clear n0_ n1_ n2_ n3_; clear hb hbox hg; have hcz5_0 : w4.cell? ⟨gb203, 0, none⟩ = some (.int .i64 a0_0) := (blk_cell BK203.out 0).trans rfl; have hcz5_1 : w4.cell? ⟨gb203, 1, none⟩ = some (.int .i64 a0_1) := (blk_cell BK203.out 1).trans rfl; have hcz5_2 : w4.cell? ⟨gb203, 2, none⟩ = some (.int .i64 a0_2) := (blk_cell BK203.out 2).trans rfl; have hcz5_3 : w4.cell? ⟨gb203, 3, none⟩ = some (.int .i64 a0_3) := (blk_cell BK203.out 3).trans rfl; have hcz5_4 : w4.cell? ⟨gb203, 4, none⟩ = some (.int .i64 a0_4) := (blk_cell BK203.out 4).trans rfl; have hfz5_0 := blk_frozen BK203.out 0; have hfz5_1 := blk_frozen BK203.out 1; have hfz5_2 := blk_frozen BK203.out 2; have hfz5_3 := blk_frozen BK203.out 3; have hfz5_4 := blk_frozen BK203.out 4)))
    go_ret
    exact ⟨by first | rfl | (simp [errW_none, errW_some] <;> rfl) | (simp [*, errW_none, errW_some] <;> rfl), by repeat (first | (with_reducible first | exact HB.out | apply below_alloc | apply pw_below_drewN | apply below_drew1 | refine below_set ?_ GE203.out) | exact HB.out)⟩
  · rw [if_neg c3] at H
    have c3b0 : decide (a1 < a0_2) = false := decide_eq_false c3
    clear c3
    by_cases c6 : a0_3 = 0
    · rw [if_pos c6] at H
      exact absurd H (by simp)
    · rw [if_neg c6] at H
      have c6b0 : (a0_3 == 0) = false := beq_eq_false_iff_ne.mpr c6
      have c6b1 : (a0_3 != 0) = true := bne_iff_ne.mpr c6
      obtain rfl := Option.some.inj H
      go_enter Try.func106, Try.ntmps106
      go_wp2_with (first | ((with_reducible refine gate_dst (N := 2) rfl ?_); refine box_event ?hg (N := 2) ?hd (cs := #[.int .i64 a0_0, .int .i64 a0_1, .int .i64 a0_2, .int .i64 a0_3, .int .i64 a0_4]) (t := 28) ?hr ?_; (case hd => rfl); (case hg => rfl); (case hr => first | (go_simp; done) | (go_simp; rfl)); intro gb203 hg w7 hbox hb; have n0_ := Aside0.mk (below_step (by repeat (first | (with_reducible first | exact HB.out | apply below_alloc | apply pw_below_drewN | apply below_drew1) | exact HB.out)) hb); have n1_ := Aside0.mk (hbox); have n2_ := Aside0.mk ((by rw [hg]; exact (below_size (by repeat (first | (with_reducible first | exact HB.out | apply below_alloc | apply pw_below_drewN | apply below_drew1) | exact HB.out))) : w.heap.size ≤ gb203)); have n3_ := Aside0.mk ((by rw [hg]; exact (below_size (by repeat (first | (with_reducible first | exact HB.out | apply below_alloc | apply pw_below_drewN | apply below_drew1) | exact HB.out))) : w.heap.size ≤ gb203)); clear HB; have HB := n0_; have BK203 := n1_; have GW203 := n2_; have GE203 := n3_; clear n0_ n1_ n2_ n3_; clear hb hbox hg; have hcz8_0 : w7.cell? ⟨gb203, 0, none⟩ = some (.int .i64 a0_0) := (blk_cell BK203.out 0).trans rfl; have hcz8_1 : w7.cell? ⟨gb203, 1, none⟩ = some (.int .i64 a0_1) := (blk_cell BK203.out 1).trans rfl; have hcz8_2 : w7.cell? ⟨gb203, 2, none⟩ = some (.int .i64 a0_2) := (blk_cell BK203.out 2).trans rfl; have hcz8_3 : w7.cell? ⟨gb203, 3, none⟩ = some (.int .i64 a0_3) := (blk_cell BK203.out 3).trans rfl; have hcz8_4 : w7.cell? ⟨gb203, 4, none⟩ = some (.int .i64 a0_4) := (blk_cell BK203.out 4).trans rfl; have hfz8_0 := blk_frozen BK203.out 0; have hfz8_1 := blk_frozen BK203.out 1; have hfz8_2 := blk_frozen BK203.out 2; have hfz8_3 := blk_frozen BK203.out 3; have hfz8_4 := blk_frozen BK203.out 4))
      repeat (go_quiet (first | ((with_reducible refine gate_dst (N := 2) rfl ?_); refine box_event ?hg (N := 2) ?hd (cs := #[.int .i64 a0_0, .int .i64 a0_1, .int .i64 a0_2, .int .i64 a0_3, .int .i64 a0_4]) (t := 28) ?hr ?_; (case hd => rfl); (case hg => rfl); (case hr => first | (go_simp; done) | (go_simp; rfl)); intro gb203 hg w7 hbox hb; have n0_ := Aside0.mk (below_step (by repeat (first | (with_reducible first | exact HB.out | apply below_alloc | apply pw_below_drewN | apply below_drew1) | exact HB.out)) hb); have n1_ := Aside0.mk (hbox); have n2_ := Aside0.mk ((by rw [hg]; exact (below_size (by repeat (first | (with_reducible first | exact HB.out | apply below_alloc | apply pw_below_drewN | apply below_drew1) | exact HB.out))) : w.heap.size ≤ gb203)); have n3_ := Aside0.mk ((by rw [hg]; exact (below_size (by repeat (first | (with_reducible first | exact HB.out | apply below_alloc | apply pw_below_drewN | apply below_drew1) | exact HB.out))) : w.heap.size ≤ gb203)); clear HB; have HB := n0_; have BK203 := n1_; have GW203 := n2_; have GE203 := n3_; clear n0_ n1_ n2_ n3_; clear hb hbox hg; have hcz8_0 : w7.cell? ⟨gb203, 0, none⟩ = some (.int .i64 a0_0) := (blk_cell BK203.out 0).trans rfl; have hcz8_1 : w7.cell? ⟨gb203, 1, none⟩ = some (.int .i64 a0_1) := (blk_cell BK203.out 1).trans rfl; have hcz8_2 : w7.cell? ⟨gb203, 2, none⟩ = some (.int .i64 a0_2) := (blk_cell BK203.out 2).trans rfl; have hcz8_3 : w7.cell? ⟨gb203, 3, none⟩ = some (.int .i64 a0_3) := (blk_cell BK203.out 3).trans rfl; have hcz8_4 : w7.cell? ⟨gb203, 4, none⟩ = some (.int .i64 a0_4) := (blk_cell BK203.out 4).trans rfl; have hfz8_0 := blk_frozen BK203.out 0; have hfz8_1 := blk_frozen BK203.out 1; have hfz8_2 := blk_frozen BK203.out 2; have hfz8_3 := blk_frozen BK203.out 3; have hfz8_4 := blk_frozen BK203.out 4)); try go_wp2_with (first | ((with_reducible refine gate_dst (N := 2) rfl ?_); refine box_event ?hg (N := 2) ?hd (cs := #[.int .i64 a0_0, .int .i64 a0_1, .int .i64 a0_2, .int .i64 a0_3, .int .i64 a0_4]) (t := 28) ?hr ?_; (case hd => rfl); (case hg => rfl); (case hr => first | (go_simp; done) | (go_simp; rfl)); intro gb203 hg w7 hbox hb; have n0_ := Aside0.mk (below_step (by repeat (first | (with_reducible first | exact HB.out | apply below_alloc | apply pw_below_drewN | apply below_drew1) | exact HB.out)) hb); have n1_ := Aside0.mk (hbox); have n2_ := Aside0.mk ((by rw [hg]; exact (below_size (by repeat (first | (with_reducible first | exact HB.out | apply below_alloc | apply pw_below_drewN | apply below_drew1) | exact HB.out))) : w.heap.size ≤ gb203)); have n3_ := Aside0.mk ((by rw [hg]; exact (below_size (by repeat (first | (with_reducible first | exact HB.out | apply below_alloc | apply pw_below_drewN | apply below_drew1) | exact HB.out))) : w.heap.size ≤ gb203)); clear HB; have HB := n0_; have BK203 := n1_; have GW203 := n2_; have GE203 := n3_; clear n0_ n1_ n2_ n3_; clear hb hbox hg; have hcz8_0 : w7.cell? ⟨gb203, 0, none⟩ = some (.int .i64 a0_0) := (blk_cell BK203.out 0).trans rfl; have hcz8_1 : w7.cell? ⟨gb203, 1, none⟩ = some (.int .i64 a0_1) := (blk_cell BK203.out 1).trans rfl; have hcz8_2 : w7.cell? ⟨gb203, 2, none⟩ = some (.int .i64 a0_2) := (blk_cell BK203.out 2).trans rfl; have hcz8_3 : w7.cell? ⟨gb203, 3, none⟩ = some (.int .i64 a0_3) := (blk_cell BK203.out 3).trans rfl; have hcz8_4 : w7.cell? ⟨gb203, 4, none⟩ = some (.int .i64 a0_4) := (blk_cell BK203.out 4).trans rfl; have hfz8_0 := blk_frozen BK203.out 0; have hfz8_1 := blk_frozen BK203.out 1; have hfz8_2 := blk_frozen BK203.out 2; have hfz8_3 := blk_frozen BK203.out 3; have hfz8_4 := blk_frozen BK203.out 4)))
      go_ret
      exact ⟨by first | rfl | (simp [errW_none, errW_some] <;> rfl) | (simp [*, errW_none, errW_some] <;> rfl), by repeat (first | (with_reducible first | exact HB.out | apply below_alloc | apply pw_below_drewN | apply below_drew1 | refine below_set ?_ GE203.out) | exact HB.out)⟩

end Go.Proofs.Ytmgmpifbhjoijaa.PProbeTells
