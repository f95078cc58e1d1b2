-- Made by px.py (a program of this session, over the kit's printer) out of the translation. Not trusted: Lean checks it.
import Derived.Test.YtmgmpifbhjoijaaPProbeMorex0
import Derived.Test.YtmgmpifbhjoijaaPProbeMorex4
import Derived.Test.YtmgmpifbhjoijaaPProbeMorex5
namespace Go.Proofs.Ytmgmpifbhjoijaa.PProbeMore
open Go.RowKit Go.Proofs.YtmgmpifbhjoijaaW.PrintWords Go.Proofs.YtmgmpifbhjoijaaW.PrintLast Go.Proofs.YtmgmpifbhjoijaaW.PrintMore
attribute [local go_sem] max2_int min2_int max_two min_two max_three min_three max_four min_four   -- for this text's walks alone
set_option linter.unusedVariables false
set_option linter.unusedSimpArgs false

/-! ### probe_LeastT: function 27 (by hand) -/
-- probe_may probe_fits slices_Clone_api_Task
/-- The least T, one by one down from it. -/
def leastTGo (k : Nat) (l : List S28) (i : Nat) (x : S28) : Nat → Int → Option Int
  | 0, _ => none
  | j + 1, n => if n > x.f2 then (probe_fits.f k (l.set i (chT x n))).bind fun b => if b = true then leastTGo k l i x j (wrap64 (n - 1)) else some n else some n
theorem leastTGo_mono (k : Nat) (l : List S28) (i : Nat) (x : S28) : ∀ j n, LeO (leastTGo k l i x j n) (leastTGo (k + 1) l i x (j + 1) n)
  | 0, n => fun r h => by simp [leastTGo] at h
  | j + 1, n => by
    unfold leastTGo
    exact LeO.ite (LeO.bind (probe_fits.mono _ k) (fun b => LeO.ite (leastTGo_mono k l i x j _) (LeO.refl _))) (LeO.refl _)
def probe_LeastT.f (k : Nat) (l0 : List S28) (a1 : Int) : Option Int := (probe_may.f k l0 a1).bind fun b => if b = true then (if l0.length < 3518437208883 then leastTGo k l0 a1.toNat (rd_T28 l0 a1) k (rd_T28 l0 a1).f3 else none) else some 0
theorem probe_LeastT.mono : ∀ a0 a1 k, LeO (probe_LeastT.f k a0 a1) (probe_LeastT.f (k + 1) a0 a1) := by
  intro a0 a1 k
  unfold probe_LeastT.f
  exact LeO.bind (probe_may.mono _ _ k) (fun b => LeO.ite (LeO.ite (leastTGo_mono k _ _ _ k _) (LeO.refl _)) (LeO.refl _))
def leastT.T4 : Bool × List (List Nat × List Nat) := (true, [([], []), ([], []), ([], []), ([1, 2], [1, 2]), ([3], [3]), ([4], [4]), ([0, 5], [0, 5])])
def leastT.B4 : List Nat := [0, 0, 0, 6, 14, 30, 63]
theorem leastT.tab4 : rtab .any (opsOf Try.f27 4) = leastT.T4 := by kernel_rfl
theorem leastT.bits4 : waitsOk leastT.T4.2 leastT.B4 = true := by kernel_rfl
set_option maxHeartbeats 8000000 in
set_option maxRecDepth 100000 in
theorem probe_LeastT.calls (k : Nat) (A0 : Option Addr) (c0 : Nat) (l0 : List S28) (a1 : Int) (r : Int) (w : World) (hr0 : Kd.C k28 w A0 l0.length l0) (hc0 : l0.length ≤ c0) (h : probe_LeastT.f k l0 a1 = some r) :
    Calls Try.prog 27 #[.slice A0 l0.length c0, .int .i64 a1] w fun e w' => e = .returned (.int .i64 r) ∧ Below w.heap.size w w' := by
  unfold probe_LeastT.f at h
  obtain ⟨b, hb, h1⟩ := Option.bind_eq_some_iff.mp h
  have HMY := Lib.hid hb
  have HR0 := Lib.hid hr0
  have HC0 := Lib.hid hc0
  cases b with
  | false =>
    rw [if_neg (by decide)] at h1
    obtain rfl := Option.some.inj h1
    clear h h1 hb hr0 hc0
    go_enter Try.func27, Try.ntmps27
    go_wp2
    go_step3
    go_wp2_with (go_at_call 45; refine (probe_may.calls k A0 c0 l0 a1 false _ HR0.out HC0.out HMY.out).mono ?_; rintro e w1 ⟨rfl, q1⟩; have HB1 := Lib.hid q1; clear q1)
    try rw [Exit.noGoto_ret]
    go_ret
    exact ⟨rfl, HB1.out⟩
  | true =>
    rw [if_pos rfl] at h1
    have hmy := hb
    unfold probe_may.f at hmy
    by_cases p0 : a1 ≥ 0
    case neg => rw [if_neg p0] at hmy; cases hmy
    rw [if_pos p0] at hmy
    by_cases p1 : a1 < (l0.length : Int)
    case neg => rw [if_neg p1] at hmy; cases hmy
    obtain ⟨i, rfl⟩ := Int.eq_ofNat_of_zero_le p0
    by_cases hl : l0.length < 3518437208883
    case neg => rw [if_neg hl] at h1; cases h1
    rw [if_pos hl, Int.toNat_natCast] at h1
    obtain ⟨x, hxe⟩ : ∃ x, rd_T28 l0 (i : Int) = x := ⟨_, rfl⟩
    rw [hxe] at h1
    have hx : l0[i]? = some x := by
      rw [List.getElem?_eq_getElem (show i < l0.length by omega), ← hxe]
      unfold rd_T28
      rw [Int.toNat_natCast, List.getD_eq_getElem?_getD, List.getElem?_eq_getElem (show i < l0.length by omega)]; rfl
    have HF := Lib.hid h1
    have HXX := Lib.hid hx
    have HLN := Lib.hid hl
    have i0 : (0 : Int) ≤ (i : Int) := by omega
    have i1 : (i : Int) < (l0.length : Int) := by omega
    obtain ⟨ad, e0, x0, x1, x2, x3, x4⟩ := at_T28 hr0 (i : Int) i0 i1
    cases e0
    rw [hxe] at x0 x1 x2 x3 x4
    simp only [Int.toNat_natCast] at x0 x1 x2 x3 x4
    have HX2 := Lib.hid x2
    have HX3 := Lib.hid x3
    clear h h1 hb hmy hr0 hc0 hx hxe hl p0 p1 x0 x1 x2 x3 x4
    go_enter Try.func27, Try.ntmps27
    go_wp2
    go_step3
    go_wp2_with (go_at_call 45; refine (probe_may.calls k (some ad) c0 l0 (i : Int) true _ HR0.out HC0.out HMY.out).mono ?_; rintro e w1 ⟨rfl, q1⟩; have HB := Lib.hid q1; have HBS := Lib.hid q1.size; have c3 := (q1.cell (World.block_lt_of_cell? w _ HX3.out)).trans HX3.out; clear q1)
    go_step3
    go_wp2
    clear c3
    have HT := Lib.hid (heap_alloc_new w1 (.cells #[.int .i64 x.f3] 2))
    replace HB := Lib.hid (below_alloc HB.out (.cells #[.int .i64 x.f3] 2))
    obtain ⟨W2, hW2⟩ : ∃ W, w1.alloc (.cells #[.int .i64 x.f3] 2) = W := ⟨_, rfl⟩
    obtain ⟨bt, hbt⟩ : ∃ b, w1.heap.size = b := ⟨_, rfl⟩
    have HBT : Hid (w.heap.size ≤ bt) := by rw [← hbt]; exact HBS.out
    rw [hW2, hbt] at HT
    rw [hW2] at HB
    rw [hW2, hbt]
    clear hW2 hbt
    go_loopg [] (k + 1) (fun gk wr => ∃ (j : Nat) (n : Int), j < gk ∧ Hid (leastTGo k l0 i x j n = some r) ∧ Hid (wr.heap[bt]? = some (.cells #[.int .i64 n] 2 (0, 0))) ∧ Hid (Below w.heap.size w wr))
    case atStart => exact ⟨k, x.f3, by omega, HF, HT, HB⟩
    case round =>
      clear HF HT HB
      obtain ⟨j, n, hk, HF, HT, HB⟩ := hrel
      cases j with
      | zero => exact absurd HF.out (by simp [leastTGo])
      | succ j =>
        have hf := HF.out
        unfold leastTGo at hf
        by_cases c : n > x.f2
        · rw [if_pos c] at hf
          have cb : decide (n > x.f2) = true := decide_eq_true c
          obtain ⟨d, hd, hf2⟩ := Option.bind_eq_some_iff.mp hf
          have HD := Lib.hid hd
          have HF2 := Lib.hid hf2
          clear hf HF hd hf2
          go_wp2
          have cn : wr.drew.cell? ⟨bt, 0, none⟩ = some (.int .i64 n) := (blk_cell HT.out 0).trans rfl
          have cd : wr.drew.cell? ⟨(ad.add (i * 5)).block, (ad.add (i * 5)).off + 2, none⟩ = some (.int .i64 x.f2) := (HB.out.cell (World.block_lt_of_cell? w _ HX2.out)).trans HX2.out
          replace HT := Lib.hid (blk_drew HT.out)
          replace HB := Lib.hid (below_drew1 HB.out)
          refine start_ (n := 7) (S := fun w' => w'.cell? ⟨bt, 0, none⟩ = some (.int .i64 n) ∧ w'.cell? ⟨(ad.add (i * 5)).block, (ad.add (i * 5)).off + 2, none⟩ = some (.int .i64 x.f2)) (ds := []) #[false, false, false, false, false, false, false] (by kernel_rfl) rfl rfl ⟨cn, cd⟩ (fun hHeld => ?_); refine with_tabW leastT.tab4 leastT.bits4 (fun HT_ HW_ => ?_)
          generalize wr.drew = w5 at HT HB cn cd hHeld ⊢
          refine take_ (i := 0) (N := some 15) (v := ?_) (a' := ?_) #[true, false, false, false, false, false, false] rfl rfl (take_ofW HT_.out HW_.out (by kernel_rfl)) (fun _ _ _ h => h) (Or.inl ⟨by rfl, ?_⟩) hHeld ?_ ?_
          rotate_left
          · rintro w' ⟨s0, s1⟩
            go_simp
            with_reducible rfl
          rotate_left
          · simp only [Act.put, List.setIfInBounds_toArray, List.set_cons_zero, List.set_cons_succ, i64_w, i32_w]
            rfl
          refine pure_ (i := 1) (N := some 16) (v := ?_) (a' := ?_) #[true, true, false, false, false, false, false] rfl rfl (any_of HT_.out (by kernel_rfl)) (fun _ _ _ h => h) (Or.inl ⟨by rfl, ?_⟩) ?_ ?_
          rotate_left
          · intro w'
            go_simp
            with_reducible rfl
          rotate_left
          · simp only [Act.put, List.setIfInBounds_toArray, List.set_cons_zero, List.set_cons_succ, i64_w, i32_w]
            rfl
          refine pure_ (i := 2) (N := some 17) (v := ?_) (a' := ?_) #[true, true, true, false, false, false, false] rfl rfl (any_of HT_.out (by kernel_rfl)) (fun _ _ _ h => h) (Or.inl ⟨by rfl, ?_⟩) ?_ ?_
          rotate_left
          · intro w'
            go_simp
            with_reducible rfl
          rotate_left
          · simp only [Act.put, List.setIfInBounds_toArray, List.set_cons_zero, List.set_cons_succ, i64_w, i32_w]
            rfl
          refine pure_ (i := 3) (N := some 18) (v := ?_) (a' := ?_) #[true, true, true, true, false, false, false] rfl rfl (any_of HT_.out (by kernel_rfl)) (fun _ _ _ h => h) (Or.inl ⟨by rfl, ?_⟩) ?_ ?_
          rotate_left
          · intro w'
            go_simp
            with_reducible rfl
          rotate_left
          · simp only [Act.put, List.setIfInBounds_toArray, List.set_cons_zero, List.set_cons_succ, i64_w, i32_w]
            rfl
          refine pure_ (i := 4) (N := some 19) (v := ?_) (a' := ?_) #[true, true, true, true, true, false, false] rfl rfl (any_of HT_.out (by kernel_rfl)) (fun _ _ _ h => h) (Or.inl ⟨by rfl, ?_⟩) ?_ ?_
          rotate_left
          · intro w'
            go_simp
            with_reducible rfl
          rotate_left
          · simp only [Act.put, List.setIfInBounds_toArray, List.set_cons_zero, List.set_cons_succ, i64_w, i32_w]
            rfl
          refine take_ (i := 5) (N := some 20) (v := ?_) (a' := ?_) #[true, true, true, true, true, true, false] rfl rfl (take_ofW HT_.out HW_.out (by kernel_rfl)) (fun _ _ _ h => h) (Or.inl ⟨by rfl, ?_⟩) hHeld ?_ ?_
          rotate_left
          · rintro w' ⟨s0, s1⟩
            go_simp
            with_reducible rfl
          rotate_left
          · simp only [Act.put, List.setIfInBounds_toArray, List.set_cons_zero, List.set_cons_succ, i64_w, i32_w]
            rfl
          refine pure_ (i := 6) (N := some 21) (v := ?_) (a' := ?_) #[true, true, true, true, true, true, true] rfl rfl (any_of HT_.out (by kernel_rfl)) (fun _ _ _ h => h) (Or.inl ⟨by rfl, ?_⟩) ?_ ?_
          rotate_left
          · intro w'
            go_simp
            with_reducible rfl
          rotate_left
          · simp only [Act.put, List.setIfInBounds_toArray, List.set_cons_zero, List.set_cons_succ, i64_w, i32_w]
            rfl
          refine done_ (done_of HT_.out (by kernel_rfl)) ?_
          clear hHeld
          cases d with
          | true =>
            go_wp2_with (go_at_call 48; refine (turnT.calls k (some ad) c0 l0 i bt n true _ (Kd.C_below HR0.out HB.out) HC0.out HLN.out x HXX.out HT.out HD.out).mono ?_; rintro e w6 ⟨rfl, q1⟩; replace HT := Lib.hid (blk_below HT.out q1); replace HB := Lib.hid (below_step HB.out q1); clear q1 cn cd; have cn := (blk_cell HT.out 0).trans rfl; have fn := blk_frozen HT.out 0)
            go_roundg (j + 1)
            case measure => omega
            case rel => exact ⟨j, wrap64 (n - 1), by omega, HF2, Lib.hid (blk_put HT.out 0 _ rfl), Lib.hid (HB.out.setCell (p := ⟨bt, 0, none⟩) HBT.out _)⟩
          | false =>
            have hr := Option.some.inj (show some n = some r from HF2.out)
            go_wp2_with (go_at_call 48; refine (turnT.calls k (some ad) c0 l0 i bt n false _ (Kd.C_below HR0.out HB.out) HC0.out HLN.out x HXX.out HT.out HD.out).mono ?_; rintro e w6 ⟨rfl, q1⟩; replace HT := Lib.hid (blk_below HT.out q1); replace HB := Lib.hid (below_step HB.out q1); clear q1 cn cd; have cn := (blk_cell HT.out 0).trans rfl)
            try rw [Exit.noGoto_ret]
            go_ret
            exact ⟨rfl, HB.out⟩
        · rw [if_neg c] at hf
          have cb : decide (n > x.f2) = false := decide_eq_false c
          obtain rfl := Option.some.inj hf
          clear hf HF
          go_wp2
          have cn : wr.drew.cell? ⟨bt, 0, none⟩ = some (.int .i64 n) := (blk_cell HT.out 0).trans rfl
          have cd : wr.drew.cell? ⟨(ad.add (i * 5)).block, (ad.add (i * 5)).off + 2, none⟩ = some (.int .i64 x.f2) := (HB.out.cell (World.block_lt_of_cell? w _ HX2.out)).trans HX2.out
          replace HT := Lib.hid (blk_drew HT.out)
          replace HB := Lib.hid (below_drew1 HB.out)
          refine start_ (n := 7) (S := fun w' => w'.cell? ⟨bt, 0, none⟩ = some (.int .i64 n) ∧ w'.cell? ⟨(ad.add (i * 5)).block, (ad.add (i * 5)).off + 2, none⟩ = some (.int .i64 x.f2)) (ds := []) #[false, false, false, false, false, false, false] (by kernel_rfl) rfl rfl ⟨cn, cd⟩ (fun hHeld => ?_); refine with_tabW leastT.tab4 leastT.bits4 (fun HT_ HW_ => ?_)
          generalize wr.drew = w5 at HT HB cn cd hHeld ⊢
          refine take_ (i := 0) (N := some 15) (v := ?_) (a' := ?_) #[true, false, false, false, false, false, false] rfl rfl (take_ofW HT_.out HW_.out (by kernel_rfl)) (fun _ _ _ h => h) (Or.inl ⟨by rfl, ?_⟩) hHeld ?_ ?_
          rotate_left
          · rintro w' ⟨s0, s1⟩
            go_simp
            with_reducible rfl
          rotate_left
          · simp only [Act.put, List.setIfInBounds_toArray, List.set_cons_zero, List.set_cons_succ, i64_w, i32_w]
            rfl
          refine pure_ (i := 1) (N := some 16) (v := ?_) (a' := ?_) #[true, true, false, false, false, false, false] rfl rfl (any_of HT_.out (by kernel_rfl)) (fun _ _ _ h => h) (Or.inl ⟨by rfl, ?_⟩) ?_ ?_
          rotate_left
          · intro w'
            go_simp
            with_reducible rfl
          rotate_left
          · simp only [Act.put, List.setIfInBounds_toArray, List.set_cons_zero, List.set_cons_succ, i64_w, i32_w]
            rfl
          refine pure_ (i := 2) (N := some 17) (v := ?_) (a' := ?_) #[true, true, true, false, false, false, false] rfl rfl (any_of HT_.out (by kernel_rfl)) (fun _ _ _ h => h) (Or.inl ⟨by rfl, ?_⟩) ?_ ?_
          rotate_left
          · intro w'
            go_simp
            with_reducible rfl
          rotate_left
          · simp only [Act.put, List.setIfInBounds_toArray, List.set_cons_zero, List.set_cons_succ, i64_w, i32_w]
            rfl
          refine pure_ (i := 3) (N := some 18) (v := ?_) (a' := ?_) #[true, true, true, true, false, false, false] rfl rfl (any_of HT_.out (by kernel_rfl)) (fun _ _ _ h => h) (Or.inl ⟨by rfl, ?_⟩) ?_ ?_
          rotate_left
          · intro w'
            go_simp
            with_reducible rfl
          rotate_left
          · simp only [Act.put, List.setIfInBounds_toArray, List.set_cons_zero, List.set_cons_succ, i64_w, i32_w]
            rfl
          refine pure_ (i := 4) (N := some 19) (v := ?_) (a' := ?_) #[true, true, true, true, true, false, false] rfl rfl (any_of HT_.out (by kernel_rfl)) (fun _ _ _ h => h) (Or.inl ⟨by rfl, ?_⟩) ?_ ?_
          rotate_left
          · intro w'
            go_simp
            with_reducible rfl
          rotate_left
          · simp only [Act.put, List.setIfInBounds_toArray, List.set_cons_zero, List.set_cons_succ, i64_w, i32_w]
            rfl
          refine take_ (i := 5) (N := some 20) (v := ?_) (a' := ?_) #[true, true, true, true, true, true, false] rfl rfl (take_ofW HT_.out HW_.out (by kernel_rfl)) (fun _ _ _ h => h) (Or.inl ⟨by rfl, ?_⟩) hHeld ?_ ?_
          rotate_left
          · rintro w' ⟨s0, s1⟩
            go_simp
            with_reducible rfl
          rotate_left
          · simp only [Act.put, List.setIfInBounds_toArray, List.set_cons_zero, List.set_cons_succ, i64_w, i32_w]
            rfl
          refine pure_ (i := 6) (N := some 21) (v := ?_) (a' := ?_) #[true, true, true, true, true, true, true] rfl rfl (any_of HT_.out (by kernel_rfl)) (fun _ _ _ h => h) (Or.inl ⟨by rfl, ?_⟩) ?_ ?_
          rotate_left
          · intro w'
            go_simp
            with_reducible rfl
          rotate_left
          · simp only [Act.put, List.setIfInBounds_toArray, List.set_cons_zero, List.set_cons_succ, i64_w, i32_w]
            rfl
          refine done_ (done_of HT_.out (by kernel_rfl)) ?_
          clear hHeld
          go_wp2
          try rw [Exit.noGoto_ret]
          go_ret
          exact ⟨rfl, HB.out⟩

end Go.Proofs.Ytmgmpifbhjoijaa.PProbeMore
