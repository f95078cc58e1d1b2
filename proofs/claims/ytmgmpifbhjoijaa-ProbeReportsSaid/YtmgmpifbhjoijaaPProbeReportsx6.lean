-- Made by px.py (a program of this session, over the kit's printer) out of the translation. Not trusted: Lean checks it.
import Derived.Test.YtmgmpifbhjoijaaPProbeReportsx0
import Derived.Test.YtmgmpifbhjoijaaPProbeReportsx5
namespace Go.Proofs.Ytmgmpifbhjoijaa.PProbeReports
open Go.RowKit Go.Proofs.YtmgmpifbhjoijaaW.PrintWords Go.Proofs.YtmgmpifbhjoijaaW.PrintLast Go.Proofs.YtmgmpifbhjoijaaW.PrintMore
attribute [local go_sem] max2_int min2_int max_two min_two max_three min_three max_four min_four   -- for this text's walks alone
set_option linter.unusedVariables false
set_option linter.unusedSimpArgs false

/-! ### probe_MostC: function 20 (by hand) -/
def setC.T0 : Bool × List (List Nat × List Nat) := (true, [([], []), ([], []), ([1], [1]), ([2], [2]), ([3], [3]), ([], []), ([4, 5], [4, 5]), ([0, 0, 1, 2, 3, 4, 5, 6], [0]), ([7, 0, 1, 2, 3, 4, 5, 6], [7]), ([8, 6, 0, 1, 2, 3, 4, 5, 6], [6, 8])])
def setC.B0 : List Nat := [0, 0, 2, 6, 14, 0, 62, 127, 255, 511]
theorem setC.tab0 : rtab .any (opsOf Try.f49 0) = setC.T0 := by kernel_rfl
theorem setC.bits0 : waitsOk setC.T0.2 setC.B0 = true := by kernel_rfl
/-- A task turned: its C, its D, its T. -/
def chC (t : S28) (n : Int) : S28 := ⟨t.f0, wrap64 (t.f2 - n), t.f2, t.f3, t.f4⟩
def chD (t : S28) (n : Int) : S28 := ⟨t.f0, t.f1, n, t.f3, t.f4⟩
def chT (t : S28) (n : Int) : S28 := ⟨t.f0, t.f1, t.f2, wrap64 (n - 1), t.f4⟩
set_option maxHeartbeats 8000000 in
set_option maxRecDepth 100000 in
theorem setC.calls (b o g : Nat) (D n C : Int) (w : World) (hD : w.cell? ⟨b, o + 2, none⟩ = some (.int .i64 D)) (hC : w.cell? ⟨b, o + 1, none⟩ = some (.int .i64 C)) (hf : w.frozen? ⟨b, o + 1, none⟩ = false) (hn : w.cell? ⟨g, 0, none⟩ = some (.int .i64 n)) :
  Calls Try.prog 49 #[.pointer (some ⟨b, o, none⟩), .pointer (some ⟨g, 0, none⟩)] w fun e w' => e = .returned (.tuple #[]) ∧ ∃ w5, Below w.heap.size w w5 ∧ w' = w5.setCell ⟨b, o + 1, none⟩ (.int .i64 (wrap64 (D - n))) := by
 go_enter Try.func49, Try.ntmps49
 go_wp2
 replace hD : w.drew.cell? ⟨b, o + 2, none⟩ = some (.int .i64 D) := hD
 replace hn : w.drew.cell? ⟨g, 0, none⟩ = some (.int .i64 n) := hn
 replace hC : w.drew.cell? ⟨b, o + 1, none⟩ = some (.int .i64 C) := hC
 replace hf : w.drew.frozen? ⟨b, o + 1, none⟩ = false := hf
 have HQ : Hid (Below w.heap.size w w.drew) := Lib.hid (below_drew (Below.refl _ _))
 refine start_ (n := 10) (S := fun w' => w'.cell? ⟨b, o + 2, none⟩ = some (.int .i64 D) ∧ w'.cell? ⟨g, 0, none⟩ = some (.int .i64 n)) (ds := [9]) #[false, false, false, false, false, false, false, false, false, false] (by kernel_rfl) rfl rfl ⟨hD, hn⟩ (fun hHeld => ?_); refine with_tabW setC.tab0 setC.bits0 (fun HT_ HW_ => ?_)
 generalize w.drew = w5 at hD hn hC hf HQ hHeld ⊢
 refine pure_ (i := 0) (N := some 3) (v := ?_) (a' := ?_) #[true, false, false, false, false, false, false, false, false, false] rfl rfl (any_of HT_.out (by kernel_rfl)) (fun _ _ _ h => h) (Or.inl ⟨by rfl, ?_⟩) ?_ ?_
 rotate_left; (intro w'; go_simp; with_reducible rfl); rotate_left; (simp only [Act.put, List.setIfInBounds_toArray, List.set_cons_zero, List.set_cons_succ, i64_w, i32_w]; rfl)
 refine pure_ (i := 1) (N := some 4) (v := ?_) (a' := ?_) #[true, true, false, false, false, false, false, false, false, false] rfl rfl (any_of HT_.out (by kernel_rfl)) (fun _ _ _ h => h) (Or.inl ⟨by rfl, ?_⟩) ?_ ?_
 rotate_left; (intro w'; go_simp; with_reducible rfl); rotate_left; (simp only [Act.put, List.setIfInBounds_toArray, List.set_cons_zero, List.set_cons_succ, i64_w, i32_w]; rfl)
 refine pure_ (i := 2) (N := some 5) (v := ?_) (a' := ?_) #[true, true, true, false, false, false, false, false, false, false] rfl rfl (any_of HT_.out (by kernel_rfl)) (fun _ _ _ h => h) (Or.inl ⟨by rfl, ?_⟩) ?_ ?_
 rotate_left; (intro w'; go_simp; with_reducible rfl); rotate_left; (simp only [Act.put, List.setIfInBounds_toArray, List.set_cons_zero, List.set_cons_succ, i64_w, i32_w]; rfl)
 refine pure_ (i := 3) (N := some 6) (v := ?_) (a' := ?_) #[true, true, true, true, false, false, false, false, false, false] rfl rfl (any_of HT_.out (by kernel_rfl)) (fun _ _ _ h => h) (Or.inl ⟨by rfl, ?_⟩) ?_ ?_
 rotate_left; (intro w'; go_simp; with_reducible rfl); rotate_left; (simp only [Act.put, List.setIfInBounds_toArray, List.set_cons_zero, List.set_cons_succ, i64_w, i32_w]; rfl)
 refine take_ (i := 4) (N := some 7) (v := ?_) (a' := ?_) #[true, true, true, true, true, false, false, false, false, false] rfl rfl (take_ofW HT_.out HW_.out (by kernel_rfl)) (fun _ _ _ h => h) (Or.inl ⟨by rfl, ?_⟩) hHeld ?_ ?_
 rotate_left; (rintro w' ⟨s0, s1⟩; go_simp; with_reducible rfl); rotate_left; (simp only [Act.put, List.setIfInBounds_toArray, List.set_cons_zero, List.set_cons_succ, i64_w, i32_w]; rfl)
 refine take_ (i := 5) (N := some 8) (v := ?_) (a' := ?_) #[true, true, true, true, true, true, false, false, false, false] rfl rfl (take_ofW HT_.out HW_.out (by kernel_rfl)) (fun _ _ _ h => h) (Or.inl ⟨by rfl, ?_⟩) hHeld ?_ ?_
 rotate_left; (rintro w' ⟨s0, s1⟩; go_simp; with_reducible rfl); rotate_left; (simp only [Act.put, List.setIfInBounds_toArray, List.set_cons_zero, List.set_cons_succ, i64_w, i32_w]; rfl)
 refine pure_ (i := 6) (N := some 9) (v := ?_) (a' := ?_) #[true, true, true, true, true, true, true, false, false, false] rfl rfl (any_of HT_.out (by kernel_rfl)) (fun _ _ _ h => h) (Or.inl ⟨by rfl, ?_⟩) ?_ ?_
 rotate_left; (intro w'; go_simp; with_reducible rfl); rotate_left; (simp only [Act.put, List.setIfInBounds_toArray, List.set_cons_zero, List.set_cons_succ, i64_w, i32_w]; rfl)
 refine pure_ (i := 7) (N := some 10) (v := ?_) (a' := ?_) #[true, true, true, true, true, true, true, true, false, false] rfl rfl (any_of HT_.out (by kernel_rfl)) (fun _ _ _ h => h) (Or.inl ⟨by rfl, ?_⟩) ?_ ?_
 rotate_left; (intro w'; go_simp; with_reducible rfl); rotate_left; (simp only [Act.put, List.setIfInBounds_toArray, List.set_cons_zero, List.set_cons_succ, i64_w, i32_w]; rfl)
 refine pure_ (i := 8) (N := some 11) (v := ?_) (a' := ?_) #[true, true, true, true, true, true, true, true, true, false] rfl rfl (any_of HT_.out (by kernel_rfl)) (fun _ _ _ h => h) (Or.inl ⟨by rfl, ?_⟩) ?_ ?_
 rotate_left; (intro w'; go_simp; with_reducible rfl); rotate_left; (simp only [Act.put, List.setIfInBounds_toArray, List.set_cons_zero, List.set_cons_succ, i64_w, i32_w]; rfl)
 refine last_ (i := 9) (N := none) #[true, true, true, true, true, true, true, true, true, true] rfl rfl (one_of HT_.out (by kernel_rfl)) (by decide) (fun K hK => ?_)
 refine skip_ (w1 := ?_) (by rfl) rfl ?_ ?_
 rotate_left
 ·go_simp
  rfl
 refine hK.out _ _ ?_
 clear hK K
 refine done_ (done_of HT_.out (by kernel_rfl)) ?_
 clear hHeld
 exact ⟨rfl, _, results_none rfl _ _ _, rfl, w5, HQ.out, rfl⟩
set_option maxHeartbeats 8000000 in
set_option maxRecDepth 100000 in
theorem setD.calls (b o g : Nat) (n C : Int) (w : World) (hC : w.cell? ⟨b, o + 2, none⟩ = some (.int .i64 C)) (hf : w.frozen? ⟨b, o + 2, none⟩ = false) (hn : w.cell? ⟨g, 0, none⟩ = some (.int .i64 n)) :
  Calls Try.prog 51 #[.pointer (some ⟨b, o, none⟩), .pointer (some ⟨g, 0, none⟩)] w fun e w' => e = .returned (.tuple #[]) ∧ w' = w.setCell ⟨b, o + 2, none⟩ (.int .i64 (n)) := by
 go_enter Try.func51, Try.ntmps51
 go_wp2
 exact ⟨rfl, _, results_none rfl _ _ _, rfl, rfl⟩
set_option maxHeartbeats 8000000 in
set_option maxRecDepth 100000 in
theorem setT.calls (b o g : Nat) (n C : Int) (w : World) (hC : w.cell? ⟨b, o + 3, none⟩ = some (.int .i64 C)) (hf : w.frozen? ⟨b, o + 3, none⟩ = false) (hn : w.cell? ⟨g, 0, none⟩ = some (.int .i64 n)) :
  Calls Try.prog 60 #[.pointer (some ⟨b, o, none⟩), .pointer (some ⟨g, 0, none⟩)] w fun e w' => e = .returned (.tuple #[]) ∧ w' = w.setCell ⟨b, o + 3, none⟩ (.int .i64 (wrap64 (n - 1))) := by
 go_enter Try.func60, Try.ntmps60
 go_wp2
 exact ⟨rfl, _, results_none rfl _ _ _, rfl, rfl⟩
set_option maxHeartbeats 8000000 in
set_option maxRecDepth 100000 in
theorem turnC.calls (k : Nat) (A0 : Option Addr) (c0 : Nat) (l0 : List S28) (i : Nat) (g : Nat) (n : Int) (r : Bool) (w : World) (hr0 : Kd.C k28 w A0 l0.length l0) (hc0 : l0.length ≤ c0) (hl : l0.length < 3518437208883) (x : S28) (hx : l0[i]? = some x) (hn : w.heap[g]? = some (.cells #[.int .i64 n] 2 (0, 0))) (h : probe_fits.f k (l0.set i (chC x n)) = some r) :
  Calls Try.prog 48 #[.slice A0 l0.length c0, .int .i64 (i : Int), .func (.func 49) #[] #[.pointer (some ⟨g, 0, none⟩)]] w fun e w' => e = .returned (.bool r) ∧ Below w.heap.size w w' := by
 have HR0 := Lib.hid hr0
 have HC0 := Lib.hid hc0
 have HN := Lib.hid hn
 have HF := Lib.hid h
 have HCL : Hid (slices_Clone_api_Task.f l0 = some l0) := Lib.hid (by unfold slices_Clone_api_Task.f; rw [if_pos hl])
 obtain ⟨hil, hxe⟩ := List.getElem?_eq_some_iff.1 hx
 have HXE : Hid (rd_T28 l0 (i : Int) = x) := Lib.hid (by unfold rd_T28; rw [Int.toNat_natCast, List.getD_eq_getElem?_getD, hx]; rfl)
 have i0 : (0 : Int) ≤ (i : Int) := by omega
 have i1 : (i : Int) < (l0.length : Int) := by omega
 have i2 : i < l0.length := hil
 clear hr0 hc0 hn h hl hx hxe hil
 go_enter Try.func48, Try.ntmps48
 go_wp2_with (first
  | (go_at_call 81; refine (slices_Clone_api_Task.calls A0 c0 l0 l0 w HR0.out HC0.out HCL.out).mono ?_; rintro e w1 ⟨v0, rfl, q0, q1⟩; obtain ⟨A1, c1, rfl⟩ := Kd.R_slice q0; obtain ⟨ad, e0, x0, x1, x2, x3, x4⟩ := at_T28 (Kd.R_reads' q0).2.2 (i : Int) i0 i1; cases e0; obtain ⟨bg, rfl⟩ := Kd.R_head q0; rw [HXE.out] at x0 x1 x2 x3 x4; have ea : (⟨bg, 0, none⟩ : Addr).add (i * 5) = ⟨bg, i * 5, none⟩ := (by rw [add_at, Nat.zero_add]); simp only [Int.toNat_natCast, ea] at x0 x1 x2 x3 x4; have hfr : w1.frozen? ⟨bg, i * 5 + 1, none⟩ = false := (by obtain ⟨_, _, _, _, q5⟩ := Kd.R_elem q0 x (i : Int) i0 i1; have := q5 1; simp only [Int.toNat_natCast] at this; exact this); have HQ0 := Lib.hid q0; have HB1 := Lib.hid q1; have HN1 := Lib.hid (blk_below HN.out q1); have hn1 := (blk_cell HN1.out 0).trans rfl; clear q0 q1)
  | (go_at_call 49; refine (setC.calls bg (i * 5) g x.f2 n x.f1 w1 x2 x1 hfr hn1).mono ?_; rintro e w2 ⟨rfl, w5, q5, rfl⟩))
 obtain ⟨hok, hbg, hbl, _⟩ := (Kd.R_bound HQ0.out).1 bg rfl
 have HQ5 := Kd.R_below HQ0.out q5
 have hcc : ∀ j u, ([.int .i64 x.f0, .int .i64 x.f1, .int .i64 x.f2, .int .i64 x.f3, .int .i64 x.f4] : List Value)[j]? = some u → w5.cell? ⟨bg, (i : Int).toNat * k28.sz + j, none⟩ = some u := by
  intro j u hu
  rw [Int.toNat_natCast, show k28.sz = 5 from rfl]
  match j, hu with
  | 0, hu => cases hu; exact (q5.cell (p := ⟨bg, i * 5, none⟩) hbl).trans x0
  | 1, hu => cases hu; exact (q5.cell (p := ⟨bg, i * 5 + 1, none⟩) hbl).trans x1
  | 2, hu => cases hu; exact (q5.cell (p := ⟨bg, i * 5 + 2, none⟩) hbl).trans x2
  | 3, hu => cases hu; exact (q5.cell (p := ⟨bg, i * 5 + 3, none⟩) hbl).trans x3
  | 4, hu => cases hu; exact (q5.cell (p := ⟨bg, i * 5 + 4, none⟩) hbl).trans x4
  | (j + 5), hu => exact absurd hu (by simp)
 obtain ⟨hR, hG⟩ := Kd.R_seg HQ5 (i : Int) i0 i1 (c := [.int .i64 x.f0, .int .i64 x.f1, .int .i64 x.f2, .int .i64 x.f3, .int .i64 x.f4]) (seg := [.int .i64 (wrap64 (x.f2 - n))]) (j := 1) (okp := fun _ => False) rfl hcc (show 1 + 1 ≤ 5 from by decide) (x' := chC x n) (k28_mkM _ _ _ (chC x n)) (fun _ hk => hk.elim)
 rw [Int.toNat_natCast, show k28.sz = 5 from rfl] at hR hG
 have HC2 := (Kd.R_reads' hR).2.2
 have HL2 := (Kd.R_reads' hR).2.1
 have HBE : Hid (Below w.heap.size w (w5.setCell ⟨bg, i * 5 + 1, none⟩ (.int .i64 (wrap64 (x.f2 - n))))) := Lib.hid ((below_step HB1.out q5).setCell (p := ⟨bg, i * 5 + 1, none⟩) hbg _)
 have HFC : Hid (Calls Try.prog 53 #[.slice (some ⟨bg, 0, none⟩) l0.length c1] (w5.setCell ⟨bg, i * 5 + 1, none⟩ (.int .i64 (wrap64 (x.f2 - n)))) fun e w' => e = .returned (.bool r) ∧ Below (w5.setCell ⟨bg, i * 5 + 1, none⟩ (.int .i64 (wrap64 (x.f2 - n)))).heap.size (w5.setCell ⟨bg, i * 5 + 1, none⟩ (.int .i64 (wrap64 (x.f2 - n)))) w') := Lib.hid (by
  have := probe_fits.calls k (some ⟨bg, 0, none⟩) c1 (l0.set i (chC x n)) r (w5.setCell ⟨bg, i * 5 + 1, none⟩ (.int .i64 (wrap64 (x.f2 - n)))) (by first | exact HC2 | (rw [List.length_set]; exact HC2)) (by first | exact HL2 | (rw [List.length_set]; exact HL2)) HF.out
  rw [List.length_set] at this
  exact this)
 clear hcc hR hG HC2 HL2 HQ5 x0 x1 x2 x3 x4 hfr hn1 ea hok hbg hbl q5
 go_wp2_with (go_at_call 53; refine HFC.out.mono ?_; rintro e w3 ⟨rfl, q1⟩; have HBF := Lib.hid (below_step HBE.out q1); clear q1)
 go_ret
 exact ⟨rfl, HBF.out⟩
set_option maxHeartbeats 8000000 in
set_option maxRecDepth 100000 in
theorem turnD.calls (k : Nat) (A0 : Option Addr) (c0 : Nat) (l0 : List S28) (i : Nat) (g : Nat) (n : Int) (r : Bool) (w : World) (hr0 : Kd.C k28 w A0 l0.length l0) (hc0 : l0.length ≤ c0) (hl : l0.length < 3518437208883) (x : S28) (hx : l0[i]? = some x) (hn : w.heap[g]? = some (.cells #[.int .i64 n] 2 (0, 0))) (h : probe_fits.f k (l0.set i (chD x n)) = some r) :
  Calls Try.prog 48 #[.slice A0 l0.length c0, .int .i64 (i : Int), .func (.func 51) #[] #[.pointer (some ⟨g, 0, none⟩)]] w fun e w' => e = .returned (.bool r) ∧ Below w.heap.size w w' := by
 have HR0 := Lib.hid hr0
 have HC0 := Lib.hid hc0
 have HN := Lib.hid hn
 have HF := Lib.hid h
 have HCL : Hid (slices_Clone_api_Task.f l0 = some l0) := Lib.hid (by unfold slices_Clone_api_Task.f; rw [if_pos hl])
 obtain ⟨hil, hxe⟩ := List.getElem?_eq_some_iff.1 hx
 have HXE : Hid (rd_T28 l0 (i : Int) = x) := Lib.hid (by unfold rd_T28; rw [Int.toNat_natCast, List.getD_eq_getElem?_getD, hx]; rfl)
 have i0 : (0 : Int) ≤ (i : Int) := by omega
 have i1 : (i : Int) < (l0.length : Int) := by omega
 have i2 : i < l0.length := hil
 clear hr0 hc0 hn h hl hx hxe hil
 go_enter Try.func48, Try.ntmps48
 go_wp2_with (first
  | (go_at_call 81; refine (slices_Clone_api_Task.calls A0 c0 l0 l0 w HR0.out HC0.out HCL.out).mono ?_; rintro e w1 ⟨v0, rfl, q0, q1⟩; obtain ⟨A1, c1, rfl⟩ := Kd.R_slice q0; obtain ⟨ad, e0, x0, x1, x2, x3, x4⟩ := at_T28 (Kd.R_reads' q0).2.2 (i : Int) i0 i1; cases e0; obtain ⟨bg, rfl⟩ := Kd.R_head q0; rw [HXE.out] at x0 x1 x2 x3 x4; have ea : (⟨bg, 0, none⟩ : Addr).add (i * 5) = ⟨bg, i * 5, none⟩ := (by rw [add_at, Nat.zero_add]); simp only [Int.toNat_natCast, ea] at x0 x1 x2 x3 x4; have hfr : w1.frozen? ⟨bg, i * 5 + 2, none⟩ = false := (by obtain ⟨_, _, _, _, q5⟩ := Kd.R_elem q0 x (i : Int) i0 i1; have := q5 2; simp only [Int.toNat_natCast] at this; exact this); have HQ0 := Lib.hid q0; have HB1 := Lib.hid q1; have HN1 := Lib.hid (blk_below HN.out q1); have hn1 := (blk_cell HN1.out 0).trans rfl; clear q0 q1)
  | (go_at_call 51; refine (setD.calls bg (i * 5) g n x.f2 w1 x2 hfr hn1).mono ?_; rintro e w2 ⟨rfl, rfl⟩))
 obtain ⟨hok, hbg, hbl, _⟩ := (Kd.R_bound HQ0.out).1 bg rfl
 have HQ5 := HQ0.out
 have hcc : ∀ j u, ([.int .i64 x.f0, .int .i64 x.f1, .int .i64 x.f2, .int .i64 x.f3, .int .i64 x.f4] : List Value)[j]? = some u → w1.cell? ⟨bg, (i : Int).toNat * k28.sz + j, none⟩ = some u := by
  intro j u hu
  rw [Int.toNat_natCast, show k28.sz = 5 from rfl]
  match j, hu with
  | 0, hu => cases hu; exact ((Below.refl w1.heap.size w1).cell (p := ⟨bg, i * 5, none⟩) hbl).trans x0
  | 1, hu => cases hu; exact ((Below.refl w1.heap.size w1).cell (p := ⟨bg, i * 5 + 1, none⟩) hbl).trans x1
  | 2, hu => cases hu; exact ((Below.refl w1.heap.size w1).cell (p := ⟨bg, i * 5 + 2, none⟩) hbl).trans x2
  | 3, hu => cases hu; exact ((Below.refl w1.heap.size w1).cell (p := ⟨bg, i * 5 + 3, none⟩) hbl).trans x3
  | 4, hu => cases hu; exact ((Below.refl w1.heap.size w1).cell (p := ⟨bg, i * 5 + 4, none⟩) hbl).trans x4
  | (j + 5), hu => exact absurd hu (by simp)
 obtain ⟨hR, hG⟩ := Kd.R_seg HQ5 (i : Int) i0 i1 (c := [.int .i64 x.f0, .int .i64 x.f1, .int .i64 x.f2, .int .i64 x.f3, .int .i64 x.f4]) (seg := [.int .i64 (n)]) (j := 2) (okp := fun _ => False) rfl hcc (show 2 + 1 ≤ 5 from by decide) (x' := chD x n) (k28_mkM _ _ _ (chD x n)) (fun _ hk => hk.elim)
 rw [Int.toNat_natCast, show k28.sz = 5 from rfl] at hR hG
 have HC2 := (Kd.R_reads' hR).2.2
 have HL2 := (Kd.R_reads' hR).2.1
 have HBE : Hid (Below w.heap.size w (w1.setCell ⟨bg, i * 5 + 2, none⟩ (.int .i64 (n)))) := Lib.hid (HB1.out.setCell (p := ⟨bg, i * 5 + 2, none⟩) hbg _)
 have HFC : Hid (Calls Try.prog 53 #[.slice (some ⟨bg, 0, none⟩) l0.length c1] (w1.setCell ⟨bg, i * 5 + 2, none⟩ (.int .i64 (n))) fun e w' => e = .returned (.bool r) ∧ Below (w1.setCell ⟨bg, i * 5 + 2, none⟩ (.int .i64 (n))).heap.size (w1.setCell ⟨bg, i * 5 + 2, none⟩ (.int .i64 (n))) w') := Lib.hid (by
  have := probe_fits.calls k (some ⟨bg, 0, none⟩) c1 (l0.set i (chD x n)) r (w1.setCell ⟨bg, i * 5 + 2, none⟩ (.int .i64 (n))) (by first | exact HC2 | (rw [List.length_set]; exact HC2)) (by first | exact HL2 | (rw [List.length_set]; exact HL2)) HF.out
  rw [List.length_set] at this
  exact this)
 clear hcc hR hG HC2 HL2 HQ5 x0 x1 x2 x3 x4 hfr hn1 ea hok hbg hbl
 go_wp2_with (go_at_call 53; refine HFC.out.mono ?_; rintro e w3 ⟨rfl, q1⟩; have HBF := Lib.hid (below_step HBE.out q1); clear q1)
 go_ret
 exact ⟨rfl, HBF.out⟩
set_option maxHeartbeats 8000000 in
set_option maxRecDepth 100000 in
theorem turnT.calls (k : Nat) (A0 : Option Addr) (c0 : Nat) (l0 : List S28) (i : Nat) (g : Nat) (n : Int) (r : Bool) (w : World) (hr0 : Kd.C k28 w A0 l0.length l0) (hc0 : l0.length ≤ c0) (hl : l0.length < 3518437208883) (x : S28) (hx : l0[i]? = some x) (hn : w.heap[g]? = some (.cells #[.int .i64 n] 2 (0, 0))) (h : probe_fits.f k (l0.set i (chT x n)) = some r) :
  Calls Try.prog 48 #[.slice A0 l0.length c0, .int .i64 (i : Int), .func (.func 60) #[] #[.pointer (some ⟨g, 0, none⟩)]] w fun e w' => e = .returned (.bool r) ∧ Below w.heap.size w w' := by
 have HR0 := Lib.hid hr0
 have HC0 := Lib.hid hc0
 have HN := Lib.hid hn
 have HF := Lib.hid h
 have HCL : Hid (slices_Clone_api_Task.f l0 = some l0) := Lib.hid (by unfold slices_Clone_api_Task.f; rw [if_pos hl])
 obtain ⟨hil, hxe⟩ := List.getElem?_eq_some_iff.1 hx
 have HXE : Hid (rd_T28 l0 (i : Int) = x) := Lib.hid (by unfold rd_T28; rw [Int.toNat_natCast, List.getD_eq_getElem?_getD, hx]; rfl)
 have i0 : (0 : Int) ≤ (i : Int) := by omega
 have i1 : (i : Int) < (l0.length : Int) := by omega
 have i2 : i < l0.length := hil
 clear hr0 hc0 hn h hl hx hxe hil
 go_enter Try.func48, Try.ntmps48
 go_wp2_with (first
  | (go_at_call 81; refine (slices_Clone_api_Task.calls A0 c0 l0 l0 w HR0.out HC0.out HCL.out).mono ?_; rintro e w1 ⟨v0, rfl, q0, q1⟩; obtain ⟨A1, c1, rfl⟩ := Kd.R_slice q0; obtain ⟨ad, e0, x0, x1, x2, x3, x4⟩ := at_T28 (Kd.R_reads' q0).2.2 (i : Int) i0 i1; cases e0; obtain ⟨bg, rfl⟩ := Kd.R_head q0; rw [HXE.out] at x0 x1 x2 x3 x4; have ea : (⟨bg, 0, none⟩ : Addr).add (i * 5) = ⟨bg, i * 5, none⟩ := (by rw [add_at, Nat.zero_add]); simp only [Int.toNat_natCast, ea] at x0 x1 x2 x3 x4; have hfr : w1.frozen? ⟨bg, i * 5 + 3, none⟩ = false := (by obtain ⟨_, _, _, _, q5⟩ := Kd.R_elem q0 x (i : Int) i0 i1; have := q5 3; simp only [Int.toNat_natCast] at this; exact this); have HQ0 := Lib.hid q0; have HB1 := Lib.hid q1; have HN1 := Lib.hid (blk_below HN.out q1); have hn1 := (blk_cell HN1.out 0).trans rfl; clear q0 q1)
  | (go_at_call 60; refine (setT.calls bg (i * 5) g n x.f3 w1 x3 hfr hn1).mono ?_; rintro e w2 ⟨rfl, rfl⟩))
 obtain ⟨hok, hbg, hbl, _⟩ := (Kd.R_bound HQ0.out).1 bg rfl
 have HQ5 := HQ0.out
 have hcc : ∀ j u, ([.int .i64 x.f0, .int .i64 x.f1, .int .i64 x.f2, .int .i64 x.f3, .int .i64 x.f4] : List Value)[j]? = some u → w1.cell? ⟨bg, (i : Int).toNat * k28.sz + j, none⟩ = some u := by
  intro j u hu
  rw [Int.toNat_natCast, show k28.sz = 5 from rfl]
  match j, hu with
  | 0, hu => cases hu; exact ((Below.refl w1.heap.size w1).cell (p := ⟨bg, i * 5, none⟩) hbl).trans x0
  | 1, hu => cases hu; exact ((Below.refl w1.heap.size w1).cell (p := ⟨bg, i * 5 + 1, none⟩) hbl).trans x1
  | 2, hu => cases hu; exact ((Below.refl w1.heap.size w1).cell (p := ⟨bg, i * 5 + 2, none⟩) hbl).trans x2
  | 3, hu => cases hu; exact ((Below.refl w1.heap.size w1).cell (p := ⟨bg, i * 5 + 3, none⟩) hbl).trans x3
  | 4, hu => cases hu; exact ((Below.refl w1.heap.size w1).cell (p := ⟨bg, i * 5 + 4, none⟩) hbl).trans x4
  | (j + 5), hu => exact absurd hu (by simp)
 obtain ⟨hR, hG⟩ := Kd.R_seg HQ5 (i : Int) i0 i1 (c := [.int .i64 x.f0, .int .i64 x.f1, .int .i64 x.f2, .int .i64 x.f3, .int .i64 x.f4]) (seg := [.int .i64 (wrap64 (n - 1))]) (j := 3) (okp := fun _ => False) rfl hcc (show 3 + 1 ≤ 5 from by decide) (x' := chT x n) (k28_mkM _ _ _ (chT x n)) (fun _ hk => hk.elim)
 rw [Int.toNat_natCast, show k28.sz = 5 from rfl] at hR hG
 have HC2 := (Kd.R_reads' hR).2.2
 have HL2 := (Kd.R_reads' hR).2.1
 have HBE : Hid (Below w.heap.size w (w1.setCell ⟨bg, i * 5 + 3, none⟩ (.int .i64 (wrap64 (n - 1))))) := Lib.hid (HB1.out.setCell (p := ⟨bg, i * 5 + 3, none⟩) hbg _)
 have HFC : Hid (Calls Try.prog 53 #[.slice (some ⟨bg, 0, none⟩) l0.length c1] (w1.setCell ⟨bg, i * 5 + 3, none⟩ (.int .i64 (wrap64 (n - 1)))) fun e w' => e = .returned (.bool r) ∧ Below (w1.setCell ⟨bg, i * 5 + 3, none⟩ (.int .i64 (wrap64 (n - 1)))).heap.size (w1.setCell ⟨bg, i * 5 + 3, none⟩ (.int .i64 (wrap64 (n - 1)))) w') := Lib.hid (by
  have := probe_fits.calls k (some ⟨bg, 0, none⟩) c1 (l0.set i (chT x n)) r (w1.setCell ⟨bg, i * 5 + 3, none⟩ (.int .i64 (wrap64 (n - 1)))) (by first | exact HC2 | (rw [List.length_set]; exact HC2)) (by first | exact HL2 | (rw [List.length_set]; exact HL2)) HF.out
  rw [List.length_set] at this
  exact this)
 clear hcc hR hG HC2 HL2 HQ5 x0 x1 x2 x3 x4 hfr hn1 ea hok hbg hbl
 go_wp2_with (go_at_call 53; refine HFC.out.mono ?_; rintro e w3 ⟨rfl, q1⟩; have HBF := Lib.hid (below_step HBE.out q1); clear q1)
 go_ret
 exact ⟨rfl, HBF.out⟩
/-- The first number that is so, by halves: each number is asked by q. -/
def firstO : Nat → (Int → Option Bool) → Int → Int → Option Int
 | 0, _, _, _ => none
 | k + 1, q, lo, hi => if lo ≥ hi then some hi else (q (wrap64 (lo + wrap64 (Int.tdiv (wrap64 (hi - lo)) 2)))).bind fun b => if b = true then firstO k q lo (wrap64 (lo + wrap64 (Int.tdiv (wrap64 (hi - lo)) 2))) else firstO k q (wrap64 (wrap64 (lo + wrap64 (Int.tdiv (wrap64 (hi - lo)) 2)) + 1)) hi
theorem firstO_mono {q q' : Int → Option Bool} (hq : ∀ n, LeO (q n) (q' n)) : ∀ k lo hi, LeO (firstO k q lo hi) (firstO (k + 1) q' lo hi)
 | 0, lo, hi => fun r h => by simp [firstO] at h
 | k + 1, lo, hi => by
  unfold firstO
  exact LeO.ite (LeO.refl _) (LeO.bind (hq _) (fun b => LeO.ite (firstO_mono hq k _ _) (firstO_mono hq k _ _)))
/-- A slice and a place, each in a variable. -/
structure BoxLI (W : World) (A0 : Option Addr) (c0 : Nat) (l0 : List S28) (i : Nat) (bl bi : Nat) : Prop where
 hl : W.heap[bl]? = some (.cells #[.slice A0 l0.length c0] 24 (0, 0))
 hi : W.heap[bi]? = some (.cells #[.int .i64 (i : Int)] 3 (0, 0))
 hr : Kd.C k28 W A0 l0.length l0
theorem BoxLI.below {W W' : World} {A0 : Option Addr} {c0 : Nat} {l0 : List S28} {i bl bi : Nat} (h : BoxLI W A0 c0 l0 i bl bi) (hb : Below W.heap.size W W') : BoxLI W' A0 c0 l0 i bl bi := ⟨blk_below h.hl hb, blk_below h.hi hb, Kd.C_below h.hr hb⟩
set_option maxHeartbeats 8000000 in
set_option maxRecDepth 100000 in
theorem oneC.calls (k : Nat) (A0 : Option Addr) (c0 : Nat) (l0 : List S28) (i bl bi : Nat) (n : Int) (r : Bool) (w : World) (hbx : BoxLI w A0 c0 l0 i bl bi) (hc0 : l0.length ≤ c0) (hl : l0.length < 3518437208883) (x : S28) (hx : l0[i]? = some x) (h : probe_fits.f k (l0.set i (chC x n)) = some r) :
  Calls Try.prog 47 #[.int .i64 n, .pointer (some ⟨bl, 0, none⟩), .pointer (some ⟨bi, 0, none⟩)] w fun e w' => e = .returned (.bool r) ∧ Below w.heap.size w w' := by
 have cl := (blk_cell hbx.hl 0).trans rfl
 have ci := (blk_cell hbx.hi 0).trans rfl
 have HT : Hid (∀ u : S28, l0[i]? = some u → u = x) := Lib.hid (fun u hu => Option.some.inj (hu.symm.trans hx))
 have HTU : Hid (Calls Try.prog 48 #[.slice A0 l0.length c0, .int .i64 (i : Int), .func (.func 49) #[] #[.pointer (some ⟨w.heap.size, 0, none⟩)]] (w.alloc (.cells #[.int .i64 n] 2)) fun e w' => e = .returned (.bool r) ∧ Below (w.alloc (.cells #[.int .i64 n] 2)).heap.size (w.alloc (.cells #[.int .i64 n] 2)) w') :=
  Lib.hid (turnC.calls k A0 c0 l0 i w.heap.size n r _ (Kd.C_alloc hbx.hr _) hc0 hl x hx (heap_alloc_new w _) h)
 have ll := blk_lt hbx.hl
 have li := blk_lt hbx.hi
 have m1 : ¬ bl = w.heap.size := by omega
 have m2 : ¬ w.heap.size = bl := by omega
 have m3 : ¬ bi = w.heap.size := by omega
 have m4 : ¬ w.heap.size = bi := by omega
 clear hbx hc0 hl hx h
 go_enter Try.func47, Try.ntmps47
 go_wp2_with (go_at_call 48; refine HTU.out.mono ?_; rintro e w3 ⟨rfl, q1⟩; have HBF := Lib.hid (below_step (below_alloc (Below.refl w.heap.size w) _) q1); clear q1)
 go_ret
 exact ⟨rfl, HBF.out⟩
set_option maxHeartbeats 8000000 in
set_option maxRecDepth 100000 in
theorem oneD.calls (k : Nat) (A0 : Option Addr) (c0 : Nat) (l0 : List S28) (i bl bi : Nat) (n : Int) (r : Bool) (w : World) (hbx : BoxLI w A0 c0 l0 i bl bi) (hc0 : l0.length ≤ c0) (hl : l0.length < 3518437208883) (x : S28) (hx : l0[i]? = some x) (h : probe_fits.f k (l0.set i (chD x n)) = some r) :
  Calls Try.prog 50 #[.int .i64 n, .pointer (some ⟨bl, 0, none⟩), .pointer (some ⟨bi, 0, none⟩)] w fun e w' => e = .returned (.bool r) ∧ Below w.heap.size w w' := by
 have cl := (blk_cell hbx.hl 0).trans rfl
 have ci := (blk_cell hbx.hi 0).trans rfl
 have HT : Hid (∀ u : S28, l0[i]? = some u → u = x) := Lib.hid (fun u hu => Option.some.inj (hu.symm.trans hx))
 have HTU : Hid (Calls Try.prog 48 #[.slice A0 l0.length c0, .int .i64 (i : Int), .func (.func 51) #[] #[.pointer (some ⟨w.heap.size, 0, none⟩)]] (w.alloc (.cells #[.int .i64 n] 2)) fun e w' => e = .returned (.bool r) ∧ Below (w.alloc (.cells #[.int .i64 n] 2)).heap.size (w.alloc (.cells #[.int .i64 n] 2)) w') :=
  Lib.hid (turnD.calls k A0 c0 l0 i w.heap.size n r _ (Kd.C_alloc hbx.hr _) hc0 hl x hx (heap_alloc_new w _) h)
 have ll := blk_lt hbx.hl
 have li := blk_lt hbx.hi
 have m1 : ¬ bl = w.heap.size := by omega
 have m2 : ¬ w.heap.size = bl := by omega
 have m3 : ¬ bi = w.heap.size := by omega
 have m4 : ¬ w.heap.size = bi := by omega
 clear hbx hc0 hl hx h
 go_enter Try.func50, Try.ntmps50
 go_wp2_with (go_at_call 48; refine HTU.out.mono ?_; rintro e w3 ⟨rfl, q1⟩; have HBF := Lib.hid (below_step (below_alloc (Below.refl w.heap.size w) _) q1); clear q1)
 go_ret
 exact ⟨rfl, HBF.out⟩
set_option maxHeartbeats 8000000 in
set_option maxRecDepth 100000 in
theorem firstC.calls (k j0 : Nat) (A0 : Option Addr) (c0 : Nat) (l0 : List S28) (i bl bi : Nat) (lo hi : Int) (r : Int) (w : World) (hbx : BoxLI w A0 c0 l0 i bl bi) (hc0 : l0.length ≤ c0) (hl : l0.length < 3518437208883) (x : S28) (hx : l0[i]? = some x) (h : firstO j0 (fun n => probe_fits.f k (l0.set i (chC x n))) lo hi = some r) :
  Calls Try.prog 46 #[.int .i64 lo, .int .i64 hi, .func (.func 47) #[] #[.pointer (some ⟨bl, 0, none⟩), .pointer (some ⟨bi, 0, none⟩)]] w fun e w' => e = .returned (.int .i64 r) ∧ Below w.heap.size w w' := by
 obtain ⟨q, hq⟩ : ∃ q : Int → Option Bool, (fun n => probe_fits.f k (l0.set i (chC x n))) = q := ⟨_, rfl⟩
 rw [hq] at h
 have HC : Hid (∀ (n : Int) (b : Bool) (W : World), BoxLI W A0 c0 l0 i bl bi → q n = some b → Calls Try.prog 47 #[.int .i64 n, .pointer (some ⟨bl, 0, none⟩), .pointer (some ⟨bi, 0, none⟩)] W fun e w' => e = .returned (.bool b) ∧ Below W.heap.size W w') := Lib.hid (fun n b W hb hn => oneC.calls k A0 c0 l0 i bl bi n b W hb hc0 hl x hx (by rw [← hq] at hn; exact hn))
 have HBX := Lib.hid hbx
 have HF := Lib.hid h
 have HB := Lib.hid (Below.refl w.heap.size w)
 clear hbx h hq hc0 hl hx
 go_enter Try.func46, Try.ntmps46
 go_wp2
 go_step3
 go_wp2
 go_step3
 go_wp2
 go_loopg [0, 1] (j0 + 1) (fun gk v0 v1 wr => ∃ (j : Nat) (a b : Int), v0 = .int .i64 a ∧ v1 = .int .i64 b ∧ j < gk ∧ Hid (firstO j q a b = some r) ∧ Hid (BoxLI wr A0 c0 l0 i bl bi) ∧ Hid (Below w.heap.size w wr))
 case atStart => exact ⟨j0, lo, hi, rfl, rfl, by omega, HF, HBX, HB⟩
 case round =>
  clear HF HBX HB
  obtain ⟨j, a, b, rfl, rfl, hk, HF, HBX, HB⟩ := hrel
  cases j with
  | zero => exact absurd HF.out (by simp [firstO])
  | succ j =>
   have hf := HF.out
   unfold firstO at hf
   by_cases c : a ≥ b
   ·rw [if_pos c] at hf
    have cb : decide (a ≥ b) = true := decide_eq_true c
    obtain rfl := Option.some.inj hf
    clear hf HF
    go_wp2
    try rw [Exit.noGoto_ret]
    go_ret
    exact ⟨rfl, HB.out⟩
   ·rw [if_neg c] at hf
    have cb : decide (a ≥ b) = false := decide_eq_false c
    obtain ⟨m, hm⟩ : ∃ m, wrap64 (a + wrap64 (Int.tdiv (wrap64 (b - a)) 2)) = m := ⟨_, rfl⟩
    rw [hm] at hf
    obtain ⟨d, hd, hf2⟩ := Option.bind_eq_some_iff.mp hf
    have HQ := Lib.hid hd
    have HF2 := Lib.hid hf2
    clear hf HF hd hf2
    cases d with
    | true =>
     go_wp2_with (go_at_call 47; refine (HC.out m true _ HBX.out HQ.out).mono ?_; rintro e w3 ⟨rfl, q1⟩; replace HBX := Lib.hid (HBX.out.below q1); replace HB := Lib.hid (below_step HB.out q1); clear q1)
     go_roundg (j + 1)
     case measure => omega
     case rel => exact ⟨j, a, m, by first | rfl | rw [hm], by first | rfl | rw [hm], by omega, HF2, HBX, HB⟩
    | false =>
     go_wp2_with (go_at_call 47; refine (HC.out m false _ HBX.out HQ.out).mono ?_; rintro e w3 ⟨rfl, q1⟩; replace HBX := Lib.hid (HBX.out.below q1); replace HB := Lib.hid (below_step HB.out q1); clear q1)
     go_roundg (j + 1)
     case measure => omega
     case rel => exact ⟨j, wrap64 (m + 1), b, by first | rfl | rw [hm], by first | rfl | rw [hm], by omega, HF2, HBX, HB⟩
set_option maxHeartbeats 8000000 in
set_option maxRecDepth 100000 in
theorem firstD.calls (k j0 : Nat) (A0 : Option Addr) (c0 : Nat) (l0 : List S28) (i bl bi : Nat) (lo hi : Int) (r : Int) (w : World) (hbx : BoxLI w A0 c0 l0 i bl bi) (hc0 : l0.length ≤ c0) (hl : l0.length < 3518437208883) (x : S28) (hx : l0[i]? = some x) (h : firstO j0 (fun n => probe_fits.f k (l0.set i (chD x n))) lo hi = some r) :
  Calls Try.prog 46 #[.int .i64 lo, .int .i64 hi, .func (.func 50) #[] #[.pointer (some ⟨bl, 0, none⟩), .pointer (some ⟨bi, 0, none⟩)]] w fun e w' => e = .returned (.int .i64 r) ∧ Below w.heap.size w w' := by
 obtain ⟨q, hq⟩ : ∃ q : Int → Option Bool, (fun n => probe_fits.f k (l0.set i (chD x n))) = q := ⟨_, rfl⟩
 rw [hq] at h
 have HC : Hid (∀ (n : Int) (b : Bool) (W : World), BoxLI W A0 c0 l0 i bl bi → q n = some b → Calls Try.prog 50 #[.int .i64 n, .pointer (some ⟨bl, 0, none⟩), .pointer (some ⟨bi, 0, none⟩)] W fun e w' => e = .returned (.bool b) ∧ Below W.heap.size W w') := Lib.hid (fun n b W hb hn => oneD.calls k A0 c0 l0 i bl bi n b W hb hc0 hl x hx (by rw [← hq] at hn; exact hn))
 have HBX := Lib.hid hbx
 have HF := Lib.hid h
 have HB := Lib.hid (Below.refl w.heap.size w)
 clear hbx h hq hc0 hl hx
 go_enter Try.func46, Try.ntmps46
 go_wp2
 go_step3
 go_wp2
 go_step3
 go_wp2
 go_loopg [0, 1] (j0 + 1) (fun gk v0 v1 wr => ∃ (j : Nat) (a b : Int), v0 = .int .i64 a ∧ v1 = .int .i64 b ∧ j < gk ∧ Hid (firstO j q a b = some r) ∧ Hid (BoxLI wr A0 c0 l0 i bl bi) ∧ Hid (Below w.heap.size w wr))
 case atStart => exact ⟨j0, lo, hi, rfl, rfl, by omega, HF, HBX, HB⟩
 case round =>
  clear HF HBX HB
  obtain ⟨j, a, b, rfl, rfl, hk, HF, HBX, HB⟩ := hrel
  cases j with
  | zero => exact absurd HF.out (by simp [firstO])
  | succ j =>
   have hf := HF.out
   unfold firstO at hf
   by_cases c : a ≥ b
   ·rw [if_pos c] at hf
    have cb : decide (a ≥ b) = true := decide_eq_true c
    obtain rfl := Option.some.inj hf
    clear hf HF
    go_wp2
    try rw [Exit.noGoto_ret]
    go_ret
    exact ⟨rfl, HB.out⟩
   ·rw [if_neg c] at hf
    have cb : decide (a ≥ b) = false := decide_eq_false c
    obtain ⟨m, hm⟩ : ∃ m, wrap64 (a + wrap64 (Int.tdiv (wrap64 (b - a)) 2)) = m := ⟨_, rfl⟩
    rw [hm] at hf
    obtain ⟨d, hd, hf2⟩ := Option.bind_eq_some_iff.mp hf
    have HQ := Lib.hid hd
    have HF2 := Lib.hid hf2
    clear hf HF hd hf2
    cases d with
    | true =>
     go_wp2_with (go_at_call 50; refine (HC.out m true _ HBX.out HQ.out).mono ?_; rintro e w3 ⟨rfl, q1⟩; replace HBX := Lib.hid (HBX.out.below q1); replace HB := Lib.hid (below_step HB.out q1); clear q1)
     go_roundg (j + 1)
     case measure => omega
     case rel => exact ⟨j, a, m, by first | rfl | rw [hm], by first | rfl | rw [hm], by omega, HF2, HBX, HB⟩
    | false =>
     go_wp2_with (go_at_call 50; refine (HC.out m false _ HBX.out HQ.out).mono ?_; rintro e w3 ⟨rfl, q1⟩; replace HBX := Lib.hid (HBX.out.below q1); replace HB := Lib.hid (below_step HB.out q1); clear q1)
     go_roundg (j + 1)
     case measure => omega
     case rel => exact ⟨j, wrap64 (m + 1), b, by first | rfl | rw [hm], by first | rfl | rw [hm], by omega, HF2, HBX, HB⟩
-- probe_may probe_fits slices_Clone_api_Task
def probe_MostC.f (k : Nat) (l0 : List S28) (a1 : Int) : Option Int := (probe_may.f k l0 a1).bind fun b => if b = true then (if l0.length < 3518437208883 then (firstO k (fun n => probe_fits.f k (l0.set a1.toNat (chC (rd_T28 l0 a1) n))) 0 (wrap64 ((rd_T28 l0 a1).f2 - (rd_T28 l0 a1).f1))).bind fun less => some (wrap64 ((rd_T28 l0 a1).f2 - less)) else none) else some 0
theorem probe_MostC.mono : ∀ a0 a1 k, LeO (probe_MostC.f k a0 a1) (probe_MostC.f (k + 1) a0 a1) := by
 intro a0 a1 k
 unfold probe_MostC.f
 exact LeO.bind (probe_may.mono _ _ k) (fun b => LeO.ite (LeO.ite (LeO.bind (firstO_mono (fun n => probe_fits.mono _ k) k _ _) (fun _ => LeO.refl _)) (LeO.refl _)) (LeO.refl _))
set_option maxHeartbeats 8000000 in
set_option maxRecDepth 100000 in
theorem probe_MostC.calls (k : Nat) (A0 : Option Addr) (c0 : Nat) (l0 : List S28) (a1 : Int) (r : Int) (w : World) (hr0 : Kd.C k28 w A0 l0.length l0) (hc0 : l0.length ≤ c0) (h : probe_MostC.f k l0 a1 = some r) :
  Calls Try.prog 20 #[.slice A0 l0.length c0, .int .i64 a1] w fun e w' => e = .returned (.int .i64 r) ∧ Below w.heap.size w w' := by
 unfold probe_MostC.f at h
 obtain ⟨b, hb, h1⟩ := Option.bind_eq_some_iff.mp h
 have HMY := Lib.hid hb
 have HR0 := Lib.hid hr0
 have HC0 := Lib.hid hc0
 cases b with
 | false =>
  rw [if_neg (by decide)] at h1
  obtain rfl := Option.some.inj h1
  clear h h1 hb hr0 hc0
  go_enter Try.func20, Try.ntmps20
  go_wp2_with (go_at_call 45; refine (probe_may.calls k A0 c0 l0 a1 false _ (Kd.C_alloc (Kd.C_alloc HR0.out (.cells #[.slice A0 l0.length c0] 24)) (.cells #[.int .i64 a1] 3)) HC0.out HMY.out).mono ?_; rintro e w1 ⟨rfl, q1⟩; have HB1 := Lib.hid (below_step (below_alloc (below_alloc (Below.refl w.heap.size w) _) _) q1); clear q1)
  go_ret
  exact ⟨rfl, HB1.out⟩
 | true =>
  rw [if_pos rfl] at h1
  have hmy := hb
  unfold probe_may.f at hmy
  by_cases p0 : a1 ≥ 0
  case neg => rw [if_neg p0] at hmy; cases hmy
  rw [if_pos p0] at hmy
  by_cases p1 : a1 < (l0.length : Int)
  case neg => rw [if_neg p1] at hmy; cases hmy
  obtain ⟨i, rfl⟩ := Int.eq_ofNat_of_zero_le p0
  by_cases hl : l0.length < 3518437208883
  case neg => rw [if_neg hl] at h1; cases h1
  rw [if_pos hl, Int.toNat_natCast] at h1
  obtain ⟨less, hless, h2⟩ := Option.bind_eq_some_iff.mp h1
  obtain ⟨x, hxe⟩ : ∃ x, rd_T28 l0 (i : Int) = x := ⟨_, rfl⟩
  rw [hxe] at hless
  try rw [hxe] at h2
  have hx : l0[i]? = some x := by
   rw [List.getElem?_eq_getElem (show i < l0.length by omega), ← hxe]
   unfold rd_T28
   rw [Int.toNat_natCast, List.getD_eq_getElem?_getD, List.getElem?_eq_getElem (show i < l0.length by omega)]; rfl
  obtain rfl := Option.some.inj h2
  have HLS := Lib.hid hless
  have HXX := Lib.hid hx
  have HXE := Lib.hid hxe
  have HLN := Lib.hid hl
  clear h h1 h2 hb hmy hr0 hc0 hless hx hxe hl
  have i0 : (0 : Int) ≤ (i : Int) := by omega
  have i1 : (i : Int) < (l0.length : Int) := by omega
  clear p0 p1
  go_enter Try.func20, Try.ntmps20
  go_wp2_with fail
  obtain ⟨W, hW⟩ : ∃ W, (w.alloc (.cells #[.slice A0 l0.length c0] 24)).alloc (.cells #[.int .i64 (i : Int)] 3) = W := ⟨_, rfl⟩
  have HBX : Hid (BoxLI W A0 c0 l0 i w.heap.size (w.heap.size + 1)) := by
   rw [← hW]
   refine ⟨blk_alloc (heap_alloc_new w _) _, ?_, Kd.C_alloc (Kd.C_alloc HR0.out _) _⟩
   have := heap_alloc_new (w.alloc (.cells #[.slice A0 l0.length c0] 24)) (.cells #[.int .i64 (i : Int)] 3)
   simp only [World.size_alloc] at this; exact this
  have HB : Hid (Below w.heap.size w W) := by rw [← hW]; exact below_alloc (below_alloc (Below.refl _ _) _) _
  rw [hW]
  clear hW
  obtain ⟨bl, hbl⟩ : ∃ b, w.heap.size = b := ⟨_, rfl⟩
  obtain ⟨bi, hbi⟩ : ∃ b, bl + 1 = b := ⟨_, rfl⟩
  have HW0 := Lib.hid hbl
  rw [hbl, hbi] at HBX
  rw [hbl, hbi]
  clear hbl hbi
  go_wp2_with (go_at_call 45; refine (probe_may.calls k A0 c0 l0 (i : Int) true _ HBX.out.hr HC0.out HMY.out).mono ?_; rintro e w1 ⟨rfl, q1⟩; replace HBX := Lib.hid (HBX.out.below q1); replace HB := Lib.hid (below_step HB.out q1); clear q1; have cl := (blk_cell HBX.out.hl 0).trans rfl; have ci := (blk_cell HBX.out.hi 0).trans rfl; obtain ⟨ad, e0, x0, x1, x2, x3, x4⟩ := at_T28 HBX.out.hr (i : Int) i0 i1; cases e0; rw [HXE.out] at x0 x1 x2 x3 x4; simp only [Int.toNat_natCast] at x0 x1 x2 x3 x4)
  clear cl ci x0 x1 x2 x3 x4
  have HT := Lib.hid (heap_alloc_new w1 (.cells #[.int .i64 x.f0, .int .i64 x.f1, .int .i64 x.f2, .int .i64 x.f3, .int .i64 x.f4] 28))
  replace HBX := Lib.hid (HBX.out.below (below_alloc (Below.refl w1.heap.size w1) (.cells #[.int .i64 x.f0, .int .i64 x.f1, .int .i64 x.f2, .int .i64 x.f3, .int .i64 x.f4] 28)))
  replace HB := Lib.hid (below_alloc HB.out (.cells #[.int .i64 x.f0, .int .i64 x.f1, .int .i64 x.f2, .int .i64 x.f3, .int .i64 x.f4] 28))
  obtain ⟨W2, hW2⟩ : ∃ W, w1.alloc (.cells #[.int .i64 x.f0, .int .i64 x.f1, .int .i64 x.f2, .int .i64 x.f3, .int .i64 x.f4] 28) = W := ⟨_, rfl⟩
  obtain ⟨bt, hbt⟩ : ∃ b, w1.heap.size = b := ⟨_, rfl⟩
  rw [hW2, hbt] at HT
  rw [hW2] at HBX HB
  rw [hW2, hbt]
  clear hW2 hbt
  go_wp2_with (go_at_call 46; refine (firstC.calls k k _ c0 l0 i bl bi 0 (wrap64 (x.f2 - x.f1)) less _ HBX.out HC0.out HLN.out x HXX.out HLS.out).mono ?_; rintro e w2 ⟨rfl, q1⟩; have HT2 := Lib.hid (blk_below HT.out q1); replace HB := Lib.hid (below_step HB.out q1); clear q1; have t2 := (blk_cell HT2.out 2).trans rfl)
  go_ret
  exact ⟨rfl, HB.out⟩

/-! ### demand_least: function 105 -/
def demand_least.l0 : Nat → Int → List Int → Int → Int → Option (Int)
 | 0, _, _, _, _ => none
 | k + 1, x3, x9, x10, x11 => if x11 < x10 then (if 0 ≤ x11 then (if x11 < (x9.length : Int) then (demand_least.l0 k (mn x3 (rd x9 x11)) x9 x10 (wrap64 (x11 + 1))) else (none)) else (none)) else (some x3)
def demand_least.f (k : Nat) (l0 : List Int) : Option (Int) := if 0 < (l0.length : Int) then (demand_least.l0 k (rd l0 0) l0 (l0.length : Int) 0) else (none)
theorem demand_least.mono_l : ∀ k, (∀ y0 y1 y2 y3, LeO (demand_least.l0 k y0 y1 y2 y3) (demand_least.l0 (k + 1) y0 y1 y2 y3))
 | 0 => fun _ _ _ _ r h => by simp [demand_least.l0] at h
 | k + 1 => by
  have ih0 := demand_least.mono_l k
  ·intro y0 y1 y2 y3
   unfold demand_least.l0
   repeat' first
   | (with_reducible exact ih0 _ _ _ _)
   | (with_reducible exact LeO.refl _)
   | (with_reducible exact LeO.none _)
   | (with_reducible refine LeO.ite ?_ ?_)
   | (with_reducible refine LeO.bind ?_ (fun _ => ?_))
   | exact ih0 _ _ _ _
   | exact LeO.none _
   | refine LeO.ite ?_ ?_
   | refine LeO.bind ?_ (fun _ => ?_)
theorem demand_least.mono : ∀ a0 k, LeO (demand_least.f k a0) (demand_least.f (k + 1) a0) := by
 intro a0 k
 have ih0 := demand_least.mono_l k
 unfold demand_least.f
 repeat' first
   | (with_reducible exact ih0 _ _ _ _)
   | (with_reducible exact LeO.refl _)
   | (with_reducible exact LeO.none _)
   | (with_reducible refine LeO.ite ?_ ?_)
   | (with_reducible refine LeO.bind ?_ (fun _ => ?_))
   | exact ih0 _ _ _ _
   | exact LeO.none _
   | refine LeO.ite ?_ ?_
   | refine LeO.bind ?_ (fun _ => ?_)
set_option maxHeartbeats 8000000 in
set_option maxRecDepth 100000 in
theorem demand_least.calls (k : Nat) (A0 : Option Addr) (c0 : Nat) (l0 : List Int) (r : Int) (w : World) (hr0 : Kd.C (Kd.int .i64) w A0 l0.length l0) (hc0 : l0.length ≤ c0) (h : demand_least.f k l0 = some r) :
  Calls Try.prog 105 #[.slice A0 l0.length c0] w fun e w' => e = .returned (.int .i64 r) ∧ Below w.heap.size w w' := by
 have HR0 := Aside0.mk hr0
 have HC0 := Aside0.mk hc0
 clear hr0 hc0
 have HB := Aside0.mk (Below.refl w.heap.size w)
 have H : (if 0 < (l0.length : Int) then (demand_least.l0 k (rd l0 0) l0 (l0.length : Int) 0) else (none)) = some r := h
 clear h
 by_cases c2 : 0 < (l0.length : Int)
 ·rw [if_pos c2] at H
  have c2b0 : decide (0 < (l0.length : Int)) = true := decide_eq_true c2
  have c2b1 : decide (0 < l0.length) = true := decide_eq_true (by omega)
  clear c2
  have H' := Aside0.mk H
  clear H
  have p133 : 0 ≤ (0 : Int) := (by omega)
  have q133 : 0 < (l0.length : Int) := of_decide_eq_true (by first | (with_reducible assumption) | assumption)
  obtain ⟨ad133, e133, hx133_0⟩ := Kd.at_int HR0.out 0 p133 q133
  cases e133
  have qi133 : (0 < l0.length) = True := eq_true (by omega)
  (try rw [show ((0 : Int)).toNat = 0 from rfl] at hx133_0)
  (try rw [Addr.add_zero'] at hx133_0)
  replace p133 := eq_true p133
  replace q133 := eq_true q133
  go_enter Try.func105, Try.ntmps105
  go_wp2
  go_loopg [3, 11] k (fun kq v3 v11 w' => ∃ (x3_1 : Int) (x11_1 : Int), v3 = .int .i64 x3_1 ∧ v11 = .int .i64 x11_1 ∧ Aside0 (demand_least.l0 kq x3_1 l0 (l0.length : Int) x11_1 = some r) ∧ Aside0 (kq ≤ k) ∧ Aside0 (Below w.heap.size w w'))
  case atStart => exact ⟨(rd l0 0), (0), (by first | rfl | (simp; done) | (simp [*]; done)), (by first | rfl | (simp; done) | (simp [*]; done)), H', ⟨Nat.le_refl _⟩, ⟨by repeat (first | (with_reducible first | exact HB.out | apply below_alloc | apply pw_below_drewN | apply below_drew1) | exact HB.out)⟩⟩
  case round =>
   clear H'
   try clear c1
   try clear p1
   try clear q1
   try clear hx1
   try clear qi1
   try clear c2
   try clear c2b0
   try clear c2b1
   try clear p2
   try clear hx133_0
   try clear p133
   try clear q133
   obtain ⟨x3_1, x11_1, rfl, rfl, HA, HK1, HB⟩ := hrel
   cases gk with
   | zero => exact absurd HA.out (by simp [demand_least.l0])
   | succ k1 =>
    have H := HA.out
    clear HA
    simp only [demand_least.l0] at H
    by_cases c3 : x11_1 < (l0.length : Int)
    ·rw [if_pos c3] at H
     have c3b0 : decide (x11_1 < (l0.length : Int)) = true := decide_eq_true c3
     clear c3
     by_cases c4 : 0 ≤ x11_1
     ·rw [if_pos c4] at H
      have c4b0 : decide (0 ≤ x11_1) = true := decide_eq_true c4
      clear c4
      by_cases c5 : x11_1 < (l0.length : Int)
      ·rw [if_pos c5] at H
       have c5b0 : decide (x11_1 < (l0.length : Int)) = true := decide_eq_true c5
       clear c5
       obtain ⟨ji6, hji6⟩ : ∃ j_ : Int, (mn x3_1 (rd l0 x11_1)) = j_ := ⟨_, rfl⟩
       replace H : (demand_least.l0 k1 ji6 l0 (l0.length : Int) (wrap64 (x11_1 + 1))) = some r := by first | (rw [hji6] at H; exact H) | (simp only [hji6] at H ⊢; exact H)
       have hji6_ : (if (rd l0 x11_1) < x3_1 then (rd l0 x11_1) else x3_1) = ji6 := hji6
       have H' := Aside0.mk H
       clear H
       have p134 : 0 ≤ (x11_1 : Int) := of_decide_eq_true (by first | (with_reducible assumption) | assumption)
       have q134 : x11_1 < (l0.length : Int) := of_decide_eq_true (by first | (with_reducible assumption) | assumption)
       obtain ⟨ad134, e134, hx134_0⟩ := Kd.at_int HR0.out x11_1 p134 q134
       obtain rfl : ad133 = ad134 := (by injection e134)
       replace hx134_0 := (HB.out.cell (World.block_lt_of_cell? w _ hx134_0)).trans hx134_0
       replace p134 := eq_true p134
       replace q134 := eq_true q134
       go_wp2
       go_roundg k1
       case measure => have := HK1.out; omega
       case rel => exact ⟨(ji6), (wrap64 (x11_1 + 1)), (by first | rfl | (simp; done) | (simp only [← hji6] <;> (first | rfl | simp)) | (simp [*]; done)), (by first | rfl | (simp; done) | (simp [*]; done)), H', ⟨by have := HK1.out; omega⟩, ⟨by repeat (first | (with_reducible first | exact HB.out | apply below_alloc | apply pw_below_drewN | apply below_drew1) | exact HB.out)⟩⟩
      ·rw [if_neg c5] at H
       exact absurd H (by simp)
     ·rw [if_neg c4] at H
      exact absurd H (by simp)
    ·rw [if_neg c3] at H
     have c3b0 : decide (x11_1 < (l0.length : Int)) = false := decide_eq_false c3
     clear c3
     obtain rfl := Option.some.inj H
     go_wp2
     go_ret
     exact ⟨by first | rfl | (simp [errW_none, errW_some] <;> rfl) | (simp [*, errW_none, errW_some] <;> rfl), by repeat (first | (with_reducible first | exact HB.out | apply below_alloc | apply pw_below_drewN | apply below_drew1) | exact HB.out)⟩
 ·rw [if_neg c2] at H
  exact absurd H (by simp)

end Go.Proofs.Ytmgmpifbhjoijaa.PProbeReports
