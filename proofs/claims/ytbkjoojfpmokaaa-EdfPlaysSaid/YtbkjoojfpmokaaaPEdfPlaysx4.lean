-- Made by px.py (a program of this session, over the kit's printer) out of the translation. Not trusted: Lean checks it.
import Derived.Test.YtbkjoojfpmokaaaPEdfPlaysx0
import Derived.Test.YtbkjoojfpmokaaaPEdfPlaysx2
import Derived.Test.YtbkjoojfpmokaaaPEdfPlaysx3
namespace Go.Proofs.Ytbkjoojfpmokaaa.PEdfPlays
open Go.RowKit Go.Proofs.YtbkjoojfpmokaaaW.PrintWords Go.Proofs.YtbkjoojfpmokaaaW.PrintLast Go.Proofs.YtbkjoojfpmokaaaW.PrintMore
attribute [local go_sem] max2_int min2_int max_two min_two max_three min_three max_four min_four   -- for this text's walks alone
set_option linter.unusedVariables false
set_option linter.unusedSimpArgs false

/-! ### horariumlaw18_EdfPlays: function 17 (by hand) -/
-- horariumlaw18_awake horariumref18_Same
theorem lateL_len (t : Int) (L : List S65) : (lateL t L).length ≤ L.length := by unfold lateL; exact (List.takeWhile_sublist _).length_le
theorem eqA73 (d : Nat) (w : World) (x0 y0 : Int) (x1 y1 : Bool) : (Op.equalIn (d + 2) 73 (.agg #[.int .i64 x0, .bool x1]) (.agg #[.int .i64 y0, .bool y1])).run Try.prog w = .ok (x0 == y0 && (x1 == y1)) w := by
  refine eqA_of Try.underlying73 (by kernel_rfl) ?_
  refine eqf_cons (by rfl) (by go_simp; rfl) (by go_simp; rfl) (by go_simp) ?_
  exact eqf_last (by rfl) (by go_simp; rfl) (by go_simp; rfl) (by go_simp)
attribute [local go_sem high] eqA73
theorem same_selfJ (l : List S65) (hl : l.length ≤ 1000000) : ∀ (d k i : Nat), i + d = l.length → d < k → horariumref18_Same.l0 k l l (i : Int) = some true := by
  intro d
  induction d with
  | zero =>
    intro k i hi hk
    obtain ⟨k, rfl⟩ : ∃ m, k = m + 1 := ⟨k - 1, by omega⟩
    simp only [horariumref18_Same.l0]
    rw [if_neg (by omega)]
  | succ d ih =>
    intro k i hi hk
    obtain ⟨k, rfl⟩ : ∃ m, k = m + 1 := ⟨k - 1, by omega⟩
    simp only [horariumref18_Same.l0]
    rw [if_pos (by omega), if_pos (by omega), if_pos (by omega), if_neg (by simp)]
    have e : wrap64 ((i : Int) + 1) = ((i + 1 : Nat) : Int) := by unfold wrap64; omega
    rw [e]
    exact ih k (i + 1) (by omega) (by omega)
theorem Same_selfJ (l : List S65) (hl : l.length ≤ 1000000) : horariumref18_Same.f 1000001 l l = some true := by
  unfold horariumref18_Same.f
  rw [if_pos rfl]
  exact same_selfJ l hl l.length 1000001 0 (by omega) (by omega)
def jobV (y : S65) (nr : Bool) : S65 := if nr = true then near y else y
set_option maxHeartbeats 8000000 in
set_option maxRecDepth 100000 in
theorem jobAny.calls (k : Int) (y : S65) (nr d : Bool) (w : World) : Calls Try.prog 46 #[.agg #[.int .i64 k, .int .i64 y.f0, .int .i64 y.f1, .int .i64 y.f2, .int .i64 y.f3, .bool nr, .bool d]] w fun e w' => e = .returned (.agg #[.int .i64 (jobV y nr).f0, .int .i64 (jobV y nr).f1, .int .i64 (jobV y nr).f2, .int .i64 (jobV y nr).f3]) ∧ Below w.heap.size w w' := by
  cases nr with
  | true => exact jobNear.calls k y d w
  | false => exact jobRaw.calls k y d w
def goodL (L : List S65) : Prop := ∀ y ∈ L, 1 ≤ y.f3 ∧ y.f3 ≤ 2147483648
theorem goodL.lefts {L : List S65} (h : goodL L) : lefts L := fun y hy => by have := h y hy; omega
theorem goodL.ins {y : S65} {L : List S65} (h : goodL L) (hm : jmay y = true) : goodL (Hg.insG jlt y L) := fun z hz => by
  rcases List.mem_cons.1 ((Hg.insG_perm _ _ _).mem_iff.1 hz) with rfl | hz
  · obtain ⟨a, b, _⟩ := may_parts hm; omega
  · exact h z hz
theorem ex_keep {w w' : World} {x h k t : Nat} {L : List S65} {cs : Array Value} (e : ExP w x h L) (hg : w.grownBy w' (some x)) (hk : w.heap[k]? = some (.cells cs t (0, 0))) (ht : t ≠ 127) : w'.heap[k]? = some (.cells cs t (0, 0)) := blk_grown hk hg (fun q => ne_type hk e.1 ht (Option.some.inj q))
/-- A row is read as before, where the reference's executive alone was turned. -/
theorem row_ref {w w' : World} {hb base : Nat} {v : Value} {L M : List S65} (h : Kd.R k65 65 w base (fun _ => True) v L) (r : RfJ w hb M) (hg : w.grownBy w' (some hb)) : Kd.R k65 65 w' base (fun k => True ∧ k ≠ hb) v L := by
  obtain ⟨A, c, g1, _, _⟩ := r
  exact Kd.R_grown (Kd.R_types h g1 (by decide)) hg (fun k hk e => hk.2 (Option.some.inj e))
theorem rf_keep {w w' : World} {hb k t : Nat} {L : List S65} {cs : Array Value} (r : RfJ w hb L) (hg : w.grownBy w' (some hb)) (hk : w.heap[k]? = some (.cells cs t (0, 0))) (ht : t ≠ 97) : w'.heap[k]? = some (.cells cs t (0, 0)) := by
  obtain ⟨A, c, g1, _, _⟩ := r
  exact blk_grown hk hg (fun q => ne_type hk g1 ht (Option.some.inj q))
def plays.T12 : Bool × List (List Nat × List Nat) := (true, [([], []), ([], []), ([1], [1]), ([0, 2, 2], [0, 2]), ([], []), ([], []), ([5, 3], [5]), ([4, 6, 6], [4, 6]), ([3, 7], [3, 7]), ([8, 7, 0, 1, 2, 3, 4, 5, 6, 7, 8], [8])])
def plays.B12 : List Nat := [0, 0, 2, 7, 0, 0, 47, 127, 255, 511]
theorem plays.tab12 : rtab .any (opsOf Try.f17 12) = plays.T12 := by kernel_rfl
theorem plays.bits12 : waitsOk plays.T12.2 plays.B12 = true := by kernel_rfl
def plays.T21 : Bool × List (List Nat × List Nat) := (true, [([], []), ([0], [0]), ([], []), ([2], [2]), ([3], [3]), ([4], [4]), ([1, 5, 1], [1, 5]), ([6, 6, 0, 1, 2, 3, 4, 5, 6], [6])])
def plays.B21 : List Nat := [0, 1, 0, 4, 12, 28, 63, 127]
theorem plays.tab21 : rtab .any (opsOf Try.f17 21) = plays.T21 := by kernel_rfl
theorem plays.bits21 : waitsOk plays.T21.2 plays.B21 = true := by kernel_rfl
def plays.T25 : Bool × List (List Nat × List Nat) := (true, [([], []), ([0], [0]), ([1], [1]), ([2], [2]), ([3, 2], [2, 3]), ([2, 4], [2, 4]), ([5, 2], [5]), ([6], [6]), ([7, 6], [6, 7]), ([6, 8], [6, 8]), ([9, 6], [9]), ([10], [10]), ([11, 10], [10, 11]), ([10, 12], [10, 12]), ([13, 10], [13]), ([14], [14]), ([15, 14, 14], [14, 15]), ([14], [14]), ([17, 14], [14, 17]), ([18, 14], [14, 18]), ([19, 14], [14, 19]), ([20, 14], [14, 20]), ([21, 14], [14, 21]), ([16, 22, 14], [14, 16, 22]), ([14, 23], [14, 23]), ([24, 16], [24]), ([25], [25]), ([26, 25, 25], [25, 26]), ([25], [25]), ([28, 27, 25], [25, 28]), ([27, 29, 25], [25, 27, 29]), ([25, 30], [25, 30]), ([31, 29], [31]), ([32], [32]), ([32], [32]), ([34, 32], [32, 34]), ([33, 35, 32, 32], [32, 33, 35]), ([32], [32]), ([32], [32]), ([38, 32], [32, 38]), ([37, 39, 36, 32], [32, 37, 39]), ([36, 40, 32], [32, 36, 40]), ([32, 41], [32, 41])])
def plays.B25 : List Nat := [0, 1, 3, 7, 15, 31, 63, 127, 255, 511, 1023, 2047, 4095, 8191, 16383, 32767, 65535, 32767, 163839, 425983, 950271, 1998847, 4095999, 8388607, 16777215, 33554431, 67108863, 134217727, 67108863, 536870911, 1073741823, 2147483647, 4294967295, 8589934591, 8589934591, 25769803775, 68719476735, 8589934591, 8589934591, 283467841535, 1099511627775, 2199023255551, 4398046511103]
theorem plays.tab25 : rtab .any (opsOf Try.f17 25) = plays.T25 := by kernel_rfl
theorem plays.bits25 : waitsOk plays.T25.2 plays.B25 = true := by kernel_rfl
def horariumlaw18_EdfPlays.f (l0 : List S67) (a1 : Int) : Option Bool := some true
set_option maxHeartbeats 8000000 in
set_option maxRecDepth 100000 in
theorem horariumlaw18_EdfPlays.calls (A0 : Option Addr) (c0 : Nat) (l0 : List S67) (a1 : Int) (r : Bool) (w : World) (hr0 : Kd.C k67 w A0 l0.length l0) (hc0 : l0.length ≤ c0) (h : horariumlaw18_EdfPlays.f l0 a1 = some r) :
    Calls Try.prog 17 #[.slice A0 l0.length c0, .int .i64 a1] w fun e w' => e = .returned (.bool r) ∧ Below w.heap.size w w' := by
  obtain rfl := Option.some.inj h
  have hmax : l0.length ≤ 9223372036854775807 := Kd.C_max hr0
  have HR0 := Lib.hid hr0
  clear hr0 h hc0
  have ht : Go.bits .and .i64 a1 31 = a1 % 32 := and_31 _
  obtain ⟨t, htt⟩ : ∃ t, a1 % 32 = t := ⟨_, rfl⟩
  rw [htt] at ht
  clear htt
  go_enter Try.func17, Try.ntmps17
  go_wp2_with (first
    | (go_at_call 44; refine (awake18.calls _).mono ?_; rintro e w1 ⟨rfl, q1⟩; have HB := Lib.hid q1; clear q1)
    | (go_at_call 45; refine (newE.calls _).mono ?_; rintro e w2 ⟨x, h, rfl, q1, q2, q3, q4⟩; have HXW := Lib.hid (Nat.le_trans HB.out.size q1); have HHW := Lib.hid (Nat.le_trans HB.out.size q2); have HE := Lib.hid (q3.below (below_alloc (Below.refl _ _) (.cells #[.slice none 0 0] 97))); have HR := Lib.hid (show RfJ (w2.alloc (.cells #[.slice none 0 0] 97)) w2.heap.size [] from ⟨none, 0, heap_alloc_new w2 _, Nat.le_refl _, .inl rfl⟩); replace HB := Lib.hid (below_alloc (below_step HB.out q4) (.cells #[.slice none 0 0] 97)); have HBW := Lib.hid (Nat.le_trans HXW.out (Nat.le_of_lt (blk_lt q3.1))); clear q1 q2 q3 q4))
  obtain ⟨hb, hhb⟩ : ∃ b, w2.heap.size = b := ⟨_, rfl⟩
  rw [hhb] at HR HBW ⊢
  clear hhb
  go_loopg [8] (l0.length + 1) (fun k v8 wr => ∃ (j : Nat) (L : List S65) (h : Nat), v8 = .int .i64 (j : Int) ∧ j ≤ l0.length ∧ j ≤ 60 ∧ l0.length - j < k ∧ Hid (L.length ≤ j) ∧ Hid (goodL L) ∧ Hid (w.heap.size ≤ h) ∧ Hid (ExP wr x h L) ∧ Hid (RfJ wr hb L) ∧ Hid (Below w.heap.size w wr))
  case atStart => exact ⟨0, [], h, rfl, by omega, by omega, by omega, Lib.hid (Nat.le_refl _), Lib.hid (fun y hy => by cases hy), HHW, HE, HR, HB⟩
  case round =>
    clear HE HB HR HHW
    obtain ⟨j, L, h, rfl, hj, hj8, hk, HLN, HGL, HHW, HE, HR, HB⟩ := hrel
    by_cases hlt : j < l0.length
    · by_cases h60 : j < 60
      · have p0 : (0 : Int) ≤ (j : Int) := by omega
        have q0 : (j : Int) < (l0.length : Int) := by omega
        have q60 : (j : Int) < 60 := by omega
        obtain ⟨ad, e0, hx0, hx1, hx2, hx3, hx4, hx5, hx6⟩ := at_T67 HR0.out j p0 q0
        cases e0
        replace hx0 := (HB.out.cell (World.block_lt_of_cell? w _ hx0)).trans hx0
        replace hx1 := (HB.out.cell (World.block_lt_of_cell? w _ hx1)).trans hx1
        replace hx2 := (HB.out.cell (World.block_lt_of_cell? w _ hx2)).trans hx2
        replace hx3 := (HB.out.cell (World.block_lt_of_cell? w _ hx3)).trans hx3
        replace hx4 := (HB.out.cell (World.block_lt_of_cell? w _ hx4)).trans hx4
        replace hx5 := (HB.out.cell (World.block_lt_of_cell? w _ hx5)).trans hx5
        replace hx6 := (HB.out.cell (World.block_lt_of_cell? w _ hx6)).trans hx6
        simp only [Int.toNat_natCast] at hx0 hx1 hx2 hx3 hx4 hx5 hx6
        generalize ho : rd_T67 l0 (j : Int) = o at *
        clear ho
        obtain ⟨kd, y, nr, dp⟩ := o
        simp only at hx0 hx1 hx2 hx3 hx4 hx5 hx6
        have hand : Go.bits .and .i64 kd 7 = kd % 8 := and_7 _
        obtain ⟨m, hm⟩ : ∃ m, kd % 8 = m := ⟨_, rfl⟩
        rw [hm] at hand
        have m0 : 0 ≤ m := by omega
        have m7 : m ≤ 7 := by omega
        clear hm
        have HLT := Lib.hid hlt
        go_upto_block 2 with (fail)
        obtain ⟨W1, hW1⟩ : ∃ W, wr.alloc (.cells #[.int .i64 kd, .int .i64 y.f0, .int .i64 y.f1, .int .i64 y.f2, .int .i64 y.f3, .bool nr, .bool dp] 67) = W := ⟨_, rfl⟩
        have HO : Hid (W1.heap[wr.heap.size]? = some (.cells #[.int .i64 kd, .int .i64 y.f0, .int .i64 y.f1, .int .i64 y.f2, .int .i64 y.f3, .bool nr, .bool dp] 67 (0, 0))) := by rw [← hW1]; exact heap_alloc_new wr _
        replace HE : Hid (ExP W1 x h L) := by rw [← hW1]; exact HE.out.below (below_alloc (Below.refl _ _) _)
        replace HR : Hid (RfJ W1 hb L) := by rw [← hW1]; exact HR.out.below (below_alloc (Below.refl _ _) _)
        replace HB : Hid (Below w.heap.size w W1) := by rw [← hW1]; exact below_alloc HB.out _
        rw [hW1]
        clear hW1 hx0 hx1 hx2 hx3 hx4 hx5 hx6
        obtain ⟨bo, hbo⟩ : ∃ b, wr.heap.size = b := ⟨_, rfl⟩
        rw [hbo] at HO ⊢
        clear hbo
        go_cut [10] (fun s10 wx => ∃ (L' : List S65) (h' : Nat), s10 = .bool true ∧ Hid (L'.length ≤ j + 1) ∧ Hid (goodL L') ∧ Hid (w.heap.size ≤ h') ∧ Hid (ExP wx x h' L') ∧ Hid (RfJ wx hb L') ∧ Hid (wx.heap[bo]? = some (.cells #[.int .i64 kd, .int .i64 y.f0, .int .i64 y.f1, .int .i64 y.f2, .int .i64 y.f3, .bool nr, .bool dp] 67 (0, 0))) ∧ Hid (Below w.heap.size w wx))
        case first =>
          by_cases m3 : m = 3
          · subst m3
            cases L with
            | nil =>
              go_wp2_with (first
                | (go_at_call 49; refine (runE_none.calls x h _ HE.out).mono ?_; rintro e w6 ⟨rfl, q1⟩; have HE6 := Lib.hid (HE.out.below q1); have HR6 := Lib.hid (HR.out.below q1); have HB6 := Lib.hid (below_step HB.out q1); have HO6 := Lib.hid (blk_below HO.out q1); clear q1)
                | (go_at_call 59; refine (rrun_none.calls hb _ HR6.out).mono ?_; rintro e w7 ⟨rfl, q1⟩; have HE7 := Lib.hid (HE6.out.below q1); have HR7 := Lib.hid (HR6.out.below q1); have HB7 := Lib.hid (below_step HB6.out q1); have HO7 := Lib.hid (blk_below HO6.out q1); clear q1))
              go_meet
              case rel => exact ⟨[], h, rfl, Lib.hid (by simp), HGL, HHW, HE7, HR7, HO7, HB7⟩
            | cons u R =>
              obtain ⟨y0, y1, y2, y3⟩ := u
              have hg := HGL.out _ List.mem_cons_self
              simp only at hg
              by_cases h1 : y3 = 1
              · subst h1
                clear hg
                go_wp2_with (first
                  | (go_at_call 49; refine (runE_done.calls x h ⟨y0, y1, y2, 1⟩ R _ HE.out rfl (by have := HLN.out; simp at this; omega)).mono ?_; rintro e w6 ⟨rfl, q0, q1⟩; have HE6 := Lib.hid q0; have HR6 := Lib.hid (HR.out.heap HE.out q1); have HB6 := Lib.hid (HB.out.grown q1 HB.out.size (fun r e => by cases e; exact HHW.out)); have HO6 := Lib.hid (HE.out.keep q1 HO.out (by decide)); clear q0 q1)
                  | (go_at_call 59; refine (rrun_done.calls hb y0 y1 y2 R _ HR6.out (by have := HLN.out; simp at this; omega)).mono ?_; rintro e w7 ⟨rfl, q0, q1⟩; have HR7 := Lib.hid q0; have HE7 := Lib.hid (HE6.out.ref HR6.out q1); have HB7 := Lib.hid (HB6.out.grown q1 HB6.out.size (fun r e => by cases e; exact HBW.out)); have HO7 := Lib.hid (rf_keep HR6.out q1 HO6.out (by decide)); clear q0 q1))
                go_meet
                case rel => exact ⟨R, h, rfl, Lib.hid (by have := HLN.out; simp at this; omega), Lib.hid (fun z hz => HGL.out z (by simp [hz])), HHW, HE7, HR7, HO7, HB7⟩
              · have h2 : 1 < y3 := by omega
                have h3 : y3 ≤ 2147483648 := hg.2
                clear hg h1
                go_wp2_with (first
                  | (go_at_call 49; refine (runE_more.calls x h ⟨y0, y1, y2, y3⟩ R _ HE.out h2 h3 (by have := HLN.out; simp at this; omega)).mono ?_; rintro e w6 ⟨rfl, q0, q1⟩; have HE6 := Lib.hid q0; have HR6 := Lib.hid (HR.out.heap HE.out q1); have HB6 := Lib.hid (HB.out.grown q1 HB.out.size (fun r e => by cases e; exact HHW.out)); have HO6 := Lib.hid (HE.out.keep q1 HO.out (by decide)); clear q0 q1)
                  | (go_at_call 59; refine (rrun_more.calls hb y0 y1 y2 y3 R _ HR6.out h2 h3 (by have := HLN.out; simp at this; omega)).mono ?_; rintro e w7 ⟨rfl, q0, q1⟩; have HR7 := Lib.hid q0; have HE7 := Lib.hid (HE6.out.ref HR6.out q1); have HB7 := Lib.hid (HB6.out.grown q1 HB6.out.size (fun r e => by cases e; exact HBW.out)); have HO7 := Lib.hid (rf_keep HR6.out q1 HO6.out (by decide)); clear q0 q1))
                go_meet
                case rel => exact ⟨⟨y0, y1, y2, y3 - 1⟩ :: R, h, rfl, Lib.hid (by have := HLN.out; simp at this ⊢; omega), Lib.hid (fun z hz => by rcases List.mem_cons.1 hz with rfl | hz; exact ⟨by simp only; omega, by simp only; omega⟩; exact HGL.out z (by simp [hz])), HHW, HE7, HR7, HO7, HB7⟩
          by_cases m4 : m = 4
          · subst m4
            cases L with
            | nil =>
              go_wp2_with (first
                | (go_at_call 49; refine (runE_none.calls x h _ HE.out).mono ?_; rintro e w6 ⟨rfl, q1⟩; have HE6 := Lib.hid (HE.out.below q1); have HR6 := Lib.hid (HR.out.below q1); have HB6 := Lib.hid (below_step HB.out q1); have HO6 := Lib.hid (blk_below HO.out q1); clear q1)
                | (go_at_call 59; refine (rrun_none.calls hb _ HR6.out).mono ?_; rintro e w7 ⟨rfl, q1⟩; have HE7 := Lib.hid (HE6.out.below q1); have HR7 := Lib.hid (HR6.out.below q1); have HB7 := Lib.hid (below_step HB6.out q1); have HO7 := Lib.hid (blk_below HO6.out q1); clear q1))
              go_meet
              case rel => exact ⟨[], h, rfl, Lib.hid (by simp), HGL, HHW, HE7, HR7, HO7, HB7⟩
            | cons u R =>
              obtain ⟨y0, y1, y2, y3⟩ := u
              have hg := HGL.out _ List.mem_cons_self
              simp only at hg
              by_cases h1 : y3 = 1
              · subst h1
                clear hg
                go_wp2_with (first
                  | (go_at_call 49; refine (runE_done.calls x h ⟨y0, y1, y2, 1⟩ R _ HE.out rfl (by have := HLN.out; simp at this; omega)).mono ?_; rintro e w6 ⟨rfl, q0, q1⟩; have HE6 := Lib.hid q0; have HR6 := Lib.hid (HR.out.heap HE.out q1); have HB6 := Lib.hid (HB.out.grown q1 HB.out.size (fun r e => by cases e; exact HHW.out)); have HO6 := Lib.hid (HE.out.keep q1 HO.out (by decide)); clear q0 q1)
                  | (go_at_call 59; refine (rrun_done.calls hb y0 y1 y2 R _ HR6.out (by have := HLN.out; simp at this; omega)).mono ?_; rintro e w7 ⟨rfl, q0, q1⟩; have HR7 := Lib.hid q0; have HE7 := Lib.hid (HE6.out.ref HR6.out q1); have HB7 := Lib.hid (HB6.out.grown q1 HB6.out.size (fun r e => by cases e; exact HBW.out)); have HO7 := Lib.hid (rf_keep HR6.out q1 HO6.out (by decide)); clear q0 q1))
                go_meet
                case rel => exact ⟨R, h, rfl, Lib.hid (by have := HLN.out; simp at this; omega), Lib.hid (fun z hz => HGL.out z (by simp [hz])), HHW, HE7, HR7, HO7, HB7⟩
              · have h2 : 1 < y3 := by omega
                have h3 : y3 ≤ 2147483648 := hg.2
                clear hg h1
                go_wp2_with (first
                  | (go_at_call 49; refine (runE_more.calls x h ⟨y0, y1, y2, y3⟩ R _ HE.out h2 h3 (by have := HLN.out; simp at this; omega)).mono ?_; rintro e w6 ⟨rfl, q0, q1⟩; have HE6 := Lib.hid q0; have HR6 := Lib.hid (HR.out.heap HE.out q1); have HB6 := Lib.hid (HB.out.grown q1 HB.out.size (fun r e => by cases e; exact HHW.out)); have HO6 := Lib.hid (HE.out.keep q1 HO.out (by decide)); clear q0 q1)
                  | (go_at_call 59; refine (rrun_more.calls hb y0 y1 y2 y3 R _ HR6.out h2 h3 (by have := HLN.out; simp at this; omega)).mono ?_; rintro e w7 ⟨rfl, q0, q1⟩; have HR7 := Lib.hid q0; have HE7 := Lib.hid (HE6.out.ref HR6.out q1); have HB7 := Lib.hid (HB6.out.grown q1 HB6.out.size (fun r e => by cases e; exact HBW.out)); have HO7 := Lib.hid (rf_keep HR6.out q1 HO6.out (by decide)); clear q0 q1))
                go_meet
                case rel => exact ⟨⟨y0, y1, y2, y3 - 1⟩ :: R, h, rfl, Lib.hid (by have := HLN.out; simp at this ⊢; omega), Lib.hid (fun z hz => by rcases List.mem_cons.1 hz with rfl | hz; exact ⟨by simp only; omega, by simp only; omega⟩; exact HGL.out z (by simp [hz])), HHW, HE7, HR7, HO7, HB7⟩
          by_cases m5 : m = 5
          · subst m5
            cases L with
            | nil =>
              go_wp2_with (first
                | (go_at_call 49; refine (runE_none.calls x h _ HE.out).mono ?_; rintro e w6 ⟨rfl, q1⟩; have HE6 := Lib.hid (HE.out.below q1); have HR6 := Lib.hid (HR.out.below q1); have HB6 := Lib.hid (below_step HB.out q1); have HO6 := Lib.hid (blk_below HO.out q1); clear q1)
                | (go_at_call 59; refine (rrun_none.calls hb _ HR6.out).mono ?_; rintro e w7 ⟨rfl, q1⟩; have HE7 := Lib.hid (HE6.out.below q1); have HR7 := Lib.hid (HR6.out.below q1); have HB7 := Lib.hid (below_step HB6.out q1); have HO7 := Lib.hid (blk_below HO6.out q1); clear q1))
              go_meet
              case rel => exact ⟨[], h, rfl, Lib.hid (by simp), HGL, HHW, HE7, HR7, HO7, HB7⟩
            | cons u R =>
              obtain ⟨y0, y1, y2, y3⟩ := u
              have hg := HGL.out _ List.mem_cons_self
              simp only at hg
              by_cases h1 : y3 = 1
              · subst h1
                clear hg
                go_wp2_with (first
                  | (go_at_call 49; refine (runE_done.calls x h ⟨y0, y1, y2, 1⟩ R _ HE.out rfl (by have := HLN.out; simp at this; omega)).mono ?_; rintro e w6 ⟨rfl, q0, q1⟩; have HE6 := Lib.hid q0; have HR6 := Lib.hid (HR.out.heap HE.out q1); have HB6 := Lib.hid (HB.out.grown q1 HB.out.size (fun r e => by cases e; exact HHW.out)); have HO6 := Lib.hid (HE.out.keep q1 HO.out (by decide)); clear q0 q1)
                  | (go_at_call 59; refine (rrun_done.calls hb y0 y1 y2 R _ HR6.out (by have := HLN.out; simp at this; omega)).mono ?_; rintro e w7 ⟨rfl, q0, q1⟩; have HR7 := Lib.hid q0; have HE7 := Lib.hid (HE6.out.ref HR6.out q1); have HB7 := Lib.hid (HB6.out.grown q1 HB6.out.size (fun r e => by cases e; exact HBW.out)); have HO7 := Lib.hid (rf_keep HR6.out q1 HO6.out (by decide)); clear q0 q1))
                go_meet
                case rel => exact ⟨R, h, rfl, Lib.hid (by have := HLN.out; simp at this; omega), Lib.hid (fun z hz => HGL.out z (by simp [hz])), HHW, HE7, HR7, HO7, HB7⟩
              · have h2 : 1 < y3 := by omega
                have h3 : y3 ≤ 2147483648 := hg.2
                clear hg h1
                go_wp2_with (first
                  | (go_at_call 49; refine (runE_more.calls x h ⟨y0, y1, y2, y3⟩ R _ HE.out h2 h3 (by have := HLN.out; simp at this; omega)).mono ?_; rintro e w6 ⟨rfl, q0, q1⟩; have HE6 := Lib.hid q0; have HR6 := Lib.hid (HR.out.heap HE.out q1); have HB6 := Lib.hid (HB.out.grown q1 HB.out.size (fun r e => by cases e; exact HHW.out)); have HO6 := Lib.hid (HE.out.keep q1 HO.out (by decide)); clear q0 q1)
                  | (go_at_call 59; refine (rrun_more.calls hb y0 y1 y2 y3 R _ HR6.out h2 h3 (by have := HLN.out; simp at this; omega)).mono ?_; rintro e w7 ⟨rfl, q0, q1⟩; have HR7 := Lib.hid q0; have HE7 := Lib.hid (HE6.out.ref HR6.out q1); have HB7 := Lib.hid (HB6.out.grown q1 HB6.out.size (fun r e => by cases e; exact HBW.out)); have HO7 := Lib.hid (rf_keep HR6.out q1 HO6.out (by decide)); clear q0 q1))
                go_meet
                case rel => exact ⟨⟨y0, y1, y2, y3 - 1⟩ :: R, h, rfl, Lib.hid (by have := HLN.out; simp at this ⊢; omega), Lib.hid (fun z hz => by rcases List.mem_cons.1 hz with rfl | hz; exact ⟨by simp only; omega, by simp only; omega⟩; exact HGL.out z (by simp [hz])), HHW, HE7, HR7, HO7, HB7⟩
          by_cases m6 : m = 6
          · subst m6
            cases L with
            | nil =>
              go_wp2_with (first
                | (go_at_call 49; refine (runE_none.calls x h _ HE.out).mono ?_; rintro e w6 ⟨rfl, q1⟩; have HE6 := Lib.hid (HE.out.below q1); have HR6 := Lib.hid (HR.out.below q1); have HB6 := Lib.hid (below_step HB.out q1); have HO6 := Lib.hid (blk_below HO.out q1); clear q1)
                | (go_at_call 59; refine (rrun_none.calls hb _ HR6.out).mono ?_; rintro e w7 ⟨rfl, q1⟩; have HE7 := Lib.hid (HE6.out.below q1); have HR7 := Lib.hid (HR6.out.below q1); have HB7 := Lib.hid (below_step HB6.out q1); have HO7 := Lib.hid (blk_below HO6.out q1); clear q1))
              go_meet
              case rel => exact ⟨[], h, rfl, Lib.hid (by simp), HGL, HHW, HE7, HR7, HO7, HB7⟩
            | cons u R =>
              obtain ⟨y0, y1, y2, y3⟩ := u
              have hg := HGL.out _ List.mem_cons_self
              simp only at hg
              by_cases h1 : y3 = 1
              · subst h1
                clear hg
                go_wp2_with (first
                  | (go_at_call 49; refine (runE_done.calls x h ⟨y0, y1, y2, 1⟩ R _ HE.out rfl (by have := HLN.out; simp at this; omega)).mono ?_; rintro e w6 ⟨rfl, q0, q1⟩; have HE6 := Lib.hid q0; have HR6 := Lib.hid (HR.out.heap HE.out q1); have HB6 := Lib.hid (HB.out.grown q1 HB.out.size (fun r e => by cases e; exact HHW.out)); have HO6 := Lib.hid (HE.out.keep q1 HO.out (by decide)); clear q0 q1)
                  | (go_at_call 59; refine (rrun_done.calls hb y0 y1 y2 R _ HR6.out (by have := HLN.out; simp at this; omega)).mono ?_; rintro e w7 ⟨rfl, q0, q1⟩; have HR7 := Lib.hid q0; have HE7 := Lib.hid (HE6.out.ref HR6.out q1); have HB7 := Lib.hid (HB6.out.grown q1 HB6.out.size (fun r e => by cases e; exact HBW.out)); have HO7 := Lib.hid (rf_keep HR6.out q1 HO6.out (by decide)); clear q0 q1))
                go_meet
                case rel => exact ⟨R, h, rfl, Lib.hid (by have := HLN.out; simp at this; omega), Lib.hid (fun z hz => HGL.out z (by simp [hz])), HHW, HE7, HR7, HO7, HB7⟩
              · have h2 : 1 < y3 := by omega
                have h3 : y3 ≤ 2147483648 := hg.2
                clear hg h1
                go_wp2_with (first
                  | (go_at_call 49; refine (runE_more.calls x h ⟨y0, y1, y2, y3⟩ R _ HE.out h2 h3 (by have := HLN.out; simp at this; omega)).mono ?_; rintro e w6 ⟨rfl, q0, q1⟩; have HE6 := Lib.hid q0; have HR6 := Lib.hid (HR.out.heap HE.out q1); have HB6 := Lib.hid (HB.out.grown q1 HB.out.size (fun r e => by cases e; exact HHW.out)); have HO6 := Lib.hid (HE.out.keep q1 HO.out (by decide)); clear q0 q1)
                  | (go_at_call 59; refine (rrun_more.calls hb y0 y1 y2 y3 R _ HR6.out h2 h3 (by have := HLN.out; simp at this; omega)).mono ?_; rintro e w7 ⟨rfl, q0, q1⟩; have HR7 := Lib.hid q0; have HE7 := Lib.hid (HE6.out.ref HR6.out q1); have HB7 := Lib.hid (HB6.out.grown q1 HB6.out.size (fun r e => by cases e; exact HBW.out)); have HO7 := Lib.hid (rf_keep HR6.out q1 HO6.out (by decide)); clear q0 q1))
                go_meet
                case rel => exact ⟨⟨y0, y1, y2, y3 - 1⟩ :: R, h, rfl, Lib.hid (by have := HLN.out; simp at this ⊢; omega), Lib.hid (fun z hz => by rcases List.mem_cons.1 hz with rfl | hz; exact ⟨by simp only; omega, by simp only; omega⟩; exact HGL.out z (by simp [hz])), HHW, HE7, HR7, HO7, HB7⟩
          by_cases mm : m = 7
          · subst mm
            cases dp with
            | false =>
              have o6 : W1.cell? ⟨bo, 6, none⟩ = some (.bool false) := (blk_cell HO.out 6).trans rfl
              go_wp2
              go_meet
              case rel => exact ⟨L, h, rfl, Lib.hid (by have := HLN.out; omega), HGL, HHW, HE, HR, HO, HB⟩
            | true =>
              have o6 : W1.cell? ⟨bo, 6, none⟩ = some (.bool true) := (blk_cell HO.out 6).trans rfl
              go_wp2_with (first
                | (go_at_call 61; refine (drop.calls x h L _ HE.out (by have := HLN.out; omega)).mono ?_; rintro e w6 ⟨v, h', rfl, q0, q1, q2, q3⟩; obtain ⟨A1, k1, rfl⟩ := Kd.R_slice q0; have HV := Lib.hid q0; have HH6 := Lib.hid (Nat.le_trans HB.out.size q1); have HE6 := Lib.hid q2; have HR6 := Lib.hid (HR.out.exec HE.out q3); have HB6 := Lib.hid (HB.out.grown q3 HB.out.size (fun r e => by cases e; exact HXW.out)); have HO6 := Lib.hid (ex_keep HE.out q3 HO.out (by decide)); clear q0 q1 q2 q3)
                | (go_at_call 62; refine (rdrop.calls hb L _ HR6.out (by have := HLN.out; omega)).mono ?_; rintro e w7 ⟨A2, k2, rfl, q0, q1, q2, q3⟩; have HD2 := Lib.hid q0; have HC2 := Lib.hid (rwj_C q1 (by have := HLN.out; omega)); have hv := row_ref HV.out HR6.out q3; have HC1' := Lib.hid (Kd.R_reads' hv).2.2; have HD1 := Lib.hid (Kd.R_reads' hv).2.1; have HR7 := Lib.hid q2; have HE7 := Lib.hid (HE6.out.ref HR6.out q3); have HB7 := Lib.hid (HB6.out.grown q3 HB6.out.size (fun r e => by cases e; exact HBW.out)); have HO7 := Lib.hid (rf_keep HR6.out q3 HO6.out (by decide)); clear q0 q1 q2 q3 hv)
                | (go_at_call 60; refine (horariumref18_Same.calls 1000001 _ _ L _ _ L true _ HC1'.out HD1.out HC2.out HD2.out (Same_selfJ L (by have := HLN.out; omega))).mono ?_; rintro e w8 ⟨rfl, q0⟩; have q1 := q0.below; have HE8 := Lib.hid (HE7.out.below q1); have HR8 := Lib.hid (HR7.out.below q1); have HB8 := Lib.hid (below_step HB7.out q1); have HO8 := Lib.hid (blk_below HO7.out q1); clear q0 q1))
              go_meet
              case rel => exact ⟨[], h', rfl, Lib.hid (by simp), Lib.hid (fun z hz => by cases hz), HH6, HE8, HR8, HO8, HB8⟩
          obtain ⟨z, hz⟩ : ∃ z, jobV y nr = z := ⟨_, rfl⟩
          have HZV := Lib.hid hz
          clear hz
          cases hmay : jmay z with
          | false =>
            have HM := Lib.hid hmay
            clear hmay
            go_wp2
            replace HO := Lib.hid (blk_drew HO.out)
            replace HE := Lib.hid (HE.out.below (below_drew (Below.refl _ _)))
            replace HR := Lib.hid (HR.out.below (below_drew (Below.refl _ _)))
            replace HB := Lib.hid (below_drew1 HB.out)
            refine start_ (n := 10) (S := fun w' => w'.cell? ⟨bo, 0, none⟩ = some (.int .i64 kd) ∧ w'.cell? ⟨bo, 1, none⟩ = some (.int .i64 y.f0) ∧ w'.cell? ⟨bo, 2, none⟩ = some (.int .i64 y.f1) ∧ w'.cell? ⟨bo, 3, none⟩ = some (.int .i64 y.f2) ∧ w'.cell? ⟨bo, 4, none⟩ = some (.int .i64 y.f3) ∧ w'.cell? ⟨bo, 5, none⟩ = some (.bool nr) ∧ w'.cell? ⟨bo, 6, none⟩ = some (.bool dp)) (ds := []) #[false, false, false, false, false, false, false, false, false, false] (by kernel_rfl) rfl rfl ⟨(blk_cell HO.out 0).trans rfl, (blk_cell HO.out 1).trans rfl, (blk_cell HO.out 2).trans rfl, (blk_cell HO.out 3).trans rfl, (blk_cell HO.out 4).trans rfl, (blk_cell HO.out 5).trans rfl, (blk_cell HO.out 6).trans rfl⟩ (fun hHeld => ?_); refine with_tabW plays.tab12 plays.bits12 (fun HT_ HW_ => ?_)
            generalize W1.drew = w5 at HO HE HR HB hHeld ⊢
            refine pure_ (i := 0) (N := some 38) (v := ?_) (a' := ?_) #[true, false, false, false, false, false, false, false, false, false] rfl rfl (any_of HT_.out (by kernel_rfl)) (fun _ _ _ h => h) (Or.inl ⟨by rfl, ?_⟩) ?_ ?_
            rotate_left
            · intro w'
              go_simp
              with_reducible rfl
            rotate_left
            · simp only [Act.put, List.setIfInBounds_toArray, List.set_cons_zero, List.set_cons_succ, i64_w, i32_w]
              rfl
            refine take_ (i := 1) (N := some 39) (v := ?_) (a' := ?_) #[true, true, false, false, false, false, false, false, false, false] rfl rfl (take_ofW HT_.out HW_.out (by kernel_rfl)) (fun _ _ _ h => h) (Or.inl ⟨by rfl, ?_⟩) hHeld ?_ ?_
            rotate_left
            · rintro w' ⟨s0, s1, s2, s3, s4, s5, s6⟩
              go_simp
              with_reducible rfl
            rotate_left
            · simp only [Act.put, List.setIfInBounds_toArray, List.set_cons_zero, List.set_cons_succ, i64_w, i32_w]
              rfl
            refine pure_ (i := 4) (N := some 42) (v := ?_) (a' := ?_) #[true, true, false, false, true, false, false, false, false, false] rfl rfl (any_of HT_.out (by kernel_rfl)) (fun _ _ _ h => h) (Or.inl ⟨by rfl, ?_⟩) ?_ ?_
            rotate_left
            · intro w'
              go_simp
              with_reducible rfl
            rotate_left
            · simp only [Act.put, List.setIfInBounds_toArray, List.set_cons_zero, List.set_cons_succ, i64_w, i32_w]
              rfl
            refine take_ (i := 5) (N := some 43) (v := ?_) (a' := ?_) #[true, true, false, false, true, true, false, false, false, false] rfl rfl (take_ofW HT_.out HW_.out (by kernel_rfl)) (fun _ _ _ h => h) (Or.inl ⟨by rfl, ?_⟩) hHeld ?_ ?_
            rotate_left
            · rintro w' ⟨s0, s1, s2, s3, s4, s5, s6⟩
              go_simp
              with_reducible rfl
            rotate_left
            · simp only [Act.put, List.setIfInBounds_toArray, List.set_cons_zero, List.set_cons_succ, i64_w, i32_w]
              rfl
            refine one_ (i := 2) (N := some 40) #[true, true, true, false, true, true, false, false, false, false] rfl rfl (one_of HT_.out (by kernel_rfl)) (by decide) (fun K hK => ?_)
            refine goes_ Try.func46 (by kernel_rfl) rfl #[.agg #[.int .i64 kd, .int .i64 y.f0, .int .i64 y.f1, .int .i64 y.f2, .int .i64 y.f3, .bool nr, .bool dp]] (by rfl) rfl rfl (by (try simp only [List.map_toArray, List.map_cons, List.map_nil]); first | done | rfl) ?_
            refine (jobAny.calls kd y nr dp w5).mono ?_
            rintro e w6 ⟨rfl, q1⟩
            refine ⟨_, rfl, ?_⟩
            replace HO := Lib.hid (blk_below HO.out q1)
            replace HE := Lib.hid (HE.out.below q1)
            replace HR := Lib.hid (HR.out.below q1)
            replace HB := Lib.hid (below_step HB.out q1)
            rw [HZV.out]
            clear q1
            refine hK.out _ _ ⟨(blk_cell HO.out 0).trans rfl, (blk_cell HO.out 1).trans rfl, (blk_cell HO.out 2).trans rfl, (blk_cell HO.out 3).trans rfl, (blk_cell HO.out 4).trans rfl, (blk_cell HO.out 5).trans rfl, (blk_cell HO.out 6).trans rfl⟩ (fun hHeld => ?_)
            clear hK K
            refine norm_ (a' := ?_) ?_ ?_
            rotate_left
            · show Act.put _ (some 40) _ = _
              simp only [Act.put, List.setIfInBounds_toArray, List.set_cons_zero, List.set_cons_succ, i64_w, i32_w]
              rfl
            refine one_ (i := 3) (N := some 41) #[true, true, true, true, true, true, false, false, false, false] rfl rfl (one_of HT_.out (by kernel_rfl)) (by decide) (fun K hK => ?_)
            refine goes_ Try.func47 (by kernel_rfl) rfl #[.pointer (some ⟨x, 0, none⟩), .agg #[.int .i64 z.f0, .int .i64 z.f1, .int .i64 z.f2, .int .i64 z.f3]] (by rfl) rfl rfl (by (try simp only [List.map_toArray, List.map_cons, List.map_nil]); first | done | rfl) ?_
            refine (addE_bad.calls x h z L w6 HE.out HM.out).mono ?_
            rintro e w7 ⟨rfl, q1⟩
            refine ⟨_, rfl, ?_⟩
            replace HO := Lib.hid (blk_below HO.out q1)
            replace HE := Lib.hid (HE.out.below q1)
            replace HR := Lib.hid (HR.out.below q1)
            replace HB := Lib.hid (below_step HB.out q1)
            clear q1
            refine hK.out _ _ ⟨(blk_cell HO.out 0).trans rfl, (blk_cell HO.out 1).trans rfl, (blk_cell HO.out 2).trans rfl, (blk_cell HO.out 3).trans rfl, (blk_cell HO.out 4).trans rfl, (blk_cell HO.out 5).trans rfl, (blk_cell HO.out 6).trans rfl⟩ (fun hHeld => ?_)
            clear hK K
            refine norm_ (a' := ?_) ?_ ?_
            rotate_left
            · show Act.put _ (some 41) _ = _
              simp only [Act.put, List.setIfInBounds_toArray, List.set_cons_zero, List.set_cons_succ, i64_w, i32_w]
              rfl
            refine one_ (i := 6) (N := some 44) #[true, true, true, true, true, true, true, false, false, false] rfl rfl (one_of HT_.out (by kernel_rfl)) (by decide) (fun K hK => ?_)
            refine goes_ Try.func46 (by kernel_rfl) rfl #[.agg #[.int .i64 kd, .int .i64 y.f0, .int .i64 y.f1, .int .i64 y.f2, .int .i64 y.f3, .bool nr, .bool dp]] (by rfl) rfl rfl (by (try simp only [List.map_toArray, List.map_cons, List.map_nil]); first | done | rfl) ?_
            refine (jobAny.calls kd y nr dp w7).mono ?_
            rintro e w8 ⟨rfl, q1⟩
            refine ⟨_, rfl, ?_⟩
            replace HO := Lib.hid (blk_below HO.out q1)
            replace HE := Lib.hid (HE.out.below q1)
            replace HR := Lib.hid (HR.out.below q1)
            replace HB := Lib.hid (below_step HB.out q1)
            rw [HZV.out]
            clear q1
            refine hK.out _ _ ⟨(blk_cell HO.out 0).trans rfl, (blk_cell HO.out 1).trans rfl, (blk_cell HO.out 2).trans rfl, (blk_cell HO.out 3).trans rfl, (blk_cell HO.out 4).trans rfl, (blk_cell HO.out 5).trans rfl, (blk_cell HO.out 6).trans rfl⟩ (fun hHeld => ?_)
            clear hK K
            refine norm_ (a' := ?_) ?_ ?_
            rotate_left
            · show Act.put _ (some 44) _ = _
              simp only [Act.put, List.setIfInBounds_toArray, List.set_cons_zero, List.set_cons_succ, i64_w, i32_w]
              rfl
            refine one_ (i := 7) (N := some 45) #[true, true, true, true, true, true, true, true, false, false] rfl rfl (one_of HT_.out (by kernel_rfl)) (by decide) (fun K hK => ?_)
            refine goes_ Try.func63 (by kernel_rfl) rfl #[.pointer (some ⟨hb, 0, none⟩), .agg #[.int .i64 z.f0, .int .i64 z.f1, .int .i64 z.f2, .int .i64 z.f3]] (by rfl) rfl rfl (by (try simp only [List.map_toArray, List.map_cons, List.map_nil]); first | done | rfl) ?_
            refine (radd_bad.calls hb z w8 HM.out).mono ?_
            rintro e w9 ⟨rfl, q1⟩
            refine ⟨_, rfl, ?_⟩
            replace HO := Lib.hid (blk_below HO.out q1)
            replace HE := Lib.hid (HE.out.below q1)
            replace HR := Lib.hid (HR.out.below q1)
            replace HB := Lib.hid (below_step HB.out q1)
            clear q1
            refine hK.out _ _ ⟨(blk_cell HO.out 0).trans rfl, (blk_cell HO.out 1).trans rfl, (blk_cell HO.out 2).trans rfl, (blk_cell HO.out 3).trans rfl, (blk_cell HO.out 4).trans rfl, (blk_cell HO.out 5).trans rfl, (blk_cell HO.out 6).trans rfl⟩ (fun hHeld => ?_)
            clear hK K
            refine norm_ (a' := ?_) ?_ ?_
            rotate_left
            · show Act.put _ (some 45) _ = _
              simp only [Act.put, List.setIfInBounds_toArray, List.set_cons_zero, List.set_cons_succ, i64_w, i32_w]
              rfl
            refine pure_ (i := 8) (N := some 46) (v := ?_) (a' := ?_) #[true, true, true, true, true, true, true, true, true, false] rfl rfl (any_of HT_.out (by kernel_rfl)) (fun _ _ _ h => h) (Or.inl ⟨by rfl, ?_⟩) ?_ ?_
            rotate_left
            · intro w'
              go_simp
              with_reducible rfl
            rotate_left
            · simp only [Act.put, List.setIfInBounds_toArray, List.set_cons_zero, List.set_cons_succ, i64_w, i32_w]
              rfl
            refine pure_ (i := 9) (N := some 10) (v := ?_) (a' := ?_) #[true, true, true, true, true, true, true, true, true, true] rfl rfl (any_of HT_.out (by kernel_rfl)) (fun _ _ _ h => h) (Or.inl ⟨by rfl, ?_⟩) ?_ ?_
            rotate_left
            · intro w'
              go_simp
              with_reducible rfl
            rotate_left
            · simp only [Act.put, List.setIfInBounds_toArray, List.set_cons_zero, List.set_cons_succ, i64_w, i32_w]
              rfl
            refine done_ (done_of HT_.out (by kernel_rfl)) ?_
            go_wp2
            go_meet
            case rel => exact ⟨L, h, rfl, Lib.hid (by have := HLN.out; omega), HGL, HHW, HE, HR, HO, HB⟩
          | true =>
            have HM := Lib.hid hmay
            clear hmay
            by_cases hin : z.f0 ∈ ids L
            · have HI := Lib.hid hin
              clear hin
              go_wp2
              replace HO := Lib.hid (blk_drew HO.out)
              replace HE := Lib.hid (HE.out.below (below_drew (Below.refl _ _)))
              replace HR := Lib.hid (HR.out.below (below_drew (Below.refl _ _)))
              replace HB := Lib.hid (below_drew1 HB.out)
              refine start_ (n := 10) (S := fun w' => w'.cell? ⟨bo, 0, none⟩ = some (.int .i64 kd) ∧ w'.cell? ⟨bo, 1, none⟩ = some (.int .i64 y.f0) ∧ w'.cell? ⟨bo, 2, none⟩ = some (.int .i64 y.f1) ∧ w'.cell? ⟨bo, 3, none⟩ = some (.int .i64 y.f2) ∧ w'.cell? ⟨bo, 4, none⟩ = some (.int .i64 y.f3) ∧ w'.cell? ⟨bo, 5, none⟩ = some (.bool nr) ∧ w'.cell? ⟨bo, 6, none⟩ = some (.bool dp)) (ds := []) #[false, false, false, false, false, false, false, false, false, false] (by kernel_rfl) rfl rfl ⟨(blk_cell HO.out 0).trans rfl, (blk_cell HO.out 1).trans rfl, (blk_cell HO.out 2).trans rfl, (blk_cell HO.out 3).trans rfl, (blk_cell HO.out 4).trans rfl, (blk_cell HO.out 5).trans rfl, (blk_cell HO.out 6).trans rfl⟩ (fun hHeld => ?_); refine with_tabW plays.tab12 plays.bits12 (fun HT_ HW_ => ?_)
              generalize W1.drew = w5 at HO HE HR HB hHeld ⊢
              refine pure_ (i := 0) (N := some 38) (v := ?_) (a' := ?_) #[true, false, false, false, false, false, false, false, false, false] rfl rfl (any_of HT_.out (by kernel_rfl)) (fun _ _ _ h => h) (Or.inl ⟨by rfl, ?_⟩) ?_ ?_
              rotate_left
              · intro w'
                go_simp
                with_reducible rfl
              rotate_left
              · simp only [Act.put, List.setIfInBounds_toArray, List.set_cons_zero, List.set_cons_succ, i64_w, i32_w]
                rfl
              refine take_ (i := 1) (N := some 39) (v := ?_) (a' := ?_) #[true, true, false, false, false, false, false, false, false, false] rfl rfl (take_ofW HT_.out HW_.out (by kernel_rfl)) (fun _ _ _ h => h) (Or.inl ⟨by rfl, ?_⟩) hHeld ?_ ?_
              rotate_left
              · rintro w' ⟨s0, s1, s2, s3, s4, s5, s6⟩
                go_simp
                with_reducible rfl
              rotate_left
              · simp only [Act.put, List.setIfInBounds_toArray, List.set_cons_zero, List.set_cons_succ, i64_w, i32_w]
                rfl
              refine pure_ (i := 4) (N := some 42) (v := ?_) (a' := ?_) #[true, true, false, false, true, false, false, false, false, false] rfl rfl (any_of HT_.out (by kernel_rfl)) (fun _ _ _ h => h) (Or.inl ⟨by rfl, ?_⟩) ?_ ?_
              rotate_left
              · intro w'
                go_simp
                with_reducible rfl
              rotate_left
              · simp only [Act.put, List.setIfInBounds_toArray, List.set_cons_zero, List.set_cons_succ, i64_w, i32_w]
                rfl
              refine take_ (i := 5) (N := some 43) (v := ?_) (a' := ?_) #[true, true, false, false, true, true, false, false, false, false] rfl rfl (take_ofW HT_.out HW_.out (by kernel_rfl)) (fun _ _ _ h => h) (Or.inl ⟨by rfl, ?_⟩) hHeld ?_ ?_
              rotate_left
              · rintro w' ⟨s0, s1, s2, s3, s4, s5, s6⟩
                go_simp
                with_reducible rfl
              rotate_left
              · simp only [Act.put, List.setIfInBounds_toArray, List.set_cons_zero, List.set_cons_succ, i64_w, i32_w]
                rfl
              refine one_ (i := 2) (N := some 40) #[true, true, true, false, true, true, false, false, false, false] rfl rfl (one_of HT_.out (by kernel_rfl)) (by decide) (fun K hK => ?_)
              refine goes_ Try.func46 (by kernel_rfl) rfl #[.agg #[.int .i64 kd, .int .i64 y.f0, .int .i64 y.f1, .int .i64 y.f2, .int .i64 y.f3, .bool nr, .bool dp]] (by rfl) rfl rfl (by (try simp only [List.map_toArray, List.map_cons, List.map_nil]); first | done | rfl) ?_
              refine (jobAny.calls kd y nr dp w5).mono ?_
              rintro e w6 ⟨rfl, q1⟩
              refine ⟨_, rfl, ?_⟩
              replace HO := Lib.hid (blk_below HO.out q1)
              replace HE := Lib.hid (HE.out.below q1)
              replace HR := Lib.hid (HR.out.below q1)
              replace HB := Lib.hid (below_step HB.out q1)
              rw [HZV.out]
              clear q1
              refine hK.out _ _ ⟨(blk_cell HO.out 0).trans rfl, (blk_cell HO.out 1).trans rfl, (blk_cell HO.out 2).trans rfl, (blk_cell HO.out 3).trans rfl, (blk_cell HO.out 4).trans rfl, (blk_cell HO.out 5).trans rfl, (blk_cell HO.out 6).trans rfl⟩ (fun hHeld => ?_)
              clear hK K
              refine norm_ (a' := ?_) ?_ ?_
              rotate_left
              · show Act.put _ (some 40) _ = _
                simp only [Act.put, List.setIfInBounds_toArray, List.set_cons_zero, List.set_cons_succ, i64_w, i32_w]
                rfl
              refine one_ (i := 3) (N := some 41) #[true, true, true, true, true, true, false, false, false, false] rfl rfl (one_of HT_.out (by kernel_rfl)) (by decide) (fun K hK => ?_)
              refine goes_ Try.func47 (by kernel_rfl) rfl #[.pointer (some ⟨x, 0, none⟩), .agg #[.int .i64 z.f0, .int .i64 z.f1, .int .i64 z.f2, .int .i64 z.f3]] (by rfl) rfl rfl (by (try simp only [List.map_toArray, List.map_cons, List.map_nil]); first | done | rfl) ?_
              refine (addE_there.calls x h z L w6 HE.out HM.out HI.out (by have := HLN.out; omega)).mono ?_
              rintro e w7 ⟨rfl, q1⟩
              refine ⟨_, rfl, ?_⟩
              replace HO := Lib.hid (blk_below HO.out q1)
              replace HE := Lib.hid (HE.out.below q1)
              replace HR := Lib.hid (HR.out.below q1)
              replace HB := Lib.hid (below_step HB.out q1)
              clear q1
              refine hK.out _ _ ⟨(blk_cell HO.out 0).trans rfl, (blk_cell HO.out 1).trans rfl, (blk_cell HO.out 2).trans rfl, (blk_cell HO.out 3).trans rfl, (blk_cell HO.out 4).trans rfl, (blk_cell HO.out 5).trans rfl, (blk_cell HO.out 6).trans rfl⟩ (fun hHeld => ?_)
              clear hK K
              refine norm_ (a' := ?_) ?_ ?_
              rotate_left
              · show Act.put _ (some 41) _ = _
                simp only [Act.put, List.setIfInBounds_toArray, List.set_cons_zero, List.set_cons_succ, i64_w, i32_w]
                rfl
              refine one_ (i := 6) (N := some 44) #[true, true, true, true, true, true, true, false, false, false] rfl rfl (one_of HT_.out (by kernel_rfl)) (by decide) (fun K hK => ?_)
              refine goes_ Try.func46 (by kernel_rfl) rfl #[.agg #[.int .i64 kd, .int .i64 y.f0, .int .i64 y.f1, .int .i64 y.f2, .int .i64 y.f3, .bool nr, .bool dp]] (by rfl) rfl rfl (by (try simp only [List.map_toArray, List.map_cons, List.map_nil]); first | done | rfl) ?_
              refine (jobAny.calls kd y nr dp w7).mono ?_
              rintro e w8 ⟨rfl, q1⟩
              refine ⟨_, rfl, ?_⟩
              replace HO := Lib.hid (blk_below HO.out q1)
              replace HE := Lib.hid (HE.out.below q1)
              replace HR := Lib.hid (HR.out.below q1)
              replace HB := Lib.hid (below_step HB.out q1)
              rw [HZV.out]
              clear q1
              refine hK.out _ _ ⟨(blk_cell HO.out 0).trans rfl, (blk_cell HO.out 1).trans rfl, (blk_cell HO.out 2).trans rfl, (blk_cell HO.out 3).trans rfl, (blk_cell HO.out 4).trans rfl, (blk_cell HO.out 5).trans rfl, (blk_cell HO.out 6).trans rfl⟩ (fun hHeld => ?_)
              clear hK K
              refine norm_ (a' := ?_) ?_ ?_
              rotate_left
              · show Act.put _ (some 44) _ = _
                simp only [Act.put, List.setIfInBounds_toArray, List.set_cons_zero, List.set_cons_succ, i64_w, i32_w]
                rfl
              refine one_ (i := 7) (N := some 45) #[true, true, true, true, true, true, true, true, false, false] rfl rfl (one_of HT_.out (by kernel_rfl)) (by decide) (fun K hK => ?_)
              refine goes_ Try.func63 (by kernel_rfl) rfl #[.pointer (some ⟨hb, 0, none⟩), .agg #[.int .i64 z.f0, .int .i64 z.f1, .int .i64 z.f2, .int .i64 z.f3]] (by rfl) rfl rfl (by (try simp only [List.map_toArray, List.map_cons, List.map_nil]); first | done | rfl) ?_
              refine (radd_there.calls hb z L w8 HR.out HM.out HI.out (by have := HLN.out; omega)).mono ?_
              rintro e w9 ⟨rfl, q1⟩
              refine ⟨_, rfl, ?_⟩
              replace HO := Lib.hid (blk_below HO.out q1)
              replace HE := Lib.hid (HE.out.below q1)
              replace HR := Lib.hid (HR.out.below q1)
              replace HB := Lib.hid (below_step HB.out q1)
              clear q1
              refine hK.out _ _ ⟨(blk_cell HO.out 0).trans rfl, (blk_cell HO.out 1).trans rfl, (blk_cell HO.out 2).trans rfl, (blk_cell HO.out 3).trans rfl, (blk_cell HO.out 4).trans rfl, (blk_cell HO.out 5).trans rfl, (blk_cell HO.out 6).trans rfl⟩ (fun hHeld => ?_)
              clear hK K
              refine norm_ (a' := ?_) ?_ ?_
              rotate_left
              · show Act.put _ (some 45) _ = _
                simp only [Act.put, List.setIfInBounds_toArray, List.set_cons_zero, List.set_cons_succ, i64_w, i32_w]
                rfl
              refine pure_ (i := 8) (N := some 46) (v := ?_) (a' := ?_) #[true, true, true, true, true, true, true, true, true, false] rfl rfl (any_of HT_.out (by kernel_rfl)) (fun _ _ _ h => h) (Or.inl ⟨by rfl, ?_⟩) ?_ ?_
              rotate_left
              · intro w'
                go_simp
                with_reducible rfl
              rotate_left
              · simp only [Act.put, List.setIfInBounds_toArray, List.set_cons_zero, List.set_cons_succ, i64_w, i32_w]
                rfl
              refine pure_ (i := 9) (N := some 10) (v := ?_) (a' := ?_) #[true, true, true, true, true, true, true, true, true, true] rfl rfl (any_of HT_.out (by kernel_rfl)) (fun _ _ _ h => h) (Or.inl ⟨by rfl, ?_⟩) ?_ ?_
              rotate_left
              · intro w'
                go_simp
                with_reducible rfl
              rotate_left
              · simp only [Act.put, List.setIfInBounds_toArray, List.set_cons_zero, List.set_cons_succ, i64_w, i32_w]
                rfl
              refine done_ (done_of HT_.out (by kernel_rfl)) ?_
              go_wp2
              go_meet
              case rel => exact ⟨L, h, rfl, Lib.hid (by have := HLN.out; omega), HGL, HHW, HE, HR, HO, HB⟩
            · have HI := Lib.hid hin
              clear hin
              go_wp2
              replace HO := Lib.hid (blk_drew HO.out)
              replace HE := Lib.hid (HE.out.below (below_drew (Below.refl _ _)))
              replace HR := Lib.hid (HR.out.below (below_drew (Below.refl _ _)))
              replace HB := Lib.hid (below_drew1 HB.out)
              refine start_ (n := 10) (S := fun w' => w'.cell? ⟨bo, 0, none⟩ = some (.int .i64 kd) ∧ w'.cell? ⟨bo, 1, none⟩ = some (.int .i64 y.f0) ∧ w'.cell? ⟨bo, 2, none⟩ = some (.int .i64 y.f1) ∧ w'.cell? ⟨bo, 3, none⟩ = some (.int .i64 y.f2) ∧ w'.cell? ⟨bo, 4, none⟩ = some (.int .i64 y.f3) ∧ w'.cell? ⟨bo, 5, none⟩ = some (.bool nr) ∧ w'.cell? ⟨bo, 6, none⟩ = some (.bool dp)) (ds := []) #[false, false, false, false, false, false, false, false, false, false] (by kernel_rfl) rfl rfl ⟨(blk_cell HO.out 0).trans rfl, (blk_cell HO.out 1).trans rfl, (blk_cell HO.out 2).trans rfl, (blk_cell HO.out 3).trans rfl, (blk_cell HO.out 4).trans rfl, (blk_cell HO.out 5).trans rfl, (blk_cell HO.out 6).trans rfl⟩ (fun hHeld => ?_); refine with_tabW plays.tab12 plays.bits12 (fun HT_ HW_ => ?_)
              generalize W1.drew = w5 at HO HE HR HB hHeld ⊢
              refine pure_ (i := 0) (N := some 38) (v := ?_) (a' := ?_) #[true, false, false, false, false, false, false, false, false, false] rfl rfl (any_of HT_.out (by kernel_rfl)) (fun _ _ _ h => h) (Or.inl ⟨by rfl, ?_⟩) ?_ ?_
              rotate_left
              · intro w'
                go_simp
                with_reducible rfl
              rotate_left
              · simp only [Act.put, List.setIfInBounds_toArray, List.set_cons_zero, List.set_cons_succ, i64_w, i32_w]
                rfl
              refine take_ (i := 1) (N := some 39) (v := ?_) (a' := ?_) #[true, true, false, false, false, false, false, false, false, false] rfl rfl (take_ofW HT_.out HW_.out (by kernel_rfl)) (fun _ _ _ h => h) (Or.inl ⟨by rfl, ?_⟩) hHeld ?_ ?_
              rotate_left
              · rintro w' ⟨s0, s1, s2, s3, s4, s5, s6⟩
                go_simp
                with_reducible rfl
              rotate_left
              · simp only [Act.put, List.setIfInBounds_toArray, List.set_cons_zero, List.set_cons_succ, i64_w, i32_w]
                rfl
              refine pure_ (i := 4) (N := some 42) (v := ?_) (a' := ?_) #[true, true, false, false, true, false, false, false, false, false] rfl rfl (any_of HT_.out (by kernel_rfl)) (fun _ _ _ h => h) (Or.inl ⟨by rfl, ?_⟩) ?_ ?_
              rotate_left
              · intro w'
                go_simp
                with_reducible rfl
              rotate_left
              · simp only [Act.put, List.setIfInBounds_toArray, List.set_cons_zero, List.set_cons_succ, i64_w, i32_w]
                rfl
              refine take_ (i := 5) (N := some 43) (v := ?_) (a' := ?_) #[true, true, false, false, true, true, false, false, false, false] rfl rfl (take_ofW HT_.out HW_.out (by kernel_rfl)) (fun _ _ _ h => h) (Or.inl ⟨by rfl, ?_⟩) hHeld ?_ ?_
              rotate_left
              · rintro w' ⟨s0, s1, s2, s3, s4, s5, s6⟩
                go_simp
                with_reducible rfl
              rotate_left
              · simp only [Act.put, List.setIfInBounds_toArray, List.set_cons_zero, List.set_cons_succ, i64_w, i32_w]
                rfl
              refine one_ (i := 2) (N := some 40) #[true, true, true, false, true, true, false, false, false, false] rfl rfl (one_of HT_.out (by kernel_rfl)) (by decide) (fun K hK => ?_)
              refine goes_ Try.func46 (by kernel_rfl) rfl #[.agg #[.int .i64 kd, .int .i64 y.f0, .int .i64 y.f1, .int .i64 y.f2, .int .i64 y.f3, .bool nr, .bool dp]] (by rfl) rfl rfl (by (try simp only [List.map_toArray, List.map_cons, List.map_nil]); first | done | rfl) ?_
              refine (jobAny.calls kd y nr dp w5).mono ?_
              rintro e w6 ⟨rfl, q1⟩
              refine ⟨_, rfl, ?_⟩
              replace HO := Lib.hid (blk_below HO.out q1)
              replace HE := Lib.hid (HE.out.below q1)
              replace HR := Lib.hid (HR.out.below q1)
              replace HB := Lib.hid (below_step HB.out q1)
              rw [HZV.out]
              clear q1
              refine hK.out _ _ ⟨(blk_cell HO.out 0).trans rfl, (blk_cell HO.out 1).trans rfl, (blk_cell HO.out 2).trans rfl, (blk_cell HO.out 3).trans rfl, (blk_cell HO.out 4).trans rfl, (blk_cell HO.out 5).trans rfl, (blk_cell HO.out 6).trans rfl⟩ (fun hHeld => ?_)
              clear hK K
              refine norm_ (a' := ?_) ?_ ?_
              rotate_left
              · show Act.put _ (some 40) _ = _
                simp only [Act.put, List.setIfInBounds_toArray, List.set_cons_zero, List.set_cons_succ, i64_w, i32_w]
                rfl
              refine one_ (i := 3) (N := some 41) #[true, true, true, true, true, true, false, false, false, false] rfl rfl (one_of HT_.out (by kernel_rfl)) (by decide) (fun K hK => ?_)
              refine goes_ Try.func47 (by kernel_rfl) rfl #[.pointer (some ⟨x, 0, none⟩), .agg #[.int .i64 z.f0, .int .i64 z.f1, .int .i64 z.f2, .int .i64 z.f3]] (by rfl) rfl rfl (by (try simp only [List.map_toArray, List.map_cons, List.map_nil]); first | done | rfl) ?_
              refine (addE.calls x h z L w6 HE.out HM.out HI.out (by have := HLN.out; omega)).mono ?_
              rintro e w7 ⟨rfl, q1, q2⟩
              refine ⟨_, rfl, ?_⟩
              replace HO := Lib.hid (HE.out.keep q2 HO.out (by decide))
              replace HR := Lib.hid (HR.out.heap HE.out q2)
              replace HB := Lib.hid (HB.out.grown q2 HB.out.size (fun r e => by cases e; exact HHW.out))
              replace HE := Lib.hid q1
              clear q1 q2
              refine hK.out _ _ ⟨(blk_cell HO.out 0).trans rfl, (blk_cell HO.out 1).trans rfl, (blk_cell HO.out 2).trans rfl, (blk_cell HO.out 3).trans rfl, (blk_cell HO.out 4).trans rfl, (blk_cell HO.out 5).trans rfl, (blk_cell HO.out 6).trans rfl⟩ (fun hHeld => ?_)
              clear hK K
              refine norm_ (a' := ?_) ?_ ?_
              rotate_left
              · show Act.put _ (some 41) _ = _
                simp only [Act.put, List.setIfInBounds_toArray, List.set_cons_zero, List.set_cons_succ, i64_w, i32_w]
                rfl
              refine one_ (i := 6) (N := some 44) #[true, true, true, true, true, true, true, false, false, false] rfl rfl (one_of HT_.out (by kernel_rfl)) (by decide) (fun K hK => ?_)
              refine goes_ Try.func46 (by kernel_rfl) rfl #[.agg #[.int .i64 kd, .int .i64 y.f0, .int .i64 y.f1, .int .i64 y.f2, .int .i64 y.f3, .bool nr, .bool dp]] (by rfl) rfl rfl (by (try simp only [List.map_toArray, List.map_cons, List.map_nil]); first | done | rfl) ?_
              refine (jobAny.calls kd y nr dp w7).mono ?_
              rintro e w8 ⟨rfl, q1⟩
              refine ⟨_, rfl, ?_⟩
              replace HO := Lib.hid (blk_below HO.out q1)
              replace HE := Lib.hid (HE.out.below q1)
              replace HR := Lib.hid (HR.out.below q1)
              replace HB := Lib.hid (below_step HB.out q1)
              rw [HZV.out]
              clear q1
              refine hK.out _ _ ⟨(blk_cell HO.out 0).trans rfl, (blk_cell HO.out 1).trans rfl, (blk_cell HO.out 2).trans rfl, (blk_cell HO.out 3).trans rfl, (blk_cell HO.out 4).trans rfl, (blk_cell HO.out 5).trans rfl, (blk_cell HO.out 6).trans rfl⟩ (fun hHeld => ?_)
              clear hK K
              refine norm_ (a' := ?_) ?_ ?_
              rotate_left
              · show Act.put _ (some 44) _ = _
                simp only [Act.put, List.setIfInBounds_toArray, List.set_cons_zero, List.set_cons_succ, i64_w, i32_w]
                rfl
              refine one_ (i := 7) (N := some 45) #[true, true, true, true, true, true, true, true, false, false] rfl rfl (one_of HT_.out (by kernel_rfl)) (by decide) (fun K hK => ?_)
              refine goes_ Try.func63 (by kernel_rfl) rfl #[.pointer (some ⟨hb, 0, none⟩), .agg #[.int .i64 z.f0, .int .i64 z.f1, .int .i64 z.f2, .int .i64 z.f3]] (by rfl) rfl rfl (by (try simp only [List.map_toArray, List.map_cons, List.map_nil]); first | done | rfl) ?_
              refine (radd.calls hb z L w8 HR.out HM.out HI.out (by have := HLN.out; omega)).mono ?_
              rintro e w9 ⟨rfl, q1, q2⟩
              refine ⟨_, rfl, ?_⟩
              replace HO := Lib.hid (rf_keep HR.out q2 HO.out (by decide))
              replace HE := Lib.hid (HE.out.ref HR.out q2)
              replace HB := Lib.hid (HB.out.grown q2 HB.out.size (fun r e => by cases e; exact HBW.out))
              replace HR := Lib.hid q1
              clear q1 q2
              refine hK.out _ _ ⟨(blk_cell HO.out 0).trans rfl, (blk_cell HO.out 1).trans rfl, (blk_cell HO.out 2).trans rfl, (blk_cell HO.out 3).trans rfl, (blk_cell HO.out 4).trans rfl, (blk_cell HO.out 5).trans rfl, (blk_cell HO.out 6).trans rfl⟩ (fun hHeld => ?_)
              clear hK K
              refine norm_ (a' := ?_) ?_ ?_
              rotate_left
              · show Act.put _ (some 45) _ = _
                simp only [Act.put, List.setIfInBounds_toArray, List.set_cons_zero, List.set_cons_succ, i64_w, i32_w]
                rfl
              refine pure_ (i := 8) (N := some 46) (v := ?_) (a' := ?_) #[true, true, true, true, true, true, true, true, true, false] rfl rfl (any_of HT_.out (by kernel_rfl)) (fun _ _ _ h => h) (Or.inl ⟨by rfl, ?_⟩) ?_ ?_
              rotate_left
              · intro w'
                go_simp
                with_reducible rfl
              rotate_left
              · simp only [Act.put, List.setIfInBounds_toArray, List.set_cons_zero, List.set_cons_succ, i64_w, i32_w]
                rfl
              refine pure_ (i := 9) (N := some 10) (v := ?_) (a' := ?_) #[true, true, true, true, true, true, true, true, true, true] rfl rfl (any_of HT_.out (by kernel_rfl)) (fun _ _ _ h => h) (Or.inl ⟨by rfl, ?_⟩) ?_ ?_
              rotate_left
              · intro w'
                go_simp
                with_reducible rfl
              rotate_left
              · simp only [Act.put, List.setIfInBounds_toArray, List.set_cons_zero, List.set_cons_succ, i64_w, i32_w]
                rfl
              refine done_ (done_of HT_.out (by kernel_rfl)) ?_
              go_wp2
              go_meet
              case rel => exact ⟨Hg.insG jlt z L, h, rfl, Lib.hid (by rw [Hg.insG_len]; have := HLN.out; omega), Lib.hid (HGL.out.ins HM.out), HHW, HE, HR, HO, HB⟩
        case rest =>
          clear HE HR HO HB HGL HHW HLN m0 m7 hand
          obtain ⟨L, h, rfl, HLN, HGL, HHW, HE, HR, HO, HB⟩ := hcut
          obtain ⟨RA, RC, r1, r2, r3⟩ := HR.out
          have hc0 : wc.cell? ⟨hb, 0, none⟩ = some (.slice RA L.length RC) := (blk_cell r1 0).trans rfl
          have HRC := Lib.hid r2
          have HRD := Lib.hid r3
          clear r1 r2 r3
          go_wp2
          replace HO := Lib.hid (blk_drew HO.out)
          replace HE := Lib.hid (HE.out.below (below_drew (Below.refl _ _)))
          replace HR := Lib.hid (HR.out.below (below_drew (Below.refl _ _)))
          replace HB := Lib.hid (below_drew1 HB.out)
          replace HRD := Lib.hid (HRD.out.below (below_drew (Below.refl _ _)))
          replace hc0 : wc.drew.cell? _ = _ := hc0
          refine start_ (n := 8) (S := fun w' => w'.cell? ⟨hb, 0, none⟩ = some (.slice RA L.length RC)) (ds := []) #[false, false, false, false, false, false, false, false] (by kernel_rfl) rfl rfl hc0 (fun hHeld => ?_); refine with_tabW plays.tab21 plays.bits21 (fun HT_ HW_ => ?_)
          generalize wc.drew = w5 at HO HE HR HB HRD hc0 hHeld ⊢
          refine pure_ (i := 0) (N := some 66) (v := ?_) (a' := ?_) #[true, false, false, false, false, false, false, false] rfl rfl (any_of HT_.out (by kernel_rfl)) (fun _ _ _ h => h) (Or.inl ⟨by rfl, ?_⟩) ?_ ?_
          rotate_left
          · intro w'
            go_simp
            with_reducible rfl
          rotate_left
          · simp only [Act.put, List.setIfInBounds_toArray, List.set_cons_zero, List.set_cons_succ, i64_w, i32_w]
            rfl
          refine pure_ (i := 2) (N := some 68) (v := ?_) (a' := ?_) #[true, false, true, false, false, false, false, false] rfl rfl (any_of HT_.out (by kernel_rfl)) (fun _ _ _ h => h) (Or.inl ⟨by rfl, ?_⟩) ?_ ?_
          rotate_left
          · intro w'
            go_simp
            with_reducible rfl
          rotate_left
          · simp only [Act.put, List.setIfInBounds_toArray, List.set_cons_zero, List.set_cons_succ, i64_w, i32_w]
            rfl
          refine pure_ (i := 3) (N := some 69) (v := ?_) (a' := ?_) #[true, false, true, true, false, false, false, false] rfl rfl (any_of HT_.out (by kernel_rfl)) (fun _ _ _ h => h) (Or.inl ⟨by rfl, ?_⟩) ?_ ?_
          rotate_left
          · intro w'
            go_simp
            with_reducible rfl
          rotate_left
          · simp only [Act.put, List.setIfInBounds_toArray, List.set_cons_zero, List.set_cons_succ, i64_w, i32_w]
            rfl
          refine pure_ (i := 4) (N := some 70) (v := ?_) (a' := ?_) #[true, false, true, true, true, false, false, false] rfl rfl (any_of HT_.out (by kernel_rfl)) (fun _ _ _ h => h) (Or.inl ⟨by rfl, ?_⟩) ?_ ?_
          rotate_left
          · intro w'
            go_simp
            with_reducible rfl
          rotate_left
          · simp only [Act.put, List.setIfInBounds_toArray, List.set_cons_zero, List.set_cons_succ, i64_w, i32_w]
            rfl
          refine take_ (i := 5) (N := some 71) (v := ?_) (a' := ?_) #[true, false, true, true, true, true, false, false] rfl rfl (take_ofW HT_.out HW_.out (by kernel_rfl)) (fun _ _ _ h => h) (Or.inl ⟨by rfl, ?_⟩) hHeld ?_ ?_
          rotate_left
          · rintro w' s0
            go_simp
            with_reducible rfl
          rotate_left
          · simp only [Act.put, List.setIfInBounds_toArray, List.set_cons_zero, List.set_cons_succ, i64_w, i32_w]
            rfl
          refine one_ (i := 1) (N := some 67) #[true, true, true, true, true, true, false, false] rfl rfl (one_of HT_.out (by kernel_rfl)) (by decide) (fun K hK => ?_)
          refine goes_ Try.func64 (by kernel_rfl) rfl #[.pointer (some ⟨x, 0, none⟩)] (by rfl) rfl rfl (by (try simp only [List.map_toArray, List.map_cons, List.map_nil]); first | done | rfl) ?_
          refine (pending.calls x h L w5 HE.out (by have := HLN.out; omega)).mono ?_
          rintro e w6 ⟨v, rfl, q0, q1⟩; obtain ⟨A1, k1, rfl⟩ := Kd.R_slice q0; have HC1 := Lib.hid (Kd.R_reads' q0).2.2; have HD1 := Lib.hid (Kd.R_reads' q0).2.1
          refine ⟨_, rfl, ?_⟩
          replace HO := Lib.hid (blk_below HO.out q1)
          replace HE := Lib.hid (HE.out.below q1)
          replace HR := Lib.hid (HR.out.below q1)
          replace HB := Lib.hid (below_step HB.out q1)
          replace HRD := Lib.hid (HRD.out.below q1)
          replace hc0 := (q1.cell (World.block_lt_of_cell? w5 _ hc0)).trans hc0
          clear q0 q1
          refine hK.out _ _ hc0 (fun hHeld => ?_)
          clear hK K
          refine norm_ (a' := ?_) ?_ ?_
          rotate_left
          · show Act.put _ (some 67) _ = _
            simp only [Act.put, List.setIfInBounds_toArray, List.set_cons_zero, List.set_cons_succ, i64_w, i32_w]
            rfl
          refine one_ (i := 6) (N := some 72) #[true, true, true, true, true, true, true, false] rfl rfl (one_of HT_.out (by kernel_rfl)) (by decide) (fun K hK => ?_)
          refine goes_ Try.func60 (by kernel_rfl) rfl #[.slice A1 L.length k1, .slice RA L.length RC] (by rfl) rfl rfl (by (try simp only [List.map_toArray, List.map_cons, List.map_nil]); first | done | rfl) ?_
          refine (horariumref18_Same.calls 1000001 _ _ L _ _ L true w6 HC1.out HD1.out (rwj_C HRD.out (by have := HLN.out; omega)) HRC.out (Same_selfJ L (by have := HLN.out; omega))).mono ?_
          rintro e w7 ⟨rfl, q0⟩; have q1 := q0.below
          refine ⟨_, rfl, ?_⟩
          replace HO := Lib.hid (blk_below HO.out q1)
          replace HE := Lib.hid (HE.out.below q1)
          replace HR := Lib.hid (HR.out.below q1)
          replace HB := Lib.hid (below_step HB.out q1)
          replace HRD := Lib.hid (HRD.out.below q1)
          replace hc0 := (q1.cell (World.block_lt_of_cell? w6 _ hc0)).trans hc0
          clear q0 q1 HC1 HD1
          refine hK.out _ _ hc0 (fun hHeld => ?_)
          clear hK K
          refine norm_ (a' := ?_) ?_ ?_
          rotate_left
          · show Act.put _ (some 72) _ = _
            simp only [Act.put, List.setIfInBounds_toArray, List.set_cons_zero, List.set_cons_succ, i64_w, i32_w]
            rfl
          refine pure_ (i := 7) (N := some 11) (v := ?_) (a' := ?_) #[true, true, true, true, true, true, true, true] rfl rfl (any_of HT_.out (by kernel_rfl)) (fun _ _ _ h => h) (Or.inl ⟨by rfl, ?_⟩) ?_ ?_
          rotate_left
          · intro w'
            go_simp
            with_reducible rfl
          rotate_left
          · simp only [Act.put, List.setIfInBounds_toArray, List.set_cons_zero, List.set_cons_succ, i64_w, i32_w]
            rfl
          refine done_ (done_of HT_.out (by kernel_rfl)) ?_
          clear hHeld
          go_wp2_with (first
            | (go_at_call 53; (with_reducible refine (late.calls x h t L _ HE.out (by have := HLN.out; omega)).mono ?_); rintro e w6 ⟨v, rfl, q0, q1⟩; obtain ⟨A1, k1, rfl⟩ := Kd.R_slice q0; have HC1 := Lib.hid (Kd.R_reads' q0).2.2; have HD1 := Lib.hid (Kd.R_reads' q0).2.1; replace HO := Lib.hid (blk_below HO.out q1); replace HE := Lib.hid (HE.out.below q1); replace HR := Lib.hid (HR.out.below q1); replace HB := Lib.hid (below_step HB.out q1); replace hc0 := (q1.cell (World.block_lt_of_cell? _ _ hc0)).trans hc0; clear q0 q1)
            | (go_at_call 53; (with_reducible refine (late.calls x h a1 L _ HE.out (by have := HLN.out; omega)).mono ?_); rintro e w6 ⟨v, rfl, q0, q1⟩; obtain ⟨A1, k1, rfl⟩ := Kd.R_slice q0; have HC1 := Lib.hid (Kd.R_reads' q0).2.2; have HD1 := Lib.hid (Kd.R_reads' q0).2.1; replace HO := Lib.hid (blk_below HO.out q1); replace HE := Lib.hid (HE.out.below q1); replace HR := Lib.hid (HR.out.below q1); replace HB := Lib.hid (below_step HB.out q1); replace hc0 := (q1.cell (World.block_lt_of_cell? _ _ hc0)).trans hc0; clear q0 q1)
            | (go_at_call 65; (with_reducible refine (rlate.calls hb t L _ HR.out (by have := HLN.out; omega)).mono ?_); rintro e w7 ⟨v, rfl, q0, q1⟩; rw [← lateL_filter HE.out.srt] at q0; obtain ⟨A2, k2, rfl⟩ := Kd.R_slice q0; have HC2 := Lib.hid (Kd.R_reads' q0).2.2; have HD2 := Lib.hid (Kd.R_reads' q0).2.1; replace HC1 := Lib.hid (Kd.C_below HC1.out q1); replace HO := Lib.hid (blk_below HO.out q1); replace HE := Lib.hid (HE.out.below q1); replace HR := Lib.hid (HR.out.below q1); replace HB := Lib.hid (below_step HB.out q1); replace hc0 := (q1.cell (World.block_lt_of_cell? _ _ hc0)).trans hc0; clear q0 q1)
            | (go_at_call 65; (with_reducible refine (rlate.calls hb a1 L _ HR.out (by have := HLN.out; omega)).mono ?_); rintro e w7 ⟨v, rfl, q0, q1⟩; rw [← lateL_filter HE.out.srt] at q0; obtain ⟨A2, k2, rfl⟩ := Kd.R_slice q0; have HC2 := Lib.hid (Kd.R_reads' q0).2.2; have HD2 := Lib.hid (Kd.R_reads' q0).2.1; replace HC1 := Lib.hid (Kd.C_below HC1.out q1); replace HO := Lib.hid (blk_below HO.out q1); replace HE := Lib.hid (HE.out.below q1); replace HR := Lib.hid (HR.out.below q1); replace HB := Lib.hid (below_step HB.out q1); replace hc0 := (q1.cell (World.block_lt_of_cell? _ _ hc0)).trans hc0; clear q0 q1)
            | (go_at_call 60; (with_reducible refine (horariumref18_Same.calls 1000001 _ _ (lateL t L) _ _ (lateL t L) true _ HC1.out HD1.out HC2.out HD2.out (Same_selfJ (lateL t L) (by have := HLN.out; have := lateL_len t L; omega))).mono ?_); rintro e w8 ⟨rfl, q0⟩; have q1 := q0.below; replace HO := Lib.hid (blk_below HO.out q1); replace HE := Lib.hid (HE.out.below q1); replace HR := Lib.hid (HR.out.below q1); replace HB := Lib.hid (below_step HB.out q1); replace hc0 := (q1.cell (World.block_lt_of_cell? _ _ hc0)).trans hc0; have o0 := (blk_cell HO.out 0).trans rfl; have o1 := (blk_cell HO.out 1).trans rfl; have o2 := (blk_cell HO.out 2).trans rfl; have o3 := (blk_cell HO.out 3).trans rfl; have o4 := (blk_cell HO.out 4).trans rfl; have o5 := (blk_cell HO.out 5).trans rfl; have o6 := (blk_cell HO.out 6).trans rfl; clear q0 q1)
            | (go_at_call 60; (with_reducible refine (horariumref18_Same.calls 1000001 _ _ (lateL a1 L) _ _ (lateL a1 L) true _ HC1.out HD1.out HC2.out HD2.out (Same_selfJ (lateL a1 L) (by have := HLN.out; have := lateL_len a1 L; omega))).mono ?_); rintro e w8 ⟨rfl, q0⟩; have q1 := q0.below; replace HO := Lib.hid (blk_below HO.out q1); replace HE := Lib.hid (HE.out.below q1); replace HR := Lib.hid (HR.out.below q1); replace HB := Lib.hid (below_step HB.out q1); replace hc0 := (q1.cell (World.block_lt_of_cell? _ _ hc0)).trans hc0; have o0 := (blk_cell HO.out 0).trans rfl; have o1 := (blk_cell HO.out 1).trans rfl; have o2 := (blk_cell HO.out 2).trans rfl; have o3 := (blk_cell HO.out 3).trans rfl; have o4 := (blk_cell HO.out 4).trans rfl; have o5 := (blk_cell HO.out 5).trans rfl; have o6 := (blk_cell HO.out 6).trans rfl; clear q0 q1)
            | (go_at_call 46; refine (jobAny.calls kd y nr dp _).mono ?_; rintro e w9 ⟨rfl, q1⟩; replace HO := Lib.hid (blk_below HO.out q1); replace HE := Lib.hid (HE.out.below q1); replace HR := Lib.hid (HR.out.below q1); replace HB := Lib.hid (below_step HB.out q1); replace hc0 := (q1.cell (World.block_lt_of_cell? _ _ hc0)).trans hc0; clear o0 o1 o2 o3 o4 o5 o6 q1))
          obtain ⟨z, hz⟩ : ∃ z, jobV y nr = z := ⟨_, rfl⟩
          rw [hz]
          clear hz
          obtain ⟨W5, hW5⟩ : ∃ W, w9.alloc (.cells #[.int .i64 z.f0, .int .i64 z.f1, .int .i64 z.f2, .int .i64 z.f3] 65) = W := ⟨_, rfl⟩
          have z0 : W5.drew.cell? ⟨w9.heap.size, 0, none⟩ = some (.int .i64 z.f0) := by rw [← hW5]; exact (blk_cell (heap_alloc_new w9 (.cells #[.int .i64 z.f0, .int .i64 z.f1, .int .i64 z.f2, .int .i64 z.f3] 65)) 0).trans rfl
          replace hc0 : W5.drew.cell? ⟨hb, 0, none⟩ = some (.slice RA L.length RC) := by rw [← hW5]; exact ((below_alloc (Below.refl _ _) _).cell (World.block_lt_of_cell? _ _ hc0)).trans hc0
          replace HE : Hid (ExP W5.drew x h L) := by rw [← hW5]; exact (HE.out.below (below_alloc (Below.refl _ _) _)).below (below_drew (Below.refl _ _))
          replace HR : Hid (RfJ W5.drew hb L) := by rw [← hW5]; exact (HR.out.below (below_alloc (Below.refl _ _) _)).below (below_drew (Below.refl _ _))
          replace HB : Hid (Below w.heap.size w W5.drew) := by rw [← hW5]; exact below_drew1 (below_alloc HB.out _)
          rw [hW5]
          clear hW5 HO HRD HC1 HC2 HD1 HD2
          obtain ⟨bz, hbz⟩ : ∃ b, w9.heap.size = b := ⟨_, rfl⟩
          rw [hbz] at z0 ⊢
          clear hbz
          refine start_ (n := 43) (S := fun w' => w'.cell? ⟨hb, 0, none⟩ = some (.slice RA L.length RC) ∧ w'.cell? ⟨bz, 0, none⟩ = some (.int .i64 z.f0)) (ds := []) #[false, false, false, false, false, false, false, false, false, false, false, false, false, false, false, false, false, false, false, false, false, false, false, false, false, false, false, false, false, false, false, false, false, false, false, false, false, false, false, false, false, false, false] (by kernel_rfl) rfl rfl ⟨hc0, z0⟩ (fun hHeld => ?_); refine with_tabW plays.tab25 plays.bits25 (fun HT_ HW_ => ?_)
          generalize W5.drew = w8 at HE HR HB hc0 z0 hHeld ⊢
          refine pure_ (i := 0) (N := some 91) (v := ?_) (a' := ?_) #[true, false, false, false, false, false, false, false, false, false, false, false, false, false, false, false, false, false, false, false, false, false, false, false, false, false, false, false, false, false, false, false, false, false, false, false, false, false, false, false, false, false, false] rfl rfl (any_of HT_.out (by kernel_rfl)) (fun _ _ _ h => h) (Or.inl ⟨by rfl, ?_⟩) ?_ ?_
          rotate_left
          · intro w'
            go_simp
            with_reducible rfl
          rotate_left
          · simp only [Act.put, List.setIfInBounds_toArray, List.set_cons_zero, List.set_cons_succ, i64_w, i32_w]
            rfl
          refine pure_ (i := 1) (N := some 92) (v := ?_) (a' := ?_) #[true, true, false, false, false, false, false, false, false, false, false, false, false, false, false, false, false, false, false, false, false, false, false, false, false, false, false, false, false, false, false, false, false, false, false, false, false, false, false, false, false, false, false] rfl rfl (any_of HT_.out (by kernel_rfl)) (fun _ _ _ h => h) (Or.inl ⟨by rfl, ?_⟩) ?_ ?_
          rotate_left
          · intro w'
            go_simp
            with_reducible rfl
          rotate_left
          · simp only [Act.put, List.setIfInBounds_toArray, List.set_cons_zero, List.set_cons_succ, i64_w, i32_w]
            rfl
          refine pure_ (i := 2) (N := some 93) (v := ?_) (a' := ?_) #[true, true, true, false, false, false, false, false, false, false, false, false, false, false, false, false, false, false, false, false, false, false, false, false, false, false, false, false, false, false, false, false, false, false, false, false, false, false, false, false, false, false, false] rfl rfl (any_of HT_.out (by kernel_rfl)) (fun _ _ _ h => h) (Or.inl ⟨by rfl, ?_⟩) ?_ ?_
          rotate_left
          · intro w'
            go_simp
            with_reducible rfl
          rotate_left
          · simp only [Act.put, List.setIfInBounds_toArray, List.set_cons_zero, List.set_cons_succ, i64_w, i32_w]
            rfl
          refine pure_ (i := 3) (N := some 94) (v := ?_) (a' := ?_) #[true, true, true, true, false, false, false, false, false, false, false, false, false, false, false, false, false, false, false, false, false, false, false, false, false, false, false, false, false, false, false, false, false, false, false, false, false, false, false, false, false, false, false] rfl rfl (any_of HT_.out (by kernel_rfl)) (fun _ _ _ h => h) (Or.inl ⟨by rfl, ?_⟩) ?_ ?_
          rotate_left
          · intro w'
            go_simp
            with_reducible rfl
          rotate_left
          · simp only [Act.put, List.setIfInBounds_toArray, List.set_cons_zero, List.set_cons_succ, i64_w, i32_w]
            rfl
          refine pure_ (i := 4) (N := some 95) (v := ?_) (a' := ?_) #[true, true, true, true, true, false, false, false, false, false, false, false, false, false, false, false, false, false, false, false, false, false, false, false, false, false, false, false, false, false, false, false, false, false, false, false, false, false, false, false, false, false, false] rfl rfl (any_of HT_.out (by kernel_rfl)) (fun _ _ _ h => h) (Or.inl ⟨by rfl, ?_⟩) ?_ ?_
          rotate_left
          · intro w'
            go_simp
            with_reducible rfl
          rotate_left
          · simp only [Act.put, List.setIfInBounds_toArray, List.set_cons_zero, List.set_cons_succ, i64_w, i32_w]
            rfl
          refine pure_ (i := 5) (N := some 96) (v := ?_) (a' := ?_) #[true, true, true, true, true, true, false, false, false, false, false, false, false, false, false, false, false, false, false, false, false, false, false, false, false, false, false, false, false, false, false, false, false, false, false, false, false, false, false, false, false, false, false] rfl rfl (any_of HT_.out (by kernel_rfl)) (fun _ _ _ h => h) (Or.inl ⟨by rfl, ?_⟩) ?_ ?_
          rotate_left
          · intro w'
            go_simp
            with_reducible rfl
          rotate_left
          · simp only [Act.put, List.setIfInBounds_toArray, List.set_cons_zero, List.set_cons_succ, i64_w, i32_w]
            rfl
          refine pure_ (i := 6) (N := some 97) (v := ?_) (a' := ?_) #[true, true, true, true, true, true, true, false, false, false, false, false, false, false, false, false, false, false, false, false, false, false, false, false, false, false, false, false, false, false, false, false, false, false, false, false, false, false, false, false, false, false, false] rfl rfl (any_of HT_.out (by kernel_rfl)) (fun _ _ _ h => h) (Or.inl ⟨by rfl, ?_⟩) ?_ ?_
          rotate_left
          · intro w'
            go_simp
            with_reducible rfl
          rotate_left
          · simp only [Act.put, List.setIfInBounds_toArray, List.set_cons_zero, List.set_cons_succ, i64_w, i32_w]
            rfl
          refine pure_ (i := 7) (N := some 98) (v := ?_) (a' := ?_) #[true, true, true, true, true, true, true, true, false, false, false, false, false, false, false, false, false, false, false, false, false, false, false, false, false, false, false, false, false, false, false, false, false, false, false, false, false, false, false, false, false, false, false] rfl rfl (any_of HT_.out (by kernel_rfl)) (fun _ _ _ h => h) (Or.inl ⟨by rfl, ?_⟩) ?_ ?_
          rotate_left
          · intro w'
            go_simp
            with_reducible rfl
          rotate_left
          · simp only [Act.put, List.setIfInBounds_toArray, List.set_cons_zero, List.set_cons_succ, i64_w, i32_w]
            rfl
          refine pure_ (i := 8) (N := some 99) (v := ?_) (a' := ?_) #[true, true, true, true, true, true, true, true, true, false, false, false, false, false, false, false, false, false, false, false, false, false, false, false, false, false, false, false, false, false, false, false, false, false, false, false, false, false, false, false, false, false, false] rfl rfl (any_of HT_.out (by kernel_rfl)) (fun _ _ _ h => h) (Or.inl ⟨by rfl, ?_⟩) ?_ ?_
          rotate_left
          · intro w'
            go_simp
            with_reducible rfl
          rotate_left
          · simp only [Act.put, List.setIfInBounds_toArray, List.set_cons_zero, List.set_cons_succ, i64_w, i32_w]
            rfl
          refine pure_ (i := 9) (N := some 100) (v := ?_) (a' := ?_) #[true, true, true, true, true, true, true, true, true, true, false, false, false, false, false, false, false, false, false, false, false, false, false, false, false, false, false, false, false, false, false, false, false, false, false, false, false, false, false, false, false, false, false] rfl rfl (any_of HT_.out (by kernel_rfl)) (fun _ _ _ h => h) (Or.inl ⟨by rfl, ?_⟩) ?_ ?_
          rotate_left
          · intro w'
            go_simp
            with_reducible rfl
          rotate_left
          · simp only [Act.put, List.setIfInBounds_toArray, List.set_cons_zero, List.set_cons_succ, i64_w, i32_w]
            rfl
          refine pure_ (i := 10) (N := some 101) (v := ?_) (a' := ?_) #[true, true, true, true, true, true, true, true, true, true, true, false, false, false, false, false, false, false, false, false, false, false, false, false, false, false, false, false, false, false, false, false, false, false, false, false, false, false, false, false, false, false, false] rfl rfl (any_of HT_.out (by kernel_rfl)) (fun _ _ _ h => h) (Or.inl ⟨by rfl, ?_⟩) ?_ ?_
          rotate_left
          · intro w'
            go_simp
            with_reducible rfl
          rotate_left
          · simp only [Act.put, List.setIfInBounds_toArray, List.set_cons_zero, List.set_cons_succ, i64_w, i32_w]
            rfl
          refine pure_ (i := 11) (N := some 102) (v := ?_) (a' := ?_) #[true, true, true, true, true, true, true, true, true, true, true, true, false, false, false, false, false, false, false, false, false, false, false, false, false, false, false, false, false, false, false, false, false, false, false, false, false, false, false, false, false, false, false] rfl rfl (any_of HT_.out (by kernel_rfl)) (fun _ _ _ h => h) (Or.inl ⟨by rfl, ?_⟩) ?_ ?_
          rotate_left
          · intro w'
            go_simp
            with_reducible rfl
          rotate_left
          · simp only [Act.put, List.setIfInBounds_toArray, List.set_cons_zero, List.set_cons_succ, i64_w, i32_w]
            rfl
          refine pure_ (i := 12) (N := some 103) (v := ?_) (a' := ?_) #[true, true, true, true, true, true, true, true, true, true, true, true, true, false, false, false, false, false, false, false, false, false, false, false, false, false, false, false, false, false, false, false, false, false, false, false, false, false, false, false, false, false, false] rfl rfl (any_of HT_.out (by kernel_rfl)) (fun _ _ _ h => h) (Or.inl ⟨by rfl, ?_⟩) ?_ ?_
          rotate_left
          · intro w'
            go_simp
            with_reducible rfl
          rotate_left
          · simp only [Act.put, List.setIfInBounds_toArray, List.set_cons_zero, List.set_cons_succ, i64_w, i32_w]
            rfl
          refine pure_ (i := 13) (N := some 104) (v := ?_) (a' := ?_) #[true, true, true, true, true, true, true, true, true, true, true, true, true, true, false, false, false, false, false, false, false, false, false, false, false, false, false, false, false, false, false, false, false, false, false, false, false, false, false, false, false, false, false] rfl rfl (any_of HT_.out (by kernel_rfl)) (fun _ _ _ h => h) (Or.inl ⟨by rfl, ?_⟩) ?_ ?_
          rotate_left
          · intro w'
            go_simp
            with_reducible rfl
          rotate_left
          · simp only [Act.put, List.setIfInBounds_toArray, List.set_cons_zero, List.set_cons_succ, i64_w, i32_w]
            rfl
          refine pure_ (i := 14) (N := some 105) (v := ?_) (a' := ?_) #[true, true, true, true, true, true, true, true, true, true, true, true, true, true, true, false, false, false, false, false, false, false, false, false, false, false, false, false, false, false, false, false, false, false, false, false, false, false, false, false, false, false, false] rfl rfl (any_of HT_.out (by kernel_rfl)) (fun _ _ _ h => h) (Or.inl ⟨by rfl, ?_⟩) ?_ ?_
          rotate_left
          · intro w'
            go_simp
            with_reducible rfl
          rotate_left
          · simp only [Act.put, List.setIfInBounds_toArray, List.set_cons_zero, List.set_cons_succ, i64_w, i32_w]
            rfl
          refine pure_ (i := 15) (N := some 106) (v := ?_) (a' := ?_) #[true, true, true, true, true, true, true, true, true, true, true, true, true, true, true, true, false, false, false, false, false, false, false, false, false, false, false, false, false, false, false, false, false, false, false, false, false, false, false, false, false, false, false] rfl rfl (any_of HT_.out (by kernel_rfl)) (fun _ _ _ h => h) (Or.inl ⟨by rfl, ?_⟩) ?_ ?_
          rotate_left
          · intro w'
            go_simp
            with_reducible rfl
          rotate_left
          · simp only [Act.put, List.setIfInBounds_toArray, List.set_cons_zero, List.set_cons_succ, i64_w, i32_w]
            rfl
          refine pure_ (i := 17) (N := some 108) (v := ?_) (a' := ?_) #[true, true, true, true, true, true, true, true, true, true, true, true, true, true, true, true, false, true, false, false, false, false, false, false, false, false, false, false, false, false, false, false, false, false, false, false, false, false, false, false, false, false, false] rfl rfl (any_of HT_.out (by kernel_rfl)) (fun _ _ _ h => h) (Or.inl ⟨by rfl, ?_⟩) ?_ ?_
          rotate_left
          · intro w'
            go_simp
            with_reducible rfl
          rotate_left
          · simp only [Act.put, List.setIfInBounds_toArray, List.set_cons_zero, List.set_cons_succ, i64_w, i32_w]
            rfl
          refine pure_ (i := 18) (N := some 109) (v := ?_) (a' := ?_) #[true, true, true, true, true, true, true, true, true, true, true, true, true, true, true, true, false, true, true, false, false, false, false, false, false, false, false, false, false, false, false, false, false, false, false, false, false, false, false, false, false, false, false] rfl rfl (any_of HT_.out (by kernel_rfl)) (fun _ _ _ h => h) (Or.inl ⟨by rfl, ?_⟩) ?_ ?_
          rotate_left
          · intro w'
            go_simp
            with_reducible rfl
          rotate_left
          · simp only [Act.put, List.setIfInBounds_toArray, List.set_cons_zero, List.set_cons_succ, i64_w, i32_w]
            rfl
          refine pure_ (i := 19) (N := some 110) (v := ?_) (a' := ?_) #[true, true, true, true, true, true, true, true, true, true, true, true, true, true, true, true, false, true, true, true, false, false, false, false, false, false, false, false, false, false, false, false, false, false, false, false, false, false, false, false, false, false, false] rfl rfl (any_of HT_.out (by kernel_rfl)) (fun _ _ _ h => h) (Or.inl ⟨by rfl, ?_⟩) ?_ ?_
          rotate_left
          · intro w'
            go_simp
            with_reducible rfl
          rotate_left
          · simp only [Act.put, List.setIfInBounds_toArray, List.set_cons_zero, List.set_cons_succ, i64_w, i32_w]
            rfl
          refine take_ (i := 20) (N := some 111) (v := ?_) (a' := ?_) #[true, true, true, true, true, true, true, true, true, true, true, true, true, true, true, true, false, true, true, true, true, false, false, false, false, false, false, false, false, false, false, false, false, false, false, false, false, false, false, false, false, false, false] rfl rfl (take_ofW HT_.out HW_.out (by kernel_rfl)) (fun _ _ _ h => h) (Or.inl ⟨by rfl, ?_⟩) hHeld ?_ ?_
          rotate_left
          · rintro w' ⟨s0, s1⟩
            go_simp
            with_reducible rfl
          rotate_left
          · simp only [Act.put, List.setIfInBounds_toArray, List.set_cons_zero, List.set_cons_succ, i64_w, i32_w]
            rfl
          refine pure_ (i := 21) (N := some 112) (v := ?_) (a' := ?_) #[true, true, true, true, true, true, true, true, true, true, true, true, true, true, true, true, false, true, true, true, true, true, false, false, false, false, false, false, false, false, false, false, false, false, false, false, false, false, false, false, false, false, false] rfl rfl (any_of HT_.out (by kernel_rfl)) (fun _ _ _ h => h) (Or.inl ⟨by rfl, ?_⟩) ?_ ?_
          rotate_left
          · intro w'
            go_simp
            with_reducible rfl
          rotate_left
          · simp only [Act.put, List.setIfInBounds_toArray, List.set_cons_zero, List.set_cons_succ, i64_w, i32_w]
            rfl
          refine pure_ (i := 22) (N := some 113) (v := ?_) (a' := ?_) #[true, true, true, true, true, true, true, true, true, true, true, true, true, true, true, true, false, true, true, true, true, true, true, false, false, false, false, false, false, false, false, false, false, false, false, false, false, false, false, false, false, false, false] rfl rfl (any_of HT_.out (by kernel_rfl)) (fun _ _ _ h => h) (Or.inl ⟨by rfl, ?_⟩) ?_ ?_
          rotate_left
          · intro w'
            go_simp
            with_reducible rfl
          rotate_left
          · simp only [Act.put, List.setIfInBounds_toArray, List.set_cons_zero, List.set_cons_succ, i64_w, i32_w]
            rfl
          refine one_ (i := 16) (N := some 107) #[true, true, true, true, true, true, true, true, true, true, true, true, true, true, true, true, true, true, true, true, true, true, true, false, false, false, false, false, false, false, false, false, false, false, false, false, false, false, false, false, false, false, false] rfl rfl (one_of HT_.out (by kernel_rfl)) (by decide) (fun K hK => ?_)
          refine goes_ Try.func50 (by kernel_rfl) rfl #[.pointer (some ⟨x, 0, none⟩)] (by rfl) rfl rfl (by (try simp only [List.map_toArray, List.map_cons, List.map_nil]); first | done | rfl) ?_
          refine (idle.calls x h L w8 HE.out).mono ?_
          rintro e w9 ⟨rfl, rfl⟩
          refine ⟨_, rfl, ?_⟩
          refine hK.out _ _ hHeld (fun hHeld => ?_)
          clear hK K
          refine norm_ (a' := ?_) ?_ ?_
          rotate_left
          · show Act.put _ (some 107) _ = _
            simp only [Act.put, List.setIfInBounds_toArray, List.set_cons_zero, List.set_cons_succ, i64_w, i32_w]
            rfl
          refine pure_ (i := 23) (N := some 114) (v := ?_) (a' := ?_) #[true, true, true, true, true, true, true, true, true, true, true, true, true, true, true, true, true, true, true, true, true, true, true, true, false, false, false, false, false, false, false, false, false, false, false, false, false, false, false, false, false, false, false] rfl rfl (any_of HT_.out (by kernel_rfl)) (fun _ _ _ h => h) (Or.inl ⟨by rfl, ?_⟩) ?_ ?_
          rotate_left
          · intro w'
            go_simp
            with_reducible rfl
          rotate_left
          · simp only [Act.put, List.setIfInBounds_toArray, List.set_cons_zero, List.set_cons_succ, i64_w, i32_w]
            rfl
          refine pure_ (i := 24) (N := some 115) (v := ?_) (a' := ?_) #[true, true, true, true, true, true, true, true, true, true, true, true, true, true, true, true, true, true, true, true, true, true, true, true, true, false, false, false, false, false, false, false, false, false, false, false, false, false, false, false, false, false, false] rfl rfl (any_of HT_.out (by kernel_rfl)) (fun _ _ _ h => h) (Or.inl ⟨by rfl, ?_⟩) ?_ ?_
          rotate_left
          · intro w'
            go_simp
            with_reducible rfl
          rotate_left
          · simp only [Act.put, List.setIfInBounds_toArray, List.set_cons_zero, List.set_cons_succ, i64_w, i32_w]
            rfl
          refine pure_ (i := 25) (N := some 116) (v := ?_) (a' := ?_) #[true, true, true, true, true, true, true, true, true, true, true, true, true, true, true, true, true, true, true, true, true, true, true, true, true, true, false, false, false, false, false, false, false, false, false, false, false, false, false, false, false, false, false] rfl rfl (any_of HT_.out (by kernel_rfl)) (fun _ _ _ h => h) (Or.inl ⟨by rfl, ?_⟩) ?_ ?_
          rotate_left
          · intro w'
            go_simp
            with_reducible rfl
          rotate_left
          · simp only [Act.put, List.setIfInBounds_toArray, List.set_cons_zero, List.set_cons_succ, i64_w, i32_w]
            rfl
          refine pure_ (i := 26) (N := some 117) (v := ?_) (a' := ?_) #[true, true, true, true, true, true, true, true, true, true, true, true, true, true, true, true, true, true, true, true, true, true, true, true, true, true, true, false, false, false, false, false, false, false, false, false, false, false, false, false, false, false, false] rfl rfl (any_of HT_.out (by kernel_rfl)) (fun _ _ _ h => h) (Or.inl ⟨by rfl, ?_⟩) ?_ ?_
          rotate_left
          · intro w'
            go_simp
            with_reducible rfl
          rotate_left
          · simp only [Act.put, List.setIfInBounds_toArray, List.set_cons_zero, List.set_cons_succ, i64_w, i32_w]
            rfl
          refine pure_ (i := 28) (N := some 119) (v := ?_) (a' := ?_) #[true, true, true, true, true, true, true, true, true, true, true, true, true, true, true, true, true, true, true, true, true, true, true, true, true, true, true, false, true, false, false, false, false, false, false, false, false, false, false, false, false, false, false] rfl rfl (any_of HT_.out (by kernel_rfl)) (fun _ _ _ h => h) (Or.inl ⟨by rfl, ?_⟩) ?_ ?_
          rotate_left
          · intro w'
            go_simp
            with_reducible rfl
          rotate_left
          · simp only [Act.put, List.setIfInBounds_toArray, List.set_cons_zero, List.set_cons_succ, i64_w, i32_w]
            rfl
          refine one_ (i := 27) (N := some 118) #[true, true, true, true, true, true, true, true, true, true, true, true, true, true, true, true, true, true, true, true, true, true, true, true, true, true, true, true, true, false, false, false, false, false, false, false, false, false, false, false, false, false, false] rfl rfl (one_of HT_.out (by kernel_rfl)) (by decide) (fun K hK => ?_)
          refine goes_ Try.func48 (by kernel_rfl) rfl #[.pointer (some ⟨x, 0, none⟩)] (by rfl) rfl rfl (by (try simp only [List.map_toArray, List.map_cons, List.map_nil]); first | done | rfl) ?_
          refine (left.calls x h L w8 HE.out (by have := HLN.out; omega) HGL.out.lefts).mono ?_
          rintro e w9 ⟨rfl, q1⟩
          refine ⟨_, rfl, ?_⟩
          replace HE := Lib.hid (HE.out.below q1)
          replace HR := Lib.hid (HR.out.below q1)
          replace HB := Lib.hid (below_step HB.out q1)
          replace hc0 := (q1.cell (World.block_lt_of_cell? w8 _ hc0)).trans hc0
          replace z0 := (q1.cell (World.block_lt_of_cell? w8 _ z0)).trans z0
          clear q1
          refine hK.out _ _ ⟨hc0, z0⟩ (fun hHeld => ?_)
          clear hK K
          refine norm_ (a' := ?_) ?_ ?_
          rotate_left
          · show Act.put _ (some 118) _ = _
            simp only [Act.put, List.setIfInBounds_toArray, List.set_cons_zero, List.set_cons_succ, i64_w, i32_w]
            rfl
          refine one_ (i := 29) (N := some 120) #[true, true, true, true, true, true, true, true, true, true, true, true, true, true, true, true, true, true, true, true, true, true, true, true, true, true, true, true, true, true, false, false, false, false, false, false, false, false, false, false, false, false, false] rfl rfl (one_of HT_.out (by kernel_rfl)) (by decide) (fun K hK => ?_)
          refine goes_ Try.func66 (by kernel_rfl) rfl #[.pointer (some ⟨hb, 0, none⟩)] (by rfl) rfl rfl (by (try simp only [List.map_toArray, List.map_cons, List.map_nil]); first | done | rfl) ?_
          refine (rleft.calls hb L w9 HR.out (by have := HLN.out; omega) HGL.out.lefts).mono ?_
          rintro e w10 ⟨rfl, rfl⟩
          refine ⟨_, rfl, ?_⟩
          refine hK.out _ _ hHeld (fun hHeld => ?_)
          clear hK K
          refine norm_ (a' := ?_) ?_ ?_
          rotate_left
          · show Act.put _ (some 120) _ = _
            simp only [Act.put, List.setIfInBounds_toArray, List.set_cons_zero, List.set_cons_succ, i64_w, i32_w]
            rfl
          refine pure_ (i := 30) (N := some 121) (v := ?_) (a' := ?_) #[true, true, true, true, true, true, true, true, true, true, true, true, true, true, true, true, true, true, true, true, true, true, true, true, true, true, true, true, true, true, true, false, false, false, false, false, false, false, false, false, false, false, false] rfl rfl (any_of HT_.out (by kernel_rfl)) (fun _ _ _ h => h) (Or.inl ⟨by rfl, ?_⟩) ?_ ?_
          rotate_left
          · intro w'
            go_simp
            with_reducible rfl
          rotate_left
          · simp only [Act.put, List.setIfInBounds_toArray, List.set_cons_zero, List.set_cons_succ, i64_w, i32_w]
            rfl
          refine pure_ (i := 31) (N := some 122) (v := ?_) (a' := ?_) #[true, true, true, true, true, true, true, true, true, true, true, true, true, true, true, true, true, true, true, true, true, true, true, true, true, true, true, true, true, true, true, true, false, false, false, false, false, false, false, false, false, false, false] rfl rfl (any_of HT_.out (by kernel_rfl)) (fun _ _ _ h => h) (Or.inl ⟨by rfl, ?_⟩) ?_ ?_
          rotate_left
          · intro w'
            go_simp
            with_reducible rfl
          rotate_left
          · simp only [Act.put, List.setIfInBounds_toArray, List.set_cons_zero, List.set_cons_succ, i64_w, i32_w]
            rfl
          refine pure_ (i := 32) (N := some 123) (v := ?_) (a' := ?_) #[true, true, true, true, true, true, true, true, true, true, true, true, true, true, true, true, true, true, true, true, true, true, true, true, true, true, true, true, true, true, true, true, true, false, false, false, false, false, false, false, false, false, false] rfl rfl (any_of HT_.out (by kernel_rfl)) (fun _ _ _ h => h) (Or.inl ⟨by rfl, ?_⟩) ?_ ?_
          rotate_left
          · intro w'
            go_simp
            with_reducible rfl
          rotate_left
          · simp only [Act.put, List.setIfInBounds_toArray, List.set_cons_zero, List.set_cons_succ, i64_w, i32_w]
            rfl
          refine pure_ (i := 33) (N := some 124) (v := ?_) (a' := ?_) #[true, true, true, true, true, true, true, true, true, true, true, true, true, true, true, true, true, true, true, true, true, true, true, true, true, true, true, true, true, true, true, true, true, true, false, false, false, false, false, false, false, false, false] rfl rfl (any_of HT_.out (by kernel_rfl)) (fun _ _ _ h => h) (Or.inl ⟨by rfl, ?_⟩) ?_ ?_
          rotate_left
          · intro w'
            go_simp
            with_reducible rfl
          rotate_left
          · simp only [Act.put, List.setIfInBounds_toArray, List.set_cons_zero, List.set_cons_succ, i64_w, i32_w]
            rfl
          refine pure_ (i := 34) (N := some 125) (v := ?_) (a' := ?_) #[true, true, true, true, true, true, true, true, true, true, true, true, true, true, true, true, true, true, true, true, true, true, true, true, true, true, true, true, true, true, true, true, true, true, true, false, false, false, false, false, false, false, false] rfl rfl (any_of HT_.out (by kernel_rfl)) (fun _ _ _ h => h) (Or.inl ⟨by rfl, ?_⟩) ?_ ?_
          rotate_left
          · intro w'
            go_simp
            with_reducible rfl
          rotate_left
          · simp only [Act.put, List.setIfInBounds_toArray, List.set_cons_zero, List.set_cons_succ, i64_w, i32_w]
            rfl
          refine take_ (i := 35) (N := some 126) (v := ?_) (a' := ?_) #[true, true, true, true, true, true, true, true, true, true, true, true, true, true, true, true, true, true, true, true, true, true, true, true, true, true, true, true, true, true, true, true, true, true, true, true, false, false, false, false, false, false, false] rfl rfl (take_ofW HT_.out HW_.out (by kernel_rfl)) (fun _ _ _ h => h) (Or.inl ⟨by rfl, ?_⟩) hHeld ?_ ?_
          rotate_left
          · rintro w' ⟨s0, s1⟩
            go_simp
            with_reducible rfl
          rotate_left
          · simp only [Act.put, List.setIfInBounds_toArray, List.set_cons_zero, List.set_cons_succ, i64_w, i32_w]
            rfl
          refine pure_ (i := 37) (N := some 128) (v := ?_) (a' := ?_) #[true, true, true, true, true, true, true, true, true, true, true, true, true, true, true, true, true, true, true, true, true, true, true, true, true, true, true, true, true, true, true, true, true, true, true, true, false, true, false, false, false, false, false] rfl rfl (any_of HT_.out (by kernel_rfl)) (fun _ _ _ h => h) (Or.inl ⟨by rfl, ?_⟩) ?_ ?_
          rotate_left
          · intro w'
            go_simp
            with_reducible rfl
          rotate_left
          · simp only [Act.put, List.setIfInBounds_toArray, List.set_cons_zero, List.set_cons_succ, i64_w, i32_w]
            rfl
          refine pure_ (i := 38) (N := some 129) (v := ?_) (a' := ?_) #[true, true, true, true, true, true, true, true, true, true, true, true, true, true, true, true, true, true, true, true, true, true, true, true, true, true, true, true, true, true, true, true, true, true, true, true, false, true, true, false, false, false, false] rfl rfl (any_of HT_.out (by kernel_rfl)) (fun _ _ _ h => h) (Or.inl ⟨by rfl, ?_⟩) ?_ ?_
          rotate_left
          · intro w'
            go_simp
            with_reducible rfl
          rotate_left
          · simp only [Act.put, List.setIfInBounds_toArray, List.set_cons_zero, List.set_cons_succ, i64_w, i32_w]
            rfl
          refine take_ (i := 39) (N := some 130) (v := ?_) (a' := ?_) #[true, true, true, true, true, true, true, true, true, true, true, true, true, true, true, true, true, true, true, true, true, true, true, true, true, true, true, true, true, true, true, true, true, true, true, true, false, true, true, true, false, false, false] rfl rfl (take_ofW HT_.out HW_.out (by kernel_rfl)) (fun _ _ _ h => h) (Or.inl ⟨by rfl, ?_⟩) hHeld ?_ ?_
          rotate_left
          · rintro w' ⟨s0, s1⟩
            go_simp
            with_reducible rfl
          rotate_left
          · simp only [Act.put, List.setIfInBounds_toArray, List.set_cons_zero, List.set_cons_succ, i64_w, i32_w]
            rfl
          refine one_ (i := 36) (N := some 127) #[true, true, true, true, true, true, true, true, true, true, true, true, true, true, true, true, true, true, true, true, true, true, true, true, true, true, true, true, true, true, true, true, true, true, true, true, true, true, true, true, false, false, false] rfl rfl (one_of HT_.out (by kernel_rfl)) (by decide) (fun K hK => ?_)
          refine goes_ Try.func67 (by kernel_rfl) rfl #[.pointer (some ⟨x, 0, none⟩), .int .i64 z.f0] (by rfl) rfl rfl (by (try simp only [List.map_toArray, List.map_cons, List.map_nil]); first | done | rfl) ?_
          refine (has.calls x h z.f0 L w9 HE.out (by have := HLN.out; omega)).mono ?_
          rintro e w10 ⟨rfl, q1⟩
          refine ⟨_, rfl, ?_⟩
          replace HE := Lib.hid (HE.out.below q1)
          replace HR := Lib.hid (HR.out.below q1)
          replace HB := Lib.hid (below_step HB.out q1)
          replace hc0 := (q1.cell (World.block_lt_of_cell? w9 _ hc0)).trans hc0
          replace z0 := (q1.cell (World.block_lt_of_cell? w9 _ z0)).trans z0
          clear q1
          refine hK.out _ _ ⟨hc0, z0⟩ (fun hHeld => ?_)
          clear hK K
          refine norm_ (a' := ?_) ?_ ?_
          rotate_left
          · show Act.put _ (some 127) _ = _
            simp only [Act.put, List.setIfInBounds_toArray, List.set_cons_zero, List.set_cons_succ, i64_w, i32_w]
            rfl
          refine one_ (i := 40) (N := some 131) #[true, true, true, true, true, true, true, true, true, true, true, true, true, true, true, true, true, true, true, true, true, true, true, true, true, true, true, true, true, true, true, true, true, true, true, true, true, true, true, true, true, false, false] rfl rfl (one_of HT_.out (by kernel_rfl)) (by decide) (fun K hK => ?_)
          refine goes_ Try.func68 (by kernel_rfl) rfl #[.pointer (some ⟨hb, 0, none⟩), .int .i64 z.f0] (by rfl) rfl rfl (by (try simp only [List.map_toArray, List.map_cons, List.map_nil]); first | done | rfl) ?_
          refine (rhas.calls hb z.f0 L w10 HR.out (by have := HLN.out; omega)).mono ?_
          rintro e w11 ⟨rfl, rfl⟩
          refine ⟨_, rfl, ?_⟩
          refine hK.out _ _ hHeld (fun hHeld => ?_)
          clear hK K
          refine norm_ (a' := ?_) ?_ ?_
          rotate_left
          · show Act.put _ (some 131) _ = _
            simp only [Act.put, List.setIfInBounds_toArray, List.set_cons_zero, List.set_cons_succ, i64_w, i32_w]
            rfl
          refine pure_ (i := 41) (N := some 132) (v := ?_) (a' := ?_) #[true, true, true, true, true, true, true, true, true, true, true, true, true, true, true, true, true, true, true, true, true, true, true, true, true, true, true, true, true, true, true, true, true, true, true, true, true, true, true, true, true, true, false] rfl rfl (any_of HT_.out (by kernel_rfl)) (fun _ _ _ h => h) (Or.inl ⟨by rfl, ?_⟩) ?_ ?_
          rotate_left
          · intro w'
            go_simp
            with_reducible rfl
          rotate_left
          · simp only [Act.put, List.setIfInBounds_toArray, List.set_cons_zero, List.set_cons_succ, i64_w, i32_w]
            rfl
          refine pure_ (i := 42) (N := some 133) (v := ?_) (a' := ?_) #[true, true, true, true, true, true, true, true, true, true, true, true, true, true, true, true, true, true, true, true, true, true, true, true, true, true, true, true, true, true, true, true, true, true, true, true, true, true, true, true, true, true, true] rfl rfl (any_of HT_.out (by kernel_rfl)) (fun _ _ _ h => h) (Or.inl ⟨by rfl, ?_⟩) ?_ ?_
          rotate_left
          · intro w'
            go_simp
            with_reducible rfl
          rotate_left
          · simp only [Act.put, List.setIfInBounds_toArray, List.set_cons_zero, List.set_cons_succ, i64_w, i32_w]
            rfl
          refine done_ (done_of HT_.out (by kernel_rfl)) ?_
          clear hHeld
          go_wp2
          have hlt2 := HLT.out
          go_roundg (l0.length - (j + 1) + 1)
          case measure => omega
          case rel => exact ⟨j + 1, L, h, by go_num, by omega, by omega, by omega, HLN, HGL, HHW, HE, HR, HB⟩
      · obtain rfl : j = 60 := by omega
        have q0 : (60 : Int) < (l0.length : Int) := by omega
        go_wp2
        go_ret
        exact ⟨rfl, HB.out⟩
    · have q0 : ¬ (j : Int) < (l0.length : Int) := by omega
      go_wp2
      go_ret
      exact ⟨rfl, HB.out⟩

end Go.Proofs.Ytbkjoojfpmokaaa.PEdfPlays
