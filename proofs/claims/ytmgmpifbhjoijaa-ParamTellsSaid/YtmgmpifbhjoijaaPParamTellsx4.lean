-- Made by px.py (a program of this session, over the kit's printer) out of the translation. Not trusted: Lean checks it.
import Derived.Test.YtmgmpifbhjoijaaPParamTellsx0
namespace Go.Proofs.Ytmgmpifbhjoijaa.PParamTells
open Go.RowKit Go.Proofs.YtmgmpifbhjoijaaW.PrintWords Go.Proofs.YtmgmpifbhjoijaaW.PrintLast Go.Proofs.YtmgmpifbhjoijaaW.PrintMore
attribute [local go_sem] max2_int min2_int max_two min_two max_three min_three max_four min_four   -- for this text's walks alone
set_option linter.unusedVariables false
set_option linter.unusedSimpArgs false

/-! ### horariumref01_Less: function 73 (by hand) -/
/-- Places as a row of cells. -/
def arrB (f : Nat → Bool) : Array Value := ((List.range 256).map (fun i => Value.bool (f i))).toArray
theorem arrB_size (f : Nat → Bool) : (arrB f).size = 256 := by unfold arrB; simp
theorem arrB_get (f : Nat → Bool) {k : Nat} (h : k < 256) : (arrB f)[k]? = some (.bool (f k)) := by unfold arrB; simp [h]
theorem arrB_set (f : Nat → Bool) {q : Nat} (h : q < 256) (b : Bool) : (arrB f).setIfInBounds q (.bool b) = arrB (fun i => if i = q then b else f i) := by
  apply Array.ext'
  unfold arrB
  rw [Array.toList_setIfInBounds]
  apply List.ext_getElem?
  intro i
  rw [List.getElem?_set]
  by_cases e : q = i
  · subst e; simp [h]
  · have e2 : ¬ i = q := fun x => e x.symm
    simp [e, e2]
    by_cases h8 : i < 256
    · simp [h8, e2]
    · simp [h8]
theorem arrB_one (f : Nat → Bool) : (arrB f).all (·.oneCell') = true := by
  rw [Array.all_eq_true]
  intro i hi
  have := arrB_get f (k := i) (by rw [arrB_size] at hi; exact hi)
  rw [Array.getElem?_eq_getElem hi] at this
  rw [Option.some.inj this]; rfl
theorem zeroB : Try.zeroCells108 = arrB (fun _ => false) := by kernel_rfl
theorem blk_off {w : World} {g k : Nat} {o : Obj} (h : w.heap[g]? = some o) (hne : g ≠ k) (j : Nat) (v : Value) : (w.setCell ⟨k, j, none⟩ v).heap[g]? = some o := (Below.heap_setCell w ⟨k, j, none⟩ v g hne).trans h
theorem blk_cellB {w : World} {g t : Nat} {f : Nat → Bool} (h : w.heap[g]? = some (.cells (arrB f) t (0, 0))) {k : Nat} (hk : k < 256) : w.cell? ⟨g, k, none⟩ = some (.bool (f k)) := (blk_cell h k).trans (arrB_get f hk)
theorem blk_putB {w : World} {g t : Nat} {f f' : Nat → Bool} (h : w.heap[g]? = some (.cells (arrB f) t (0, 0))) {k : Nat} (hk : k < 256) {v : Bool} (e : (fun i => if i = k then v else f i) = f') : (w.setCell ⟨g, k, none⟩ (.bool v)).heap[g]? = some (.cells (arrB f') t (0, 0)) := by rw [← e]; exact blk_put h k _ (arrB_set f hk v)
theorem storeB {w : World} {g t : Nat} {f old : Nat → Bool} (h : w.heap[g]? = some (.cells (arrB old) t (0, 0))) : (storeCells ⟨g, 0, none⟩ (arrB f).toList).run Try.prog w = .ok () (w.setRow g (arrB f)) := by
  have := run_storeCells_from (P := Try.prog) g t (arrB f).toList 0 (arrB old) w h (by simp [arrB_size]) (fun v hv => (Array.all_eq_true_iff_forall_mem.1 (arrB_one f)) v (by simpa using hv))
  simpa [arrB_size] using this
theorem below_row {B g : Nat} {w0 w : World} (hb : Below B w0 w) (hBg : B ≤ g) (cs : Array Value) : Below B w0 (w.setRow g cs) :=
  hb.trans ⟨rfl, rfl, rfl, by simp [World.setRow], fun k hk => setRow_other w g k cs (by omega)⟩
/-- The first places of a number. -/
def upto (j : Nat) (x : Hb.B) : Nat → Bool := fun i => decide (i < j) && x.getLsbD i
theorem upto_zero (x : Hb.B) : upto 0 x = fun _ => false := by funext i; simp [upto]
theorem upto_all (x : Hb.B) : upto 256 x = x.getLsbD := by
  funext i
  unfold upto
  by_cases h : i < 256
  · simp [h]
  · simp [h, BitVec.getLsbD_of_ge x i (by omega)]
theorem upto_succ {j : Nat} {x : Hb.B} {v : Bool} (h : x.getLsbD j = v) : (fun i => if i = j then v else upto j x i) = upto (j + 1) x := by
  funext i
  unfold upto
  by_cases e : i = j
  · subst e; simp [h]
  · have : (i < j + 1) ↔ (i < j) := by omega
    simp [e, this]
set_option maxHeartbeats 8000000 in
set_option maxRecDepth 100000 in
theorem plus.calls (x y : Hb.B) (w : World) : Calls Try.prog 108 #[.agg (arrB x.getLsbD), .agg (arrB y.getLsbD)] w fun e w' => e = .returned (.agg (arrB (x + y).getLsbD)) ∧ Below w.heap.size w w' := by
  go_enter Try.func108, Try.ntmps108
  obtain ⟨X, hX⟩ : ∃ X, arrB x.getLsbD = X := ⟨_, rfl⟩
  obtain ⟨Y, hY⟩ : ∃ X, arrB y.getLsbD = X := ⟨_, rfl⟩
  rw [hX, hY]
  go_wp2
  obtain ⟨W, hW⟩ : ∃ W, (((w.alloc (.cells X 108)).alloc (.cells Y 108)).alloc (.cells Try.zeroCells108 108)).alloc (.cells Try.zeroCells108 108) = W := ⟨_, rfl⟩
  have HX : Hid (W.heap[w.heap.size]? = some (.cells (arrB x.getLsbD) 108 (0, 0))) := by rw [← hW, hX]; exact blk_alloc (blk_alloc (blk_alloc (heap_alloc_new w _) _) _) _
  have HY : Hid (W.heap[w.heap.size + 1]? = some (.cells (arrB y.getLsbD) 108 (0, 0))) := by rw [← hW, hY]; have := blk_alloc (blk_alloc (heap_alloc_new (w.alloc (.cells X 108)) (.cells Y 108)) (.cells Try.zeroCells108 108)) (.cells Try.zeroCells108 108); simp only [World.size_alloc] at this; exact this
  have HR : Hid (W.heap[w.heap.size + 1 + 1]? = some (.cells (arrB (fun _ => false)) 108 (0, 0))) := by rw [← hW, ← zeroB]; have := blk_alloc (heap_alloc_new ((w.alloc (.cells X 108)).alloc (.cells Y 108)) (.cells Try.zeroCells108 108)) (.cells Try.zeroCells108 108); simp only [World.size_alloc] at this; exact this
  have HO : Hid (W.heap[w.heap.size + 1 + 1 + 1]? = some (.cells (arrB (upto 0 (x + y))) 108 (0, 0))) := by rw [← hW, upto_zero, ← zeroB]; have := heap_alloc_new (((w.alloc (.cells X 108)).alloc (.cells Y 108)).alloc (.cells Try.zeroCells108 108)) (.cells Try.zeroCells108 108); simp only [World.size_alloc] at this; exact this
  have HB : Hid (Below w.heap.size w W) := by rw [← hW]; exact below_alloc (below_alloc (below_alloc (below_alloc (Below.refl _ _) _) _) _) _
  rw [hW]
  clear hW hX hY
  obtain ⟨b1, h1⟩ : ∃ b, w.heap.size = b := ⟨_, rfl⟩
  obtain ⟨b2, h2⟩ : ∃ b, b1 + 1 = b := ⟨_, rfl⟩
  obtain ⟨b3, h3⟩ : ∃ b, b2 + 1 = b := ⟨_, rfl⟩
  obtain ⟨b4, h4⟩ : ∃ b, b3 + 1 = b := ⟨_, rfl⟩
  rw [h1] at HX HY HR HO HB ⊢
  rw [h2] at HY HR HO ⊢
  rw [h3] at HR HO ⊢
  rw [h4] at HO ⊢
  go_loopg [6, 7] 257 (fun k v6 v7 wr => ∃ (j : Nat), v7 = .int .i64 (j : Int) ∧ v6 = .bool (BitVec.carry j x y false) ∧ j ≤ 256 ∧ 256 - j < k ∧ Hid (wr.heap[b1]? = some (.cells (arrB x.getLsbD) 108 (0, 0))) ∧ Hid (wr.heap[b2]? = some (.cells (arrB y.getLsbD) 108 (0, 0))) ∧ Hid (wr.heap[b3]? = some (.cells (arrB (fun _ => false)) 108 (0, 0))) ∧ Hid (wr.heap[b4]? = some (.cells (arrB (upto j (x + y))) 108 (0, 0))) ∧ Hid (Below b1 w wr))
  case atStart => exact ⟨0, rfl, by rw [Hb.carry_zero], by omega, by omega, HX, HY, HR, HO, HB⟩
  case round =>
    clear HX HY HR HO HB
    obtain ⟨j, rfl, rfl, hj, hk, HX, HY, HR, HO, HB⟩ := hrel
    by_cases hlt : j < 256
    · have j0 : (0 : Int) ≤ (j : Int) := by omega
      have j1 : (j : Int) < 256 := by omega
      have cx := blk_cellB HX.out hlt
      have cy := blk_cellB HY.out hlt
      have co := blk_cellB HO.out hlt
      have fo := blk_frozen HO.out j
      have pb := Hb.plus_bit x y hlt
      have pc := Hb.plus_carry x y j
      generalize x.getLsbD j = p at cx pb pc
      generalize y.getLsbD j = q at cy pb pc
      generalize BitVec.carry j x y false = c at *
      have HPB := Lib.hid pb
      have HPC := Lib.hid pc
      clear pb pc
      cases p <;> cases q <;> cases c <;>
        (go_wp2
         go_roundg (256 - (j + 1) + 1)
         case measure => omega
         case rel => exact ⟨j + 1, by go_num, by rw [HPC.out]; rfl, by omega, by omega, Lib.hid (blk_off HX.out (by omega) _ _), Lib.hid (blk_off HY.out (by omega) _ _), Lib.hid (blk_off HR.out (by omega) _ _), Lib.hid (blk_putB HO.out hlt (upto_succ (by rw [HPB.out]; rfl))), Lib.hid (HB.out.setCell (p := ⟨b4, j, none⟩) (by show b1 ≤ b4; omega) _)⟩)
    · obtain rfl : j = 256 := by omega
      have ho := HO.out
      have hr := HR.out
      go_wp2
      refine wp_load_row 108 (.tmp 5) rfl b4 (by rfl) 108 _ (0, 0) _ ho Try.underlying108 rfl (by rfl) ?_
      have hst := storeB (f := upto 256 (x + y)) hr
      go_wp2
      refine bodyPost_ret (results_cell_row rfl _ _ b3 108 _ (0, 0) _ (by rfl) (setRow_heap _ _ _ _ _ _ hr) Try.underlying108 rfl (by rfl)) rfl ⟨by rw [upto_all], ?_⟩
      rw [h1]
      exact below_row HB.out (by omega) _
theorem upto_shift (x : Hb.B) (k : Nat) : upto k (x <<< k) = fun _ => false := by
  funext i
  unfold upto
  by_cases h : i < k
  · simp [h]
  · simp [h]
set_option maxHeartbeats 8000000 in
set_option maxRecDepth 100000 in
theorem shift.calls (x : Hb.B) (s : Nat) (hs : s ≤ 256) (w : World) : Calls Try.prog 109 #[.agg (arrB x.getLsbD), .int .i64 (s : Int)] w fun e w' => e = .returned (.agg (arrB (x <<< s).getLsbD)) ∧ Below w.heap.size w w' := by
  go_enter Try.func109, Try.ntmps109
  obtain ⟨X, hX⟩ : ∃ X, arrB x.getLsbD = X := ⟨_, rfl⟩
  rw [hX]
  have s0 : (0 : Int) ≤ (s : Int) := by omega
  have s1 : (s : Int) ≤ 256 := by omega
  go_wp2
  obtain ⟨W, hW⟩ : ∃ W, ((w.alloc (.cells X 108)).alloc (.cells Try.zeroCells108 108)).alloc (.cells Try.zeroCells108 108) = W := ⟨_, rfl⟩
  have HX : Hid (W.heap[w.heap.size]? = some (.cells (arrB x.getLsbD) 108 (0, 0))) := by rw [← hW, hX]; exact blk_alloc (blk_alloc (heap_alloc_new w _) _) _
  have HR : Hid (W.heap[w.heap.size + 1]? = some (.cells (arrB (fun _ => false)) 108 (0, 0))) := by rw [← hW, ← zeroB]; have := blk_alloc (heap_alloc_new (w.alloc (.cells X 108)) (.cells Try.zeroCells108 108)) (.cells Try.zeroCells108 108); simp only [World.size_alloc] at this; exact this
  have HO : Hid (W.heap[w.heap.size + 1 + 1]? = some (.cells (arrB (upto s (x <<< s))) 108 (0, 0))) := by rw [← hW, upto_shift, ← zeroB]; have := heap_alloc_new ((w.alloc (.cells X 108)).alloc (.cells Try.zeroCells108 108)) (.cells Try.zeroCells108 108); simp only [World.size_alloc] at this; exact this
  have HB : Hid (Below w.heap.size w W) := by rw [← hW]; exact below_alloc (below_alloc (below_alloc (Below.refl _ _) _) _) _
  rw [hW]
  clear hW hX
  obtain ⟨b1, h1⟩ : ∃ b, w.heap.size = b := ⟨_, rfl⟩
  obtain ⟨b2, h2⟩ : ∃ b, b1 + 1 = b := ⟨_, rfl⟩
  obtain ⟨b3, h3⟩ : ∃ b, b2 + 1 = b := ⟨_, rfl⟩
  rw [h1] at HX HR HO HB ⊢
  rw [h2] at HR HO ⊢
  rw [h3] at HO ⊢
  go_loopg [6] 257 (fun k v6 wr => ∃ (j : Nat), v6 = .int .i64 (j : Int) ∧ s ≤ j ∧ j ≤ 256 ∧ 256 - j < k ∧ Hid (wr.heap[b1]? = some (.cells (arrB x.getLsbD) 108 (0, 0))) ∧ Hid (wr.heap[b2]? = some (.cells (arrB (fun _ => false)) 108 (0, 0))) ∧ Hid (wr.heap[b3]? = some (.cells (arrB (upto j (x <<< s))) 108 (0, 0))) ∧ Hid (Below b1 w wr))
  case atStart => exact ⟨s, rfl, by omega, by omega, by omega, HX, HR, HO, HB⟩
  case round =>
    clear HX HR HO HB
    obtain ⟨j, rfl, hsj, hj, hk, HX, HR, HO, HB⟩ := hrel
    by_cases hlt : j < 256
    · have j1 : (j : Int) < 256 := by omega
      obtain ⟨d, hd⟩ : ∃ d : Nat, (j : Int) - (s : Int) = (d : Int) := ⟨j - s, by omega⟩
      have d0 : (0 : Int) ≤ (d : Int) := by omega
      have d1 : (d : Int) < 256 := by omega
      have cx := blk_cellB HX.out (k := d) (by omega)
      have co := blk_cellB HO.out hlt
      have fo := blk_frozen HO.out j
      have HPB := Lib.hid (Hb.shift_bit x s hlt)
      have HD := Lib.hid (show d = j - s by omega)
      go_wp2
      go_roundg (256 - (j + 1) + 1)
      case measure => omega
      case rel => exact ⟨j + 1, by go_num, by omega, by omega, by omega, Lib.hid (blk_off HX.out (by omega) _ _), Lib.hid (blk_off HR.out (by omega) _ _), Lib.hid (blk_putB HO.out hlt (upto_succ (by rw [HPB.out, HD.out]; simp; omega))), Lib.hid (HB.out.setCell (p := ⟨b3, j, none⟩) (by show b1 ≤ b3; omega) _)⟩
    · obtain rfl : j = 256 := by omega
      have ho := HO.out
      have hr := HR.out
      go_wp2
      refine wp_load_row 108 (.tmp 5) rfl b3 (by rfl) 108 _ (0, 0) _ ho Try.underlying108 rfl (by rfl) ?_
      have hst := storeB (f := upto 256 (x <<< s)) hr
      go_wp2
      refine bodyPost_ret (results_cell_row rfl _ _ b2 108 _ (0, 0) _ (by rfl) (setRow_heap _ _ _ _ _ _ hr) Try.underlying108 rfl (by rfl)) rfl ⟨by rw [upto_all], ?_⟩
      rw [h1]
      exact below_row HB.out (by omega) _
/-- -1, 0, 1. -/
def cmpB (x y : Hb.B) : Int := if x.toNat < y.toNat then -1 else if y.toNat < x.toNat then 1 else 0
theorem eq_down {x y : Hb.B} {j : Nat} (h : ∀ m, j + 1 ≤ m → m < 256 → x.getLsbD m = y.getLsbD m) (he : x.getLsbD j = y.getLsbD j) : ∀ m, j ≤ m → m < 256 → x.getLsbD m = y.getLsbD m := by
  intro m h1 h2
  rcases Nat.eq_or_lt_of_le h1 with e | hl
  · rw [← e]; exact he
  · exact h m hl h2
def cmpB.T4 : Bool × List (List Nat × List Nat) := (true, [([], []), ([0], [0]), ([1], [1]), ([], []), ([3], [3]), ([4], [4]), ([2, 5], [2, 5])])
def cmpB.B4 : List Nat := [0, 1, 3, 0, 8, 24, 63]
theorem cmpB.tab4 : rtab .any (opsOf Try.f95 4) = cmpB.T4 := by kernel_rfl
theorem cmpB.bits4 : waitsOk cmpB.T4.2 cmpB.B4 = true := by kernel_rfl
set_option maxHeartbeats 8000000 in
set_option maxRecDepth 100000 in
theorem cmp.calls (x y : Hb.B) (w : World) : Calls Try.prog 95 #[.agg (arrB x.getLsbD), .agg (arrB y.getLsbD)] w fun e w' => e = .returned (.int .i64 (cmpB x y)) ∧ Below w.heap.size w w' := by
  go_enter Try.func95, Try.ntmps95
  obtain ⟨X, hX⟩ : ∃ X, arrB x.getLsbD = X := ⟨_, rfl⟩
  obtain ⟨Y, hY⟩ : ∃ X, arrB y.getLsbD = X := ⟨_, rfl⟩
  rw [hX, hY]
  go_wp2
  obtain ⟨W, hW⟩ : ∃ W, (w.alloc (.cells X 108)).alloc (.cells Y 108) = W := ⟨_, rfl⟩
  have HX : Hid (W.heap[w.heap.size]? = some (.cells (arrB x.getLsbD) 108 (0, 0))) := by rw [← hW, hX]; exact blk_alloc (heap_alloc_new w _) _
  have HY : Hid (W.heap[w.heap.size + 1]? = some (.cells (arrB y.getLsbD) 108 (0, 0))) := by rw [← hW, hY]; have := heap_alloc_new (w.alloc (.cells X 108)) (.cells Y 108); simp only [World.size_alloc] at this; exact this
  have HB : Hid (Below w.heap.size w W) := by rw [← hW]; exact below_alloc (below_alloc (Below.refl _ _) _) _
  rw [hW]
  clear hW hX hY
  obtain ⟨b1, h1⟩ : ∃ b, w.heap.size = b := ⟨_, rfl⟩
  obtain ⟨b2, h2⟩ : ∃ b, b1 + 1 = b := ⟨_, rfl⟩
  rw [h1] at HX HY HB ⊢
  rw [h2] at HY ⊢
  go_loopg [5] 258 (fun k v5 wr => ∃ (j : Nat), v5 = .int .i64 ((j : Int) - 1) ∧ j ≤ 256 ∧ j + 1 < k ∧ Hid (∀ m, j ≤ m → m < 256 → x.getLsbD m = y.getLsbD m) ∧ Hid (wr.heap[b1]? = some (.cells (arrB x.getLsbD) 108 (0, 0))) ∧ Hid (wr.heap[b2]? = some (.cells (arrB y.getLsbD) 108 (0, 0))) ∧ Hid (Below b1 w wr))
  case atStart => exact ⟨256, rfl, by omega, by omega, Lib.hid (fun m h h2 => by omega), HX, HY, HB⟩
  case round =>
    clear HX HY HB
    obtain ⟨j, rfl, hj, hk, HE, HX, HY, HB⟩ := hrel
    cases j with
    | zero =>
      go_wp2
      go_ret
      have e : x = y := Hb.eq_of_bits (fun m hm => HE.out m (Nat.zero_le _) hm)
      have e2 : cmpB x y = 0 := by rw [e]; unfold cmpB; simp
      refine ⟨by rw [e2]; rfl, ?_⟩
      first | exact HB.out | (rw [h1]; exact HB.out)
    | succ j =>
      have e1 : ((j + 1 : Nat) : Int) - 1 = (j : Int) := by omega
      rw [e1]
      have j0 : (0 : Int) ≤ (j : Int) := by omega
      have j1 : (j : Int) < 256 := by omega
      have j2 : (j : Int) ≤ 255 := by omega
      go_wp2
      replace HX := Lib.hid (blk_drew HX.out)
      replace HY := Lib.hid (blk_drew HY.out)
      replace HB := Lib.hid (below_drew1 HB.out)
      refine start_ (n := 7) (S := fun w' => w'.cell? ⟨b1, j, none⟩ = some (.bool (x.getLsbD j)) ∧ w'.cell? ⟨b2, j, none⟩ = some (.bool (y.getLsbD j))) (ds := []) #[false, false, false, false, false, false, false] (by kernel_rfl) rfl rfl ⟨blk_cellB HX.out (k := j) (by omega), blk_cellB HY.out (k := j) (by omega)⟩ (fun hHeld => ?_); refine with_tabW cmpB.tab4 cmpB.bits4 (fun HT_ HW_ => ?_)
      generalize wr.drew = w5 at HX HY HB hHeld ⊢
      refine pure_ (i := 0) (N := some 10) (v := ?_) (a' := ?_) #[true, false, false, false, false, false, false] rfl rfl (any_of HT_.out (by kernel_rfl)) (fun _ _ _ h => h) (Or.inl ⟨by rfl, ?_⟩) ?_ ?_
      rotate_left
      · intro w'
        go_simp
        with_reducible rfl
      rotate_left
      · simp only [Act.put, List.setIfInBounds_toArray, List.set_cons_zero, List.set_cons_succ, i64_w, i32_w]
        rfl
      refine pure_ (i := 1) (N := some 11) (v := ?_) (a' := ?_) #[true, true, false, false, false, false, false] rfl rfl (any_of HT_.out (by kernel_rfl)) (fun _ _ _ h => h) (Or.inl ⟨by rfl, ?_⟩) ?_ ?_
      rotate_left
      · intro w'
        go_simp
        with_reducible rfl
      rotate_left
      · simp only [Act.put, List.setIfInBounds_toArray, List.set_cons_zero, List.set_cons_succ, i64_w, i32_w]
        rfl
      refine take_ (i := 2) (N := some 12) (v := ?_) (a' := ?_) #[true, true, true, false, false, false, false] rfl rfl (take_ofW HT_.out HW_.out (by kernel_rfl)) (fun _ _ _ h => h) (Or.inl ⟨by rfl, ?_⟩) hHeld ?_ ?_
      rotate_left
      · rintro w' ⟨s0, s1⟩
        go_simp
        with_reducible rfl
      rotate_left
      · simp only [Act.put, List.setIfInBounds_toArray, List.set_cons_zero, List.set_cons_succ, i64_w, i32_w]
        rfl
      refine pure_ (i := 3) (N := some 13) (v := ?_) (a' := ?_) #[true, true, true, true, false, false, false] rfl rfl (any_of HT_.out (by kernel_rfl)) (fun _ _ _ h => h) (Or.inl ⟨by rfl, ?_⟩) ?_ ?_
      rotate_left
      · intro w'
        go_simp
        with_reducible rfl
      rotate_left
      · simp only [Act.put, List.setIfInBounds_toArray, List.set_cons_zero, List.set_cons_succ, i64_w, i32_w]
        rfl
      refine pure_ (i := 4) (N := some 14) (v := ?_) (a' := ?_) #[true, true, true, true, true, false, false] rfl rfl (any_of HT_.out (by kernel_rfl)) (fun _ _ _ h => h) (Or.inl ⟨by rfl, ?_⟩) ?_ ?_
      rotate_left
      · intro w'
        go_simp
        with_reducible rfl
      rotate_left
      · simp only [Act.put, List.setIfInBounds_toArray, List.set_cons_zero, List.set_cons_succ, i64_w, i32_w]
        rfl
      refine take_ (i := 5) (N := some 15) (v := ?_) (a' := ?_) #[true, true, true, true, true, true, false] rfl rfl (take_ofW HT_.out HW_.out (by kernel_rfl)) (fun _ _ _ h => h) (Or.inl ⟨by rfl, ?_⟩) hHeld ?_ ?_
      rotate_left
      · rintro w' ⟨s0, s1⟩
        go_simp
        with_reducible rfl
      rotate_left
      · simp only [Act.put, List.setIfInBounds_toArray, List.set_cons_zero, List.set_cons_succ, i64_w, i32_w]
        rfl
      refine pure_ (i := 6) (N := some 16) (v := ?_) (a' := ?_) #[true, true, true, true, true, true, true] rfl rfl (any_of HT_.out (by kernel_rfl)) (fun _ _ _ h => h) (Or.inl ⟨by rfl, ?_⟩) ?_ ?_
      rotate_left
      · intro w'
        go_simp
        with_reducible rfl
      rotate_left
      · simp only [Act.put, List.setIfInBounds_toArray, List.set_cons_zero, List.set_cons_succ, i64_w, i32_w]
        rfl
      refine done_ (done_of HT_.out (by kernel_rfl)) ?_
      clear hHeld
      have cx := blk_cellB HX.out (k := j) (by omega)
      obtain ⟨p, hp⟩ : ∃ p, x.getLsbD j = p := ⟨_, rfl⟩
      obtain ⟨q, hq⟩ : ∃ q, y.getLsbD j = q := ⟨_, rfl⟩
      have HP := Lib.hid hp
      have HQ := Lib.hid hq
      rw [hp] at cx ⊢
      rw [hq]
      clear hp hq
      have HJ := Lib.hid (show j < 256 by omega)
      cases p <;> cases q
      · go_wp2
        go_roundg (j + 2)
        case measure => omega
        case rel => exact ⟨j, by go_num, by omega, by omega, Lib.hid (eq_down HE.out (HP.out.trans HQ.out.symm)), HX, HY, HB⟩
      · go_wp2
        go_ret
        have hl := Hb.lt_of_bit HP.out HQ.out (fun m h h2 => HE.out m h h2)
        have e2 : cmpB x y = -1 := by unfold cmpB; rw [if_pos hl]
        refine ⟨by rw [e2]; rfl, ?_⟩
        first | exact HB.out | (rw [h1]; exact HB.out)
      · go_wp2
        go_ret
        have hl := Hb.lt_of_bit HQ.out HP.out (fun m h h2 => (HE.out m h h2).symm)
        have e2 : cmpB x y = 1 := by unfold cmpB; rw [if_neg (by omega), if_pos hl]
        refine ⟨by rw [e2]; rfl, ?_⟩
        first | exact HB.out | (rw [h1]; exact HB.out)
      · go_wp2
        go_roundg (j + 2)
        case measure => omega
        case rel => exact ⟨j, by go_num, by omega, by omega, Lib.hid (eq_down HE.out (HP.out.trans HQ.out.symm)), HX, HY, HB⟩
theorem bit_eq (n j : Nat) (hn : n < 18446744073709551616) : (bits BinOp.and IntKind.u64 ((n : Int) / 2 ^ j) 1 == 1) = n.testBit j := by
  have e : ((n : Int) / 2 ^ j) = ((n / 2 ^ j : Nat) : Int) := by rw [Int.natCast_ediv, Int.natCast_pow]; rfl
  have h := u64_and_nat (n / 2 ^ j) 1 (Nat.lt_of_le_of_lt (Nat.div_le_self _ _) hn) (by decide)
  have h2 : ((1 : Nat) : Int) = 1 := rfl
  rw [h2, Nat.and_one_is_mod] at h
  rw [e, h, ← Hb.bit_is]
  rcases Nat.mod_two_eq_zero_or_one (n / 2 ^ j) with q | q <;> rw [q] <;> rfl
set_option maxHeartbeats 8000000 in
set_option maxRecDepth 100000 in
theorem of.calls (hi lo : Nat) (hh : hi < 18446744073709551616) (hl : lo < 18446744073709551616) (w : World) : Calls Try.prog 110 #[.agg #[.int .u64 (hi : Int), .int .u64 (lo : Int)]] w fun e w' => e = .returned (.agg (arrB (Hb.num hi lo).getLsbD)) ∧ Below w.heap.size w w' := by
  have h0 : (0 : Int) ≤ (hi : Int) := by omega
  have l0 : (0 : Int) ≤ (lo : Int) := by omega
  have h1 : (hi : Int) ≤ 18446744073709551615 := by omega
  have l1 : (lo : Int) ≤ 18446744073709551615 := by omega
  have HHH := Lib.hid hh
  have HLL := Lib.hid hl
  clear hh hl
  go_enter Try.func110, Try.ntmps110
  go_wp2
  obtain ⟨W, hW⟩ : ∃ W, ((w.alloc (.cells #[.int .u64 (hi : Int), .int .u64 (lo : Int)] 92)).alloc (.cells Try.zeroCells108 108)).alloc (.cells Try.zeroCells108 108) = W := ⟨_, rfl⟩
  have HX : Hid (W.heap[w.heap.size]? = some (.cells #[.int .u64 (hi : Int), .int .u64 (lo : Int)] 92 (0, 0))) := by rw [← hW]; exact blk_alloc (blk_alloc (heap_alloc_new w _) _) _
  have HR : Hid (W.heap[w.heap.size + 1]? = some (.cells (arrB (fun _ => false)) 108 (0, 0))) := by rw [← hW, ← zeroB]; have := blk_alloc (heap_alloc_new (w.alloc (.cells #[.int .u64 (hi : Int), .int .u64 (lo : Int)] 92)) (.cells Try.zeroCells108 108)) (.cells Try.zeroCells108 108); simp only [World.size_alloc] at this; exact this
  have HO : Hid (W.heap[w.heap.size + 1 + 1]? = some (.cells (arrB (Hb.ofB hi lo 0)) 108 (0, 0))) := by rw [← hW, Hb.ofB_zero, ← zeroB]; have := heap_alloc_new ((w.alloc (.cells #[.int .u64 (hi : Int), .int .u64 (lo : Int)] 92)).alloc (.cells Try.zeroCells108 108)) (.cells Try.zeroCells108 108); simp only [World.size_alloc] at this; exact this
  have HB : Hid (Below w.heap.size w W) := by rw [← hW]; exact below_alloc (below_alloc (below_alloc (Below.refl _ _) _) _) _
  rw [hW]
  clear hW
  obtain ⟨b1, hb1⟩ : ∃ b, w.heap.size = b := ⟨_, rfl⟩
  obtain ⟨b2, hb2⟩ : ∃ b, b1 + 1 = b := ⟨_, rfl⟩
  obtain ⟨b3, hb3⟩ : ∃ b, b2 + 1 = b := ⟨_, rfl⟩
  rw [hb1] at HX HR HO HB ⊢
  rw [hb2] at HR HO ⊢
  rw [hb3] at HO ⊢
  go_loopg [4] 65 (fun k v4 wr => ∃ (j : Nat), v4 = .int .i64 (j : Int) ∧ j ≤ 64 ∧ 64 - j < k ∧ Hid (wr.heap[b1]? = some (.cells #[.int .u64 (hi : Int), .int .u64 (lo : Int)] 92 (0, 0))) ∧ Hid (wr.heap[b2]? = some (.cells (arrB (fun _ => false)) 108 (0, 0))) ∧ Hid (wr.heap[b3]? = some (.cells (arrB (Hb.ofB hi lo j)) 108 (0, 0))) ∧ Hid (Below b1 w wr))
  case atStart => exact ⟨0, rfl, by omega, by omega, HX, HR, HO, HB⟩
  case round =>
    clear HX HR HO HB
    obtain ⟨j, rfl, hj, hk, HX, HR, HO, HB⟩ := hrel
    by_cases hlt : j < 64
    · have j0 : (0 : Int) ≤ (j : Int) := by omega
      have j1 : (j : Int) < 64 := by omega
      have c0 := (blk_cell HX.out 0).trans rfl
      have c1 := (blk_cell HX.out 1).trans rfl
      have co := blk_cellB HO.out (k := j) (by omega)
      have fo := blk_frozen HO.out j
      have cp := blk_cellB HO.out (k := 64 + j) (by omega)
      have fp := blk_frozen HO.out (64 + j)
      go_wp2
      go_roundg (64 - (j + 1) + 1)
      case measure => omega
      case rel => exact ⟨j + 1, by go_num, by omega, by omega, Lib.hid (blk_off (blk_off HX.out (by omega) _ _) (by omega) _ _), Lib.hid (blk_off (blk_off HR.out (by omega) _ _) (by omega) _ _), Lib.hid (blk_putB (blk_putB HO.out (by omega) rfl) (by omega) (by rw [bit_eq _ _ HLL.out, bit_eq _ _ HHH.out]; exact Hb.ofB_succ hi lo hlt)), Lib.hid ((HB.out.setCell (p := ⟨b3, j, none⟩) (by show b1 ≤ b3; omega) _).setCell (p := ⟨b3, 64 + j, none⟩) (by show b1 ≤ b3; omega) _)⟩
    · obtain rfl : j = 64 := by omega
      have ho := HO.out
      have hr := HR.out
      go_wp2
      refine wp_load_row 108 (.tmp 3) rfl b3 (by rfl) 108 _ (0, 0) _ ho Try.underlying108 rfl (by rfl) ?_
      have hst := storeB (f := Hb.ofB hi lo 64) hr
      go_wp2
      refine bodyPost_ret (results_cell_row rfl _ _ b2 108 _ (0, 0) _ (by rfl) (setRow_heap _ _ _ _ _ _ hr) Try.underlying108 rfl (by rfl)) rfl ⟨by rw [Hb.ofB_all HHH.out HLL.out], ?_⟩
      rw [hb1]
      exact below_row HB.out (by omega) _
set_option maxHeartbeats 8000000 in
set_option maxRecDepth 100000 in
theorem one.calls (n : Nat) (hn : n < 18446744073709551616) (w : World) : Calls Try.prog 97 #[.int .u64 (n : Int)] w fun e w' => e = .returned (.agg (arrB (Hb.num 0 n).getLsbD)) ∧ Below w.heap.size w w' := by
  have HN := Lib.hid hn
  clear hn
  go_enter Try.func97, Try.ntmps97
  go_wp2_with (go_at_call 110; refine (of.calls 0 n (by decide) HN.out _).mono ?_; rintro e w1 ⟨rfl, q1⟩; have hr : w1.heap[w.heap.size]? = some (.cells (arrB (fun _ => false)) 108 (0, 0)) := (by rw [← zeroB]; exact blk_below (heap_alloc_new w _) q1); have hst := storeB (f := (Hb.num 0 n).getLsbD) hr; have HR := Lib.hid hr; clear hr; have HQ := Lib.hid q1; clear q1)
  refine bodyPost_ret (results_cell_row rfl _ _ w.heap.size 108 _ (0, 0) _ (by rfl) (setRow_heap _ _ _ _ _ _ HR.out) Try.underlying108 rfl (by rfl)) rfl ⟨rfl, ?_⟩
  exact below_row (below_step (below_alloc (Below.refl _ _) _) HQ.out) (Nat.le_refl _) _
def timesB.T6 : Bool × List (List Nat × List Nat) := (true, [([], []), ([], []), ([], []), ([1, 2], [1, 2]), ([0, 3, 3], [0, 3]), ([4, 4, 0, 1, 2, 3, 4], [4])])
def timesB.B6 : List Nat := [0, 0, 0, 6, 15, 31]
theorem timesB.tab6 : rtab .any (opsOf Try.f96 6) = timesB.T6 := by kernel_rfl
theorem timesB.bits6 : waitsOk timesB.T6.2 timesB.B6 = true := by kernel_rfl
theorem load_row_run (ev : Operand → Value) (o : Oper) (w : World) (ty : TypeId) (x : Operand) (g : Nat) (v : Value) (ho : o.op = .load ty x) (hx : ev x = .pointer (some ⟨g, 0, none⟩)) (h : (loadVar ty ⟨g, 0, none⟩).run Try.prog w = .ok v w) : (execOp ev o).run Try.prog w = .ok (.value v) w := by
  unfold execOp
  simp only [ho, hx, Instr.loadAt, Instr.sureAddr, Sem.run_bind, Sem.run_pure, Result.andThen_ok, h]
set_option maxHeartbeats 8000000 in
set_option maxRecDepth 100000 in
theorem timesB.calls (x y : Hb.B) (w : World) : Calls Try.prog 96 #[.agg (arrB x.getLsbD), .agg (arrB y.getLsbD)] w fun e w' => e = .returned (.agg (arrB (Hb.part x y 128).getLsbD)) ∧ Below w.heap.size w w' := by
  go_enter Try.func96, Try.ntmps96
  obtain ⟨X, hX⟩ : ∃ X, arrB x.getLsbD = X := ⟨_, rfl⟩
  obtain ⟨Y, hY⟩ : ∃ X, arrB y.getLsbD = X := ⟨_, rfl⟩
  rw [hX, hY]
  go_wp2
  obtain ⟨W, hW⟩ : ∃ W, (((w.alloc (.cells X 108)).alloc (.cells Y 108)).alloc (.cells Try.zeroCells108 108)).alloc (.cells Try.zeroCells108 108) = W := ⟨_, rfl⟩
  have HX : Hid (W.heap[w.heap.size]? = some (.cells (arrB x.getLsbD) 108 (0, 0))) := by rw [← hW, hX]; exact blk_alloc (blk_alloc (blk_alloc (heap_alloc_new w _) _) _) _
  have HY : Hid (W.heap[w.heap.size + 1]? = some (.cells (arrB y.getLsbD) 108 (0, 0))) := by rw [← hW, hY]; have := blk_alloc (blk_alloc (heap_alloc_new (w.alloc (.cells X 108)) (.cells Y 108)) (.cells Try.zeroCells108 108)) (.cells Try.zeroCells108 108); simp only [World.size_alloc] at this; exact this
  have HR : Hid (W.heap[w.heap.size + 1 + 1]? = some (.cells (arrB (fun _ => false)) 108 (0, 0))) := by rw [← hW, ← zeroB]; have := blk_alloc (heap_alloc_new ((w.alloc (.cells X 108)).alloc (.cells Y 108)) (.cells Try.zeroCells108 108)) (.cells Try.zeroCells108 108); simp only [World.size_alloc] at this; exact this
  have HO : Hid (W.heap[w.heap.size + 1 + 1 + 1]? = some (.cells (arrB (Hb.part x y 0).getLsbD) 108 (0, 0))) := by rw [← hW, show (Hb.part x y 0).getLsbD = fun _ => false from by funext i; simp [Hb.part], ← zeroB]; have := heap_alloc_new (((w.alloc (.cells X 108)).alloc (.cells Y 108)).alloc (.cells Try.zeroCells108 108)) (.cells Try.zeroCells108 108); simp only [World.size_alloc] at this; exact this
  have HB : Hid (Below w.heap.size w W) := by rw [← hW]; exact below_alloc (below_alloc (below_alloc (below_alloc (Below.refl _ _) _) _) _) _
  rw [hW]
  clear hW hX hY
  obtain ⟨b1, hb1⟩ : ∃ b, w.heap.size = b := ⟨_, rfl⟩
  obtain ⟨b2, hb2⟩ : ∃ b, b1 + 1 = b := ⟨_, rfl⟩
  obtain ⟨b3, hb3⟩ : ∃ b, b2 + 1 = b := ⟨_, rfl⟩
  obtain ⟨b4, hb4⟩ : ∃ b, b3 + 1 = b := ⟨_, rfl⟩
  rw [hb1] at HX HY HR HO HB ⊢
  rw [hb2] at HY HR HO ⊢
  rw [hb3] at HR HO ⊢
  rw [hb4] at HO ⊢
  go_loopg [6] 129 (fun k v6 wr => ∃ (j : Nat), v6 = .int .i64 (j : Int) ∧ j ≤ 128 ∧ 128 - j < k ∧ Hid (wr.heap[b1]? = some (.cells (arrB x.getLsbD) 108 (0, 0))) ∧ Hid (wr.heap[b2]? = some (.cells (arrB y.getLsbD) 108 (0, 0))) ∧ Hid (wr.heap[b3]? = some (.cells (arrB (fun _ => false)) 108 (0, 0))) ∧ Hid (wr.heap[b4]? = some (.cells (arrB (Hb.part x y j).getLsbD) 108 (0, 0))) ∧ Hid (Below b1 w wr))
  case atStart => exact ⟨0, rfl, by omega, by omega, HX, HY, HR, HO, HB⟩
  case round =>
    clear HX HY HR HO HB
    obtain ⟨j, rfl, hj, hk, HX, HY, HR, HO, HB⟩ := hrel
    by_cases hlt : j < 128
    · have j0 : (0 : Int) ≤ (j : Int) := by omega
      have j1 : (j : Int) < 128 := by omega
      have j2 : (j : Int) < 256 := by omega
      have cy := blk_cellB HY.out (k := j) (by omega)
      cases hp : y.getLsbD j with
      | false =>
        rw [hp] at cy
        have HP := Lib.hid hp
        clear hp
        go_wp2
        go_roundg (128 - (j + 1) + 1)
        case measure => omega
        case rel => exact ⟨j + 1, by go_num, by omega, by omega, HX, HY, HR, by rw [Hb.part, HP.out]; exact HO, HB⟩
      | true =>
        rw [hp] at cy
        have HP := Lib.hid hp
        clear hp
        go_wp2
        clear cy
        replace HX := Lib.hid (blk_drew HX.out)
        replace HY := Lib.hid (blk_drew HY.out)
        replace HR := Lib.hid (blk_drew HR.out)
        replace HO := Lib.hid (blk_drew HO.out)
        replace HB := Lib.hid (below_drew1 HB.out)
        refine start_ (n := 6) (S := fun w' => w'.heap[b4]? = some (.cells (arrB (Hb.part x y j).getLsbD) 108 (0, 0)) ∧ w'.heap[b1]? = some (.cells (arrB x.getLsbD) 108 (0, 0))) (ds := [5]) #[false, false, false, false, false, false] (by kernel_rfl) rfl rfl ⟨HO.out, HX.out⟩ (fun hHeld => ?_); refine with_tabW timesB.tab6 timesB.bits6 (fun HT_ HW_ => ?_)
        generalize wr.drew = w5 at HX HY HR HO HB hHeld ⊢
        refine take_ (i := 0) (N := some 14) (v := ?_) (a' := ?_) #[true, false, false, false, false, false] rfl rfl (take_ofW HT_.out HW_.out (by kernel_rfl)) (fun _ _ _ h => h) (Or.inl ⟨by rfl, ?_⟩) hHeld ?_ ?_
        rotate_left
        · rintro w' ⟨s0, s1⟩
          refine Eq.trans (load_row_run _ _ w' 108 (.tmp 5) b4 _ rfl (by rfl) (run_loadVar_row (P := Try.prog) w' b4 108 108 _ (0, 0) _ s0 Try.underlying108 rfl (by rfl))) ?_
          with_reducible rfl
        rotate_left
        · simp only [Act.put, List.setIfInBounds_toArray, List.set_cons_zero, List.set_cons_succ, i64_w, i32_w]
          rfl
        refine take_ (i := 1) (N := some 15) (v := ?_) (a' := ?_) #[true, true, false, false, false, false] rfl rfl (take_ofW HT_.out HW_.out (by kernel_rfl)) (fun _ _ _ h => h) (Or.inl ⟨by rfl, ?_⟩) hHeld ?_ ?_
        rotate_left
        · rintro w' ⟨s0, s1⟩
          refine Eq.trans (load_row_run _ _ w' 108 (.tmp 2) b1 _ rfl (by rfl) (run_loadVar_row (P := Try.prog) w' b1 108 108 _ (0, 0) _ s1 Try.underlying108 rfl (by rfl))) ?_
          with_reducible rfl
        rotate_left
        · simp only [Act.put, List.setIfInBounds_toArray, List.set_cons_zero, List.set_cons_succ, i64_w, i32_w]
          rfl
        refine pure_ (i := 2) (N := some 16) (v := ?_) (a' := ?_) #[true, true, true, false, false, false] rfl rfl (any_of HT_.out (by kernel_rfl)) (fun _ _ _ h => h) (Or.inl ⟨by rfl, ?_⟩) ?_ ?_
        rotate_left
        · intro w'
          go_simp
          with_reducible rfl
        rotate_left
        · simp only [Act.put, List.setIfInBounds_toArray, List.set_cons_zero, List.set_cons_succ, i64_w, i32_w]
          rfl
        refine one_ (i := 3) (N := some 17) #[true, true, true, true, false, false] rfl rfl (one_of HT_.out (by kernel_rfl)) (by decide) (fun K hK => ?_)
        refine goes_ Try.func109 (by kernel_rfl) rfl #[.agg (arrB x.getLsbD), .int .i64 (j : Int)] (by rfl) rfl rfl (by (try simp only [List.map_toArray, List.map_cons, List.map_nil]); first | done | rfl) ?_
        refine (shift.calls x j (by omega) w5).mono ?_
        rintro e w6 ⟨rfl, q1⟩
        refine ⟨_, rfl, ?_⟩
        replace HB := Lib.hid (below_then HB.out (Nat.le_of_lt (blk_lt HX.out)) q1)
        replace HX := Lib.hid (blk_below HX.out q1)
        replace HY := Lib.hid (blk_below HY.out q1)
        replace HR := Lib.hid (blk_below HR.out q1)
        replace HO := Lib.hid (blk_below HO.out q1)
        clear q1
        refine hK.out _ _ ⟨HO.out, HX.out⟩ (fun hHeld => ?_)
        clear hK K
        refine norm_ (a' := ?_) ?_ ?_
        rotate_left
        · show Act.put _ (some 17) _ = _
          simp only [Act.put, List.setIfInBounds_toArray, List.set_cons_zero, List.set_cons_succ, i64_w, i32_w]
          rfl
        refine one_ (i := 4) (N := some 18) #[true, true, true, true, true, false] rfl rfl (one_of HT_.out (by kernel_rfl)) (by decide) (fun K hK => ?_)
        refine goes_ Try.func108 (by kernel_rfl) rfl #[.agg (arrB (Hb.part x y j).getLsbD), .agg (arrB (x <<< j).getLsbD)] (by rfl) rfl rfl (by (try simp only [List.map_toArray, List.map_cons, List.map_nil]); first | done | rfl) ?_
        refine (plus.calls (Hb.part x y j) (x <<< j) w6).mono ?_
        rintro e w7 ⟨rfl, q1⟩
        refine ⟨_, rfl, ?_⟩
        replace HB := Lib.hid (below_then HB.out (Nat.le_of_lt (blk_lt HX.out)) q1)
        replace HX := Lib.hid (blk_below HX.out q1)
        replace HY := Lib.hid (blk_below HY.out q1)
        replace HR := Lib.hid (blk_below HR.out q1)
        replace HO := Lib.hid (blk_below HO.out q1)
        clear q1
        refine hK.out _ _ ⟨HO.out, HX.out⟩ (fun hHeld => ?_)
        clear hK K
        refine norm_ (a' := ?_) ?_ ?_
        rotate_left
        · show Act.put _ (some 18) _ = _
          simp only [Act.put, List.setIfInBounds_toArray, List.set_cons_zero, List.set_cons_succ, i64_w, i32_w]
          rfl
        refine last_ (i := 5) (N := none) #[true, true, true, true, true, true] rfl rfl (one_of HT_.out (by kernel_rfl)) (by decide) (fun K hK => ?_)
        have hst := storeB (f := (Hb.part x y j + x <<< j).getLsbD) HO.out
        refine skip_ (w1 := ?_) (by rfl) rfl ?_ ?_
        rotate_left
        · go_simp
          rfl
        refine hK.out _ _ ?_
        clear hK K
        refine done_ (done_of HT_.out (by kernel_rfl)) ?_
        clear hHeld
        have HO2 := Lib.hid (setRow_heap _ _ _ (arrB (Hb.part x y j + x <<< j).getLsbD) _ _ HO.out)
        replace HX := Lib.hid ((setRow_other w7 b4 b1 (arrB (Hb.part x y j + x <<< j).getLsbD) (by omega)).trans HX.out)
        replace HY := Lib.hid ((setRow_other w7 b4 b2 (arrB (Hb.part x y j + x <<< j).getLsbD) (by omega)).trans HY.out)
        replace HR := Lib.hid ((setRow_other w7 b4 b3 (arrB (Hb.part x y j + x <<< j).getLsbD) (by omega)).trans HR.out)
        replace HB := Lib.hid (below_row HB.out (show b1 ≤ b4 by omega) (arrB (Hb.part x y j + x <<< j).getLsbD))
        go_wp2
        go_roundg (128 - (j + 1) + 1)
        case measure => omega
        case rel => exact ⟨j + 1, by go_num, by omega, by omega, HX, HY, HR, by rw [Hb.part, HP.out]; exact HO2, HB⟩
    · obtain rfl : j = 128 := by omega
      have ho := HO.out
      have hr := HR.out
      go_wp2
      refine wp_load_row 108 (.tmp 5) rfl b4 (by rfl) 108 _ (0, 0) _ ho Try.underlying108 rfl (by rfl) ?_
      have hst := storeB (f := (Hb.part x y 128).getLsbD) hr
      go_wp2
      refine bodyPost_ret (results_cell_row rfl _ _ b3 108 _ (0, 0) _ (by rfl) (setRow_heap _ _ _ _ _ _ hr) Try.underlying108 rfl (by rfl)) rfl ⟨rfl, ?_⟩
      rw [hb1]
      exact below_row HB.out (by omega) _
def cmpI (x y : Int) : Int := if x < y then -1 else if y < x then 1 else 0
theorem cmpB_is {x y : Hb.B} {n m : Int} (h : (x.toNat : Int) = n) (h2 : (y.toNat : Int) = m) : cmpB x y = cmpI n m := by
  subst h
  subst h2
  unfold cmpB cmpI
  simp only [Int.ofNat_lt]
theorem num_int {a b : Nat} (ha : a < 18446744073709551616) (hb : b < 18446744073709551616) : ((Hb.num a b).toNat : Int) = (a : Int) * 18446744073709551616 + (b : Int) := by
  rw [Hb.num_toNat ha hb]; omega
set_option maxHeartbeats 8000000 in
set_option maxRecDepth 100000 in
theorem lessZ1.calls (a c : Int) (d : Int) (w : World) : Calls Try.prog 73 #[.int .u64 a, .int .u64 0, .int .u64 c, .int .u64 d] w fun e w' => e = .returned (.bool false) ∧ Below w.heap.size w w' := by
  go_enter Try.func73, Try.ntmps73
  go_wp2
  go_ret
  exact ⟨rfl, Below.refl _ _⟩
set_option maxHeartbeats 8000000 in
set_option maxRecDepth 100000 in
theorem lessZ2.calls (a b c : Int) (hb : ¬ b = 0) (w : World) : Calls Try.prog 73 #[.int .u64 a, .int .u64 b, .int .u64 c, .int .u64 0] w fun e w' => e = .returned (.bool false) ∧ Below w.heap.size w w' := by
  have hbz : (b == 0) = false := by simp [hb]
  have hbn : (b != 0) = true := by simp [hb]
  go_enter Try.func73, Try.ntmps73
  go_wp2
  go_ret
  exact ⟨rfl, Below.refl _ _⟩
set_option maxHeartbeats 8000000 in
set_option maxRecDepth 100000 in
theorem lessW.calls (a b c d : Nat) (ha : a < 18446744073709551616) (hb : b < 18446744073709551616) (hc : c < 18446744073709551616) (hd : d < 18446744073709551616) (hb0 : b ≠ 0) (hd0 : d ≠ 0) (w : World) : Calls Try.prog 73 #[.int .u64 (a : Int), .int .u64 (b : Int), .int .u64 (c : Int), .int .u64 (d : Int)] w fun e w' => e = .returned (.bool (decide (cmpB (Hb.part (Hb.num 0 a) (Hb.num 0 d) 128) (Hb.part (Hb.num 0 c) (Hb.num 0 b) 128) < 0))) ∧ Below w.heap.size w w' := by
  have hbi : ¬ (b : Int) = 0 := by omega
  have hdi : ¬ (d : Int) = 0 := by omega
  have hbz : ((b : Int) == 0) = false := by simp; omega
  have hbn : ((b : Int) != 0) = true := by simp; omega
  have hdz : ((d : Int) == 0) = false := by simp; omega
  have hdn : ((d : Int) != 0) = true := by simp; omega
  have HAA := Lib.hid ha
  have HBB := Lib.hid hb
  have HCC := Lib.hid hc
  have HDD := Lib.hid hd
  have HB := Lib.hid (Below.refl w.heap.size w)
  clear ha hb hc hd hb0 hd0
  go_enter Try.func73, Try.ntmps73
  go_wp2_with (first
    | (go_at_call 97; refine (one.calls a HAA.out _).mono ?_; rintro e w1 ⟨rfl, q1⟩; replace HB := Lib.hid (below_step HB.out q1); clear q1)
    | (go_at_call 97; refine (one.calls d HDD.out _).mono ?_; rintro e w1 ⟨rfl, q1⟩; replace HB := Lib.hid (below_step HB.out q1); clear q1)
    | (go_at_call 97; refine (one.calls c HCC.out _).mono ?_; rintro e w1 ⟨rfl, q1⟩; replace HB := Lib.hid (below_step HB.out q1); clear q1)
    | (go_at_call 97; refine (one.calls b HBB.out _).mono ?_; rintro e w1 ⟨rfl, q1⟩; replace HB := Lib.hid (below_step HB.out q1); clear q1)
    | (go_at_call 96; refine (timesB.calls _ _ _).mono ?_; rintro e w1 ⟨rfl, q1⟩; replace HB := Lib.hid (below_step HB.out q1); clear q1)
    | (go_at_call 95; refine (cmp.calls _ _ _).mono ?_; rintro e w1 ⟨rfl, q1⟩; replace HB := Lib.hid (below_step HB.out q1); clear q1))
  go_ret
  exact ⟨rfl, HB.out⟩

def horariumref01_Less.f (a0 a1 a2 a3 : Int) : Option Bool := if 0 ≤ a0 ∧ a0 < 18446744073709551616 ∧ 0 ≤ a1 ∧ a1 < 18446744073709551616 ∧ 0 ≤ a2 ∧ a2 < 18446744073709551616 ∧ 0 ≤ a3 ∧ a3 < 18446744073709551616 then some (decide (a1 ≠ 0 ∧ a3 ≠ 0 ∧ a0 * a3 < a2 * a1)) else none
theorem horariumref01_Less.calls (a0 a1 a2 a3 : Int) (r : Bool) (w : World) (h : horariumref01_Less.f a0 a1 a2 a3 = some r) :
    Calls Try.prog 73 #[.int .u64 a0, .int .u64 a1, .int .u64 a2, .int .u64 a3] w fun e w' => e = .returned (.bool r) ∧ Below w.heap.size w w' := by
  unfold horariumref01_Less.f at h
  by_cases hr : 0 ≤ a0 ∧ a0 < 18446744073709551616 ∧ 0 ≤ a1 ∧ a1 < 18446744073709551616 ∧ 0 ≤ a2 ∧ a2 < 18446744073709551616 ∧ 0 ≤ a3 ∧ a3 < 18446744073709551616
  case neg => rw [if_neg hr] at h; cases h
  rw [if_pos hr] at h
  obtain rfl := Option.some.inj h
  obtain ⟨h1, h2, h3, h4, h5, h6, h7, h8⟩ := hr
  by_cases c1 : a1 = 0
  · subst c1
    rw [show decide ((0 : Int) ≠ 0 ∧ a3 ≠ 0 ∧ a0 * a3 < a2 * 0) = false from by simp]
    exact lessZ1.calls a0 a2 a3 w
  · by_cases c3 : a3 = 0
    · subst c3
      rw [show decide (a1 ≠ 0 ∧ (0 : Int) ≠ 0 ∧ a0 * 0 < a2 * a1) = false from by simp]
      exact lessZ2.calls a0 a1 a2 c1 w
    · obtain ⟨a, rfl⟩ := Int.eq_ofNat_of_zero_le h1
      obtain ⟨b, rfl⟩ := Int.eq_ofNat_of_zero_le h3
      obtain ⟨c, rfl⟩ := Int.eq_ofNat_of_zero_le h5
      obtain ⟨d, rfl⟩ := Int.eq_ofNat_of_zero_le h7
      have e : decide (cmpB (Hb.part (Hb.num 0 a) (Hb.num 0 d) 128) (Hb.part (Hb.num 0 c) (Hb.num 0 b) 128) < 0) = decide ((b : Int) ≠ 0 ∧ (d : Int) ≠ 0 ∧ (a : Int) * (d : Int) < (c : Int) * (b : Int)) := by
        rw [cmpB_is (n := (a : Int) * (d : Int)) (m := (c : Int) * (b : Int)) (by rw [Hb.part_num (by omega) (by omega), Int.natCast_mul]) (by rw [Hb.part_num (by omega) (by omega), Int.natCast_mul])]
        rw [decide_eq_decide]
        unfold cmpI
        constructor
        · intro q
          refine ⟨c1, c3, ?_⟩
          by_cases z : (a : Int) * (d : Int) < (c : Int) * (b : Int)
          · exact z
          · rw [if_neg z] at q
            split at q <;> omega
        · rintro ⟨_, _, z⟩
          rw [if_pos z]; decide
      refine (lessW.calls a b c d (by omega) (by omega) (by omega) (by omega) (by omega) (by omega) w).mono ?_
      rintro e1 w1 ⟨rfl, q⟩
      exact ⟨by rw [e], q⟩

end Go.Proofs.Ytmgmpifbhjoijaa.PParamTells
