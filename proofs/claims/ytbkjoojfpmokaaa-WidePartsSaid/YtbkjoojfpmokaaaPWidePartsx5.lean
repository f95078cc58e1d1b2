-- Made by px.py (a program of this session, over the kit's printer) out of the translation. Not trusted: Lean checks it.
import Derived.Test.YtbkjoojfpmokaaaPWidePartsx0
namespace Go.Proofs.Ytbkjoojfpmokaaa.PWideParts
open Go.RowKit Go.Proofs.YtbkjoojfpmokaaaW.PrintWords Go.Proofs.YtbkjoojfpmokaaaW.PrintLast Go.Proofs.YtbkjoojfpmokaaaW.PrintMore
attribute [local go_sem] max2_int min2_int max_two min_two max_three min_three max_four min_four   -- for this text's walks alone
set_option linter.unusedVariables false
set_option linter.unusedSimpArgs false

/-! ### horariumref01_Div: function 36 (by hand) -/
/-- Places as a row of cells. -/
def arrB (f : Nat → Bool) : Array Value := ((List.range 256).map (fun i => Value.bool (f i))).toArray
theorem arrB_size (f : Nat → Bool) : (arrB f).size = 256 := by unfold arrB; simp
theorem arrB_get (f : Nat → Bool) {k : Nat} (h : k < 256) : (arrB f)[k]? = some (.bool (f k)) := by unfold arrB; simp [h]
theorem arrB_set (f : Nat → Bool) {q : Nat} (h : q < 256) (b : Bool) : (arrB f).setIfInBounds q (.bool b) = arrB (fun i => if i = q then b else f i) := by
  apply Array.ext'
  unfold arrB
  rw [Array.toList_setIfInBounds]
  apply List.ext_getElem?
  intro i
  rw [List.getElem?_set]
  by_cases e : q = i
  · subst e; simp [h]
  · have e2 : ¬ i = q := fun x => e x.symm
    simp [e, e2]
    by_cases h8 : i < 256
    · simp [h8, e2]
    · simp [h8]
theorem arrB_one (f : Nat → Bool) : (arrB f).all (·.oneCell') = true := by
  rw [Array.all_eq_true]
  intro i hi
  have := arrB_get f (k := i) (by rw [arrB_size] at hi; exact hi)
  rw [Array.getElem?_eq_getElem hi] at this
  rw [Option.some.inj this]; rfl
theorem zeroB : Try.zeroCells111 = arrB (fun _ => false) := by kernel_rfl
theorem blk_off {w : World} {g k : Nat} {o : Obj} (h : w.heap[g]? = some o) (hne : g ≠ k) (j : Nat) (v : Value) : (w.setCell ⟨k, j, none⟩ v).heap[g]? = some o := (Below.heap_setCell w ⟨k, j, none⟩ v g hne).trans h
theorem blk_cellB {w : World} {g t : Nat} {f : Nat → Bool} (h : w.heap[g]? = some (.cells (arrB f) t (0, 0))) {k : Nat} (hk : k < 256) : w.cell? ⟨g, k, none⟩ = some (.bool (f k)) := (blk_cell h k).trans (arrB_get f hk)
theorem blk_putB {w : World} {g t : Nat} {f f' : Nat → Bool} (h : w.heap[g]? = some (.cells (arrB f) t (0, 0))) {k : Nat} (hk : k < 256) {v : Bool} (e : (fun i => if i = k then v else f i) = f') : (w.setCell ⟨g, k, none⟩ (.bool v)).heap[g]? = some (.cells (arrB f') t (0, 0)) := by rw [← e]; exact blk_put h k _ (arrB_set f hk v)
theorem storeB {w : World} {g t : Nat} {f old : Nat → Bool} (h : w.heap[g]? = some (.cells (arrB old) t (0, 0))) : (storeCells ⟨g, 0, none⟩ (arrB f).toList).run Try.prog w = .ok () (w.setRow g (arrB f)) := by
  have := run_storeCells_from (P := Try.prog) g t (arrB f).toList 0 (arrB old) w h (by simp [arrB_size]) (fun v hv => (Array.all_eq_true_iff_forall_mem.1 (arrB_one f)) v (by simpa using hv))
  simpa [arrB_size] using this
theorem below_row {B g : Nat} {w0 w : World} (hb : Below B w0 w) (hBg : B ≤ g) (cs : Array Value) : Below B w0 (w.setRow g cs) :=
  hb.trans ⟨rfl, rfl, rfl, by simp [World.setRow], fun k hk => setRow_other w g k cs (by omega)⟩
/-- The first places of a number. -/
def upto (j : Nat) (x : Hb.B) : Nat → Bool := fun i => decide (i < j) && x.getLsbD i
theorem upto_zero (x : Hb.B) : upto 0 x = fun _ => false := by funext i; simp [upto]
theorem upto_all (x : Hb.B) : upto 256 x = x.getLsbD := by
  funext i
  unfold upto
  by_cases h : i < 256
  · simp [h]
  · simp [h, BitVec.getLsbD_of_ge x i (by omega)]
theorem upto_succ {j : Nat} {x : Hb.B} {v : Bool} (h : x.getLsbD j = v) : (fun i => if i = j then v else upto j x i) = upto (j + 1) x := by
  funext i
  unfold upto
  by_cases e : i = j
  · subst e; simp [h]
  · have : (i < j + 1) ↔ (i < j) := by omega
    simp [e, this]
set_option maxHeartbeats 8000000 in
set_option maxRecDepth 100000 in
theorem plus.calls (x y : Hb.B) (w : World) : Calls Try.prog 97 #[.agg (arrB x.getLsbD), .agg (arrB y.getLsbD)] w fun e w' => e = .returned (.agg (arrB (x + y).getLsbD)) ∧ Below w.heap.size w w' := by
  go_enter Try.func97, Try.ntmps97
  obtain ⟨X, hX⟩ : ∃ X, arrB x.getLsbD = X := ⟨_, rfl⟩
  obtain ⟨Y, hY⟩ : ∃ X, arrB y.getLsbD = X := ⟨_, rfl⟩
  rw [hX, hY]
  go_wp2
  obtain ⟨W, hW⟩ : ∃ W, (((w.alloc (.cells X 111)).alloc (.cells Y 111)).alloc (.cells Try.zeroCells111 111)).alloc (.cells Try.zeroCells111 111) = W := ⟨_, rfl⟩
  have HX : Hid (W.heap[w.heap.size]? = some (.cells (arrB x.getLsbD) 111 (0, 0))) := by rw [← hW, hX]; exact blk_alloc (blk_alloc (blk_alloc (heap_alloc_new w _) _) _) _
  have HY : Hid (W.heap[w.heap.size + 1]? = some (.cells (arrB y.getLsbD) 111 (0, 0))) := by rw [← hW, hY]; have := blk_alloc (blk_alloc (heap_alloc_new (w.alloc (.cells X 111)) (.cells Y 111)) (.cells Try.zeroCells111 111)) (.cells Try.zeroCells111 111); simp only [World.size_alloc] at this; exact this
  have HR : Hid (W.heap[w.heap.size + 1 + 1]? = some (.cells (arrB (fun _ => false)) 111 (0, 0))) := by rw [← hW, ← zeroB]; have := blk_alloc (heap_alloc_new ((w.alloc (.cells X 111)).alloc (.cells Y 111)) (.cells Try.zeroCells111 111)) (.cells Try.zeroCells111 111); simp only [World.size_alloc] at this; exact this
  have HO : Hid (W.heap[w.heap.size + 1 + 1 + 1]? = some (.cells (arrB (upto 0 (x + y))) 111 (0, 0))) := by rw [← hW, upto_zero, ← zeroB]; have := heap_alloc_new (((w.alloc (.cells X 111)).alloc (.cells Y 111)).alloc (.cells Try.zeroCells111 111)) (.cells Try.zeroCells111 111); simp only [World.size_alloc] at this; exact this
  have HB : Hid (Below w.heap.size w W) := by rw [← hW]; exact below_alloc (below_alloc (below_alloc (below_alloc (Below.refl _ _) _) _) _) _
  rw [hW]
  clear hW hX hY
  obtain ⟨b1, h1⟩ : ∃ b, w.heap.size = b := ⟨_, rfl⟩
  obtain ⟨b2, h2⟩ : ∃ b, b1 + 1 = b := ⟨_, rfl⟩
  obtain ⟨b3, h3⟩ : ∃ b, b2 + 1 = b := ⟨_, rfl⟩
  obtain ⟨b4, h4⟩ : ∃ b, b3 + 1 = b := ⟨_, rfl⟩
  rw [h1] at HX HY HR HO HB ⊢
  rw [h2] at HY HR HO ⊢
  rw [h3] at HR HO ⊢
  rw [h4] at HO ⊢
  go_loopg [6, 7] 257 (fun k v6 v7 wr => ∃ (j : Nat), v7 = .int .i64 (j : Int) ∧ v6 = .bool (BitVec.carry j x y false) ∧ j ≤ 256 ∧ 256 - j < k ∧ Hid (wr.heap[b1]? = some (.cells (arrB x.getLsbD) 111 (0, 0))) ∧ Hid (wr.heap[b2]? = some (.cells (arrB y.getLsbD) 111 (0, 0))) ∧ Hid (wr.heap[b3]? = some (.cells (arrB (fun _ => false)) 111 (0, 0))) ∧ Hid (wr.heap[b4]? = some (.cells (arrB (upto j (x + y))) 111 (0, 0))) ∧ Hid (Below b1 w wr))
  case atStart => exact ⟨0, rfl, by rw [Hb.carry_zero], by omega, by omega, HX, HY, HR, HO, HB⟩
  case round =>
    clear HX HY HR HO HB
    obtain ⟨j, rfl, rfl, hj, hk, HX, HY, HR, HO, HB⟩ := hrel
    by_cases hlt : j < 256
    · have j0 : (0 : Int) ≤ (j : Int) := by omega
      have j1 : (j : Int) < 256 := by omega
      have cx := blk_cellB HX.out hlt
      have cy := blk_cellB HY.out hlt
      have co := blk_cellB HO.out hlt
      have fo := blk_frozen HO.out j
      have pb := Hb.plus_bit x y hlt
      have pc := Hb.plus_carry x y j
      generalize x.getLsbD j = p at cx pb pc
      generalize y.getLsbD j = q at cy pb pc
      generalize BitVec.carry j x y false = c at *
      have HPB := Lib.hid pb
      have HPC := Lib.hid pc
      clear pb pc
      cases p <;> cases q <;> cases c <;>
        (go_wp2
         go_roundg (256 - (j + 1) + 1)
         case measure => omega
         case rel => exact ⟨j + 1, by go_num, by rw [HPC.out]; rfl, by omega, by omega, Lib.hid (blk_off HX.out (by omega) _ _), Lib.hid (blk_off HY.out (by omega) _ _), Lib.hid (blk_off HR.out (by omega) _ _), Lib.hid (blk_putB HO.out hlt (upto_succ (by rw [HPB.out]; rfl))), Lib.hid (HB.out.setCell (p := ⟨b4, j, none⟩) (by show b1 ≤ b4; omega) _)⟩)
    · obtain rfl : j = 256 := by omega
      have ho := HO.out
      have hr := HR.out
      go_wp2
      refine wp_load_row 111 (.tmp 5) rfl b4 (by rfl) 111 _ (0, 0) _ ho Try.underlying111 rfl (by rfl) ?_
      have hst := storeB (f := upto 256 (x + y)) hr
      go_wp2
      refine bodyPost_ret (results_cell_row rfl _ _ b3 111 _ (0, 0) _ (by rfl) (setRow_heap _ _ _ _ _ _ hr) Try.underlying111 rfl (by rfl)) rfl ⟨by rw [upto_all], ?_⟩
      rw [h1]
      exact below_row HB.out (by omega) _
theorem upto_shift (x : Hb.B) (k : Nat) : upto k (x <<< k) = fun _ => false := by
  funext i
  unfold upto
  by_cases h : i < k
  · simp [h]
  · simp [h]
set_option maxHeartbeats 8000000 in
set_option maxRecDepth 100000 in
theorem shift.calls (x : Hb.B) (s : Nat) (hs : s ≤ 256) (w : World) : Calls Try.prog 75 #[.agg (arrB x.getLsbD), .int .i64 (s : Int)] w fun e w' => e = .returned (.agg (arrB (x <<< s).getLsbD)) ∧ Below w.heap.size w w' := by
  go_enter Try.func75, Try.ntmps75
  obtain ⟨X, hX⟩ : ∃ X, arrB x.getLsbD = X := ⟨_, rfl⟩
  rw [hX]
  have s0 : (0 : Int) ≤ (s : Int) := by omega
  have s1 : (s : Int) ≤ 256 := by omega
  go_wp2
  obtain ⟨W, hW⟩ : ∃ W, ((w.alloc (.cells X 111)).alloc (.cells Try.zeroCells111 111)).alloc (.cells Try.zeroCells111 111) = W := ⟨_, rfl⟩
  have HX : Hid (W.heap[w.heap.size]? = some (.cells (arrB x.getLsbD) 111 (0, 0))) := by rw [← hW, hX]; exact blk_alloc (blk_alloc (heap_alloc_new w _) _) _
  have HR : Hid (W.heap[w.heap.size + 1]? = some (.cells (arrB (fun _ => false)) 111 (0, 0))) := by rw [← hW, ← zeroB]; have := blk_alloc (heap_alloc_new (w.alloc (.cells X 111)) (.cells Try.zeroCells111 111)) (.cells Try.zeroCells111 111); simp only [World.size_alloc] at this; exact this
  have HO : Hid (W.heap[w.heap.size + 1 + 1]? = some (.cells (arrB (upto s (x <<< s))) 111 (0, 0))) := by rw [← hW, upto_shift, ← zeroB]; have := heap_alloc_new ((w.alloc (.cells X 111)).alloc (.cells Try.zeroCells111 111)) (.cells Try.zeroCells111 111); simp only [World.size_alloc] at this; exact this
  have HB : Hid (Below w.heap.size w W) := by rw [← hW]; exact below_alloc (below_alloc (below_alloc (Below.refl _ _) _) _) _
  rw [hW]
  clear hW hX
  obtain ⟨b1, h1⟩ : ∃ b, w.heap.size = b := ⟨_, rfl⟩
  obtain ⟨b2, h2⟩ : ∃ b, b1 + 1 = b := ⟨_, rfl⟩
  obtain ⟨b3, h3⟩ : ∃ b, b2 + 1 = b := ⟨_, rfl⟩
  rw [h1] at HX HR HO HB ⊢
  rw [h2] at HR HO ⊢
  rw [h3] at HO ⊢
  go_loopg [6] 257 (fun k v6 wr => ∃ (j : Nat), v6 = .int .i64 (j : Int) ∧ s ≤ j ∧ j ≤ 256 ∧ 256 - j < k ∧ Hid (wr.heap[b1]? = some (.cells (arrB x.getLsbD) 111 (0, 0))) ∧ Hid (wr.heap[b2]? = some (.cells (arrB (fun _ => false)) 111 (0, 0))) ∧ Hid (wr.heap[b3]? = some (.cells (arrB (upto j (x <<< s))) 111 (0, 0))) ∧ Hid (Below b1 w wr))
  case atStart => exact ⟨s, rfl, by omega, by omega, by omega, HX, HR, HO, HB⟩
  case round =>
    clear HX HR HO HB
    obtain ⟨j, rfl, hsj, hj, hk, HX, HR, HO, HB⟩ := hrel
    by_cases hlt : j < 256
    · have j1 : (j : Int) < 256 := by omega
      obtain ⟨d, hd⟩ : ∃ d : Nat, (j : Int) - (s : Int) = (d : Int) := ⟨j - s, by omega⟩
      have d0 : (0 : Int) ≤ (d : Int) := by omega
      have d1 : (d : Int) < 256 := by omega
      have cx := blk_cellB HX.out (k := d) (by omega)
      have co := blk_cellB HO.out hlt
      have fo := blk_frozen HO.out j
      have HPB := Lib.hid (Hb.shift_bit x s hlt)
      have HD := Lib.hid (show d = j - s by omega)
      go_wp2
      go_roundg (256 - (j + 1) + 1)
      case measure => omega
      case rel => exact ⟨j + 1, by go_num, by omega, by omega, by omega, Lib.hid (blk_off HX.out (by omega) _ _), Lib.hid (blk_off HR.out (by omega) _ _), Lib.hid (blk_putB HO.out hlt (upto_succ (by rw [HPB.out, HD.out]; simp; omega))), Lib.hid (HB.out.setCell (p := ⟨b3, j, none⟩) (by show b1 ≤ b3; omega) _)⟩
    · obtain rfl : j = 256 := by omega
      have ho := HO.out
      have hr := HR.out
      go_wp2
      refine wp_load_row 111 (.tmp 5) rfl b3 (by rfl) 111 _ (0, 0) _ ho Try.underlying111 rfl (by rfl) ?_
      have hst := storeB (f := upto 256 (x <<< s)) hr
      go_wp2
      refine bodyPost_ret (results_cell_row rfl _ _ b2 111 _ (0, 0) _ (by rfl) (setRow_heap _ _ _ _ _ _ hr) Try.underlying111 rfl (by rfl)) rfl ⟨by rw [upto_all], ?_⟩
      rw [h1]
      exact below_row HB.out (by omega) _
/-- -1, 0, 1. -/
def cmpB (x y : Hb.B) : Int := if x.toNat < y.toNat then -1 else if y.toNat < x.toNat then 1 else 0
theorem eq_down {x y : Hb.B} {j : Nat} (h : ∀ m, j + 1 ≤ m → m < 256 → x.getLsbD m = y.getLsbD m) (he : x.getLsbD j = y.getLsbD j) : ∀ m, j ≤ m → m < 256 → x.getLsbD m = y.getLsbD m := by
  intro m h1 h2
  rcases Nat.eq_or_lt_of_le h1 with e | hl
  · rw [← e]; exact he
  · exact h m hl h2
def cmpB.T4 : Bool × List (List Nat × List Nat) := (true, [([], []), ([0], [0]), ([1], [1]), ([], []), ([3], [3]), ([4], [4]), ([2, 5], [2, 5])])
def cmpB.B4 : List Nat := [0, 1, 3, 0, 8, 24, 63]
theorem cmpB.tab4 : rtab .any (opsOf Try.f76 4) = cmpB.T4 := by kernel_rfl
theorem cmpB.bits4 : waitsOk cmpB.T4.2 cmpB.B4 = true := by kernel_rfl
set_option maxHeartbeats 8000000 in
set_option maxRecDepth 100000 in
theorem cmp.calls (x y : Hb.B) (w : World) : Calls Try.prog 76 #[.agg (arrB x.getLsbD), .agg (arrB y.getLsbD)] w fun e w' => e = .returned (.int .i64 (cmpB x y)) ∧ Below w.heap.size w w' := by
  go_enter Try.func76, Try.ntmps76
  obtain ⟨X, hX⟩ : ∃ X, arrB x.getLsbD = X := ⟨_, rfl⟩
  obtain ⟨Y, hY⟩ : ∃ X, arrB y.getLsbD = X := ⟨_, rfl⟩
  rw [hX, hY]
  go_wp2
  obtain ⟨W, hW⟩ : ∃ W, (w.alloc (.cells X 111)).alloc (.cells Y 111) = W := ⟨_, rfl⟩
  have HX : Hid (W.heap[w.heap.size]? = some (.cells (arrB x.getLsbD) 111 (0, 0))) := by rw [← hW, hX]; exact blk_alloc (heap_alloc_new w _) _
  have HY : Hid (W.heap[w.heap.size + 1]? = some (.cells (arrB y.getLsbD) 111 (0, 0))) := by rw [← hW, hY]; have := heap_alloc_new (w.alloc (.cells X 111)) (.cells Y 111); simp only [World.size_alloc] at this; exact this
  have HB : Hid (Below w.heap.size w W) := by rw [← hW]; exact below_alloc (below_alloc (Below.refl _ _) _) _
  rw [hW]
  clear hW hX hY
  obtain ⟨b1, h1⟩ : ∃ b, w.heap.size = b := ⟨_, rfl⟩
  obtain ⟨b2, h2⟩ : ∃ b, b1 + 1 = b := ⟨_, rfl⟩
  rw [h1] at HX HY HB ⊢
  rw [h2] at HY ⊢
  go_loopg [5] 258 (fun k v5 wr => ∃ (j : Nat), v5 = .int .i64 ((j : Int) - 1) ∧ j ≤ 256 ∧ j + 1 < k ∧ Hid (∀ m, j ≤ m → m < 256 → x.getLsbD m = y.getLsbD m) ∧ Hid (wr.heap[b1]? = some (.cells (arrB x.getLsbD) 111 (0, 0))) ∧ Hid (wr.heap[b2]? = some (.cells (arrB y.getLsbD) 111 (0, 0))) ∧ Hid (Below b1 w wr))
  case atStart => exact ⟨256, rfl, by omega, by omega, Lib.hid (fun m h h2 => by omega), HX, HY, HB⟩
  case round =>
    clear HX HY HB
    obtain ⟨j, rfl, hj, hk, HE, HX, HY, HB⟩ := hrel
    cases j with
    | zero =>
      go_wp2
      go_ret
      have e : x = y := Hb.eq_of_bits (fun m hm => HE.out m (Nat.zero_le _) hm)
      have e2 : cmpB x y = 0 := by rw [e]; unfold cmpB; simp
      refine ⟨by rw [e2]; rfl, ?_⟩
      first | exact HB.out | (rw [h1]; exact HB.out)
    | succ j =>
      have e1 : ((j + 1 : Nat) : Int) - 1 = (j : Int) := by omega
      rw [e1]
      have j0 : (0 : Int) ≤ (j : Int) := by omega
      have j1 : (j : Int) < 256 := by omega
      have j2 : (j : Int) ≤ 255 := by omega
      go_wp2
      replace HX := Lib.hid (blk_drew HX.out)
      replace HY := Lib.hid (blk_drew HY.out)
      replace HB := Lib.hid (below_drew1 HB.out)
      refine start_ (n := 7) (S := fun w' => w'.cell? ⟨b1, j, none⟩ = some (.bool (x.getLsbD j)) ∧ w'.cell? ⟨b2, j, none⟩ = some (.bool (y.getLsbD j))) (ds := []) #[false, false, false, false, false, false, false] (by kernel_rfl) rfl rfl ⟨blk_cellB HX.out (k := j) (by omega), blk_cellB HY.out (k := j) (by omega)⟩ (fun hHeld => ?_); refine with_tabW cmpB.tab4 cmpB.bits4 (fun HT_ HW_ => ?_)
      generalize wr.drew = w5 at HX HY HB hHeld ⊢
      refine pure_ (i := 0) (N := some 10) (v := ?_) (a' := ?_) #[true, false, false, false, false, false, false] rfl rfl (any_of HT_.out (by kernel_rfl)) (fun _ _ _ h => h) (Or.inl ⟨by rfl, ?_⟩) ?_ ?_
      rotate_left
      · intro w'
        go_simp
        with_reducible rfl
      rotate_left
      · simp only [Act.put, List.setIfInBounds_toArray, List.set_cons_zero, List.set_cons_succ, i64_w, i32_w]
        rfl
      refine pure_ (i := 1) (N := some 11) (v := ?_) (a' := ?_) #[true, true, false, false, false, false, false] rfl rfl (any_of HT_.out (by kernel_rfl)) (fun _ _ _ h => h) (Or.inl ⟨by rfl, ?_⟩) ?_ ?_
      rotate_left
      · intro w'
        go_simp
        with_reducible rfl
      rotate_left
      · simp only [Act.put, List.setIfInBounds_toArray, List.set_cons_zero, List.set_cons_succ, i64_w, i32_w]
        rfl
      refine take_ (i := 2) (N := some 12) (v := ?_) (a' := ?_) #[true, true, true, false, false, false, false] rfl rfl (take_ofW HT_.out HW_.out (by kernel_rfl)) (fun _ _ _ h => h) (Or.inl ⟨by rfl, ?_⟩) hHeld ?_ ?_
      rotate_left
      · rintro w' ⟨s0, s1⟩
        go_simp
        with_reducible rfl
      rotate_left
      · simp only [Act.put, List.setIfInBounds_toArray, List.set_cons_zero, List.set_cons_succ, i64_w, i32_w]
        rfl
      refine pure_ (i := 3) (N := some 13) (v := ?_) (a' := ?_) #[true, true, true, true, false, false, false] rfl rfl (any_of HT_.out (by kernel_rfl)) (fun _ _ _ h => h) (Or.inl ⟨by rfl, ?_⟩) ?_ ?_
      rotate_left
      · intro w'
        go_simp
        with_reducible rfl
      rotate_left
      · simp only [Act.put, List.setIfInBounds_toArray, List.set_cons_zero, List.set_cons_succ, i64_w, i32_w]
        rfl
      refine pure_ (i := 4) (N := some 14) (v := ?_) (a' := ?_) #[true, true, true, true, true, false, false] rfl rfl (any_of HT_.out (by kernel_rfl)) (fun _ _ _ h => h) (Or.inl ⟨by rfl, ?_⟩) ?_ ?_
      rotate_left
      · intro w'
        go_simp
        with_reducible rfl
      rotate_left
      · simp only [Act.put, List.setIfInBounds_toArray, List.set_cons_zero, List.set_cons_succ, i64_w, i32_w]
        rfl
      refine take_ (i := 5) (N := some 15) (v := ?_) (a' := ?_) #[true, true, true, true, true, true, false] rfl rfl (take_ofW HT_.out HW_.out (by kernel_rfl)) (fun _ _ _ h => h) (Or.inl ⟨by rfl, ?_⟩) hHeld ?_ ?_
      rotate_left
      · rintro w' ⟨s0, s1⟩
        go_simp
        with_reducible rfl
      rotate_left
      · simp only [Act.put, List.setIfInBounds_toArray, List.set_cons_zero, List.set_cons_succ, i64_w, i32_w]
        rfl
      refine pure_ (i := 6) (N := some 16) (v := ?_) (a' := ?_) #[true, true, true, true, true, true, true] rfl rfl (any_of HT_.out (by kernel_rfl)) (fun _ _ _ h => h) (Or.inl ⟨by rfl, ?_⟩) ?_ ?_
      rotate_left
      · intro w'
        go_simp
        with_reducible rfl
      rotate_left
      · simp only [Act.put, List.setIfInBounds_toArray, List.set_cons_zero, List.set_cons_succ, i64_w, i32_w]
        rfl
      refine done_ (done_of HT_.out (by kernel_rfl)) ?_
      clear hHeld
      have cx := blk_cellB HX.out (k := j) (by omega)
      obtain ⟨p, hp⟩ : ∃ p, x.getLsbD j = p := ⟨_, rfl⟩
      obtain ⟨q, hq⟩ : ∃ q, y.getLsbD j = q := ⟨_, rfl⟩
      have HP := Lib.hid hp
      have HQ := Lib.hid hq
      rw [hp] at cx ⊢
      rw [hq]
      clear hp hq
      have HJ := Lib.hid (show j < 256 by omega)
      cases p <;> cases q
      · go_wp2
        go_roundg (j + 2)
        case measure => omega
        case rel => exact ⟨j, by go_num, by omega, by omega, Lib.hid (eq_down HE.out (HP.out.trans HQ.out.symm)), HX, HY, HB⟩
      · go_wp2
        go_ret
        have hl := Hb.lt_of_bit HP.out HQ.out (fun m h h2 => HE.out m h h2)
        have e2 : cmpB x y = -1 := by unfold cmpB; rw [if_pos hl]
        refine ⟨by rw [e2]; rfl, ?_⟩
        first | exact HB.out | (rw [h1]; exact HB.out)
      · go_wp2
        go_ret
        have hl := Hb.lt_of_bit HQ.out HP.out (fun m h h2 => (HE.out m h h2).symm)
        have e2 : cmpB x y = 1 := by unfold cmpB; rw [if_neg (by omega), if_pos hl]
        refine ⟨by rw [e2]; rfl, ?_⟩
        first | exact HB.out | (rw [h1]; exact HB.out)
      · go_wp2
        go_roundg (j + 2)
        case measure => omega
        case rel => exact ⟨j, by go_num, by omega, by omega, Lib.hid (eq_down HE.out (HP.out.trans HQ.out.symm)), HX, HY, HB⟩
theorem bit_eq (n j : Nat) (hn : n < 18446744073709551616) : (bits BinOp.and IntKind.u64 ((n : Int) / 2 ^ j) 1 == 1) = n.testBit j := by
  have e : ((n : Int) / 2 ^ j) = ((n / 2 ^ j : Nat) : Int) := by rw [Int.natCast_ediv, Int.natCast_pow]; rfl
  have h := u64_and_nat (n / 2 ^ j) 1 (Nat.lt_of_le_of_lt (Nat.div_le_self _ _) hn) (by decide)
  have h2 : ((1 : Nat) : Int) = 1 := rfl
  rw [h2, Nat.and_one_is_mod] at h
  rw [e, h, ← Hb.bit_is]
  rcases Nat.mod_two_eq_zero_or_one (n / 2 ^ j) with q | q <;> rw [q] <;> rfl
set_option maxHeartbeats 8000000 in
set_option maxRecDepth 100000 in
theorem of.calls (hi lo : Nat) (hh : hi < 18446744073709551616) (hl : lo < 18446744073709551616) (w : World) : Calls Try.prog 73 #[.agg #[.int .u64 (hi : Int), .int .u64 (lo : Int)]] w fun e w' => e = .returned (.agg (arrB (Hb.num hi lo).getLsbD)) ∧ Below w.heap.size w w' := by
  have h0 : (0 : Int) ≤ (hi : Int) := by omega
  have l0 : (0 : Int) ≤ (lo : Int) := by omega
  have h1 : (hi : Int) ≤ 18446744073709551615 := by omega
  have l1 : (lo : Int) ≤ 18446744073709551615 := by omega
  have HHH := Lib.hid hh
  have HLL := Lib.hid hl
  clear hh hl
  go_enter Try.func73, Try.ntmps73
  go_wp2
  obtain ⟨W, hW⟩ : ∃ W, ((w.alloc (.cells #[.int .u64 (hi : Int), .int .u64 (lo : Int)] 44)).alloc (.cells Try.zeroCells111 111)).alloc (.cells Try.zeroCells111 111) = W := ⟨_, rfl⟩
  have HX : Hid (W.heap[w.heap.size]? = some (.cells #[.int .u64 (hi : Int), .int .u64 (lo : Int)] 44 (0, 0))) := by rw [← hW]; exact blk_alloc (blk_alloc (heap_alloc_new w _) _) _
  have HR : Hid (W.heap[w.heap.size + 1]? = some (.cells (arrB (fun _ => false)) 111 (0, 0))) := by rw [← hW, ← zeroB]; have := blk_alloc (heap_alloc_new (w.alloc (.cells #[.int .u64 (hi : Int), .int .u64 (lo : Int)] 44)) (.cells Try.zeroCells111 111)) (.cells Try.zeroCells111 111); simp only [World.size_alloc] at this; exact this
  have HO : Hid (W.heap[w.heap.size + 1 + 1]? = some (.cells (arrB (Hb.ofB hi lo 0)) 111 (0, 0))) := by rw [← hW, Hb.ofB_zero, ← zeroB]; have := heap_alloc_new ((w.alloc (.cells #[.int .u64 (hi : Int), .int .u64 (lo : Int)] 44)).alloc (.cells Try.zeroCells111 111)) (.cells Try.zeroCells111 111); simp only [World.size_alloc] at this; exact this
  have HB : Hid (Below w.heap.size w W) := by rw [← hW]; exact below_alloc (below_alloc (below_alloc (Below.refl _ _) _) _) _
  rw [hW]
  clear hW
  obtain ⟨b1, hb1⟩ : ∃ b, w.heap.size = b := ⟨_, rfl⟩
  obtain ⟨b2, hb2⟩ : ∃ b, b1 + 1 = b := ⟨_, rfl⟩
  obtain ⟨b3, hb3⟩ : ∃ b, b2 + 1 = b := ⟨_, rfl⟩
  rw [hb1] at HX HR HO HB ⊢
  rw [hb2] at HR HO ⊢
  rw [hb3] at HO ⊢
  go_loopg [4] 65 (fun k v4 wr => ∃ (j : Nat), v4 = .int .i64 (j : Int) ∧ j ≤ 64 ∧ 64 - j < k ∧ Hid (wr.heap[b1]? = some (.cells #[.int .u64 (hi : Int), .int .u64 (lo : Int)] 44 (0, 0))) ∧ Hid (wr.heap[b2]? = some (.cells (arrB (fun _ => false)) 111 (0, 0))) ∧ Hid (wr.heap[b3]? = some (.cells (arrB (Hb.ofB hi lo j)) 111 (0, 0))) ∧ Hid (Below b1 w wr))
  case atStart => exact ⟨0, rfl, by omega, by omega, HX, HR, HO, HB⟩
  case round =>
    clear HX HR HO HB
    obtain ⟨j, rfl, hj, hk, HX, HR, HO, HB⟩ := hrel
    by_cases hlt : j < 64
    · have j0 : (0 : Int) ≤ (j : Int) := by omega
      have j1 : (j : Int) < 64 := by omega
      have c0 := (blk_cell HX.out 0).trans rfl
      have c1 := (blk_cell HX.out 1).trans rfl
      have co := blk_cellB HO.out (k := j) (by omega)
      have fo := blk_frozen HO.out j
      have cp := blk_cellB HO.out (k := 64 + j) (by omega)
      have fp := blk_frozen HO.out (64 + j)
      go_wp2
      go_roundg (64 - (j + 1) + 1)
      case measure => omega
      case rel => exact ⟨j + 1, by go_num, by omega, by omega, Lib.hid (blk_off (blk_off HX.out (by omega) _ _) (by omega) _ _), Lib.hid (blk_off (blk_off HR.out (by omega) _ _) (by omega) _ _), Lib.hid (blk_putB (blk_putB HO.out (by omega) rfl) (by omega) (by rw [bit_eq _ _ HLL.out, bit_eq _ _ HHH.out]; exact Hb.ofB_succ hi lo hlt)), Lib.hid ((HB.out.setCell (p := ⟨b3, j, none⟩) (by show b1 ≤ b3; omega) _).setCell (p := ⟨b3, 64 + j, none⟩) (by show b1 ≤ b3; omega) _)⟩
    · obtain rfl : j = 64 := by omega
      have ho := HO.out
      have hr := HR.out
      go_wp2
      refine wp_load_row 111 (.tmp 3) rfl b3 (by rfl) 111 _ (0, 0) _ ho Try.underlying111 rfl (by rfl) ?_
      have hst := storeB (f := Hb.ofB hi lo 64) hr
      go_wp2
      refine bodyPost_ret (results_cell_row rfl _ _ b2 111 _ (0, 0) _ (by rfl) (setRow_heap _ _ _ _ _ _ hr) Try.underlying111 rfl (by rfl)) rfl ⟨by rw [Hb.ofB_all HHH.out HLL.out], ?_⟩
      rw [hb1]
      exact below_row HB.out (by omega) _
set_option maxHeartbeats 8000000 in
set_option maxRecDepth 100000 in
theorem one.calls (n : Nat) (hn : n < 18446744073709551616) (w : World) : Calls Try.prog 74 #[.int .u64 (n : Int)] w fun e w' => e = .returned (.agg (arrB (Hb.num 0 n).getLsbD)) ∧ Below w.heap.size w w' := by
  have HN := Lib.hid hn
  clear hn
  go_enter Try.func74, Try.ntmps74
  go_wp2_with (go_at_call 73; refine (of.calls 0 n (by decide) HN.out _).mono ?_; rintro e w1 ⟨rfl, q1⟩; have hr : w1.heap[w.heap.size]? = some (.cells (arrB (fun _ => false)) 111 (0, 0)) := (by rw [← zeroB]; exact blk_below (heap_alloc_new w _) q1); have hst := storeB (f := (Hb.num 0 n).getLsbD) hr; have HR := Lib.hid hr; clear hr; have HQ := Lib.hid q1; clear q1)
  refine bodyPost_ret (results_cell_row rfl _ _ w.heap.size 111 _ (0, 0) _ (by rfl) (setRow_heap _ _ _ _ _ _ HR.out) Try.underlying111 rfl (by rfl)) rfl ⟨rfl, ?_⟩
  exact below_row (below_step (below_alloc (Below.refl _ _) _) HQ.out) (Nat.le_refl _) _
def timesB.T6 : Bool × List (List Nat × List Nat) := (true, [([], []), ([], []), ([], []), ([1, 2], [1, 2]), ([0, 3, 3], [0, 3]), ([4, 4, 0, 1, 2, 3, 4], [4])])
def timesB.B6 : List Nat := [0, 0, 0, 6, 15, 31]
theorem timesB.tab6 : rtab .any (opsOf Try.f81 6) = timesB.T6 := by kernel_rfl
theorem timesB.bits6 : waitsOk timesB.T6.2 timesB.B6 = true := by kernel_rfl
theorem load_row_run (ev : Operand → Value) (o : Oper) (w : World) (ty : TypeId) (x : Operand) (g : Nat) (v : Value) (ho : o.op = .load ty x) (hx : ev x = .pointer (some ⟨g, 0, none⟩)) (h : (loadVar ty ⟨g, 0, none⟩).run Try.prog w = .ok v w) : (execOp ev o).run Try.prog w = .ok (.value v) w := by
  unfold execOp
  simp only [ho, hx, Instr.loadAt, Instr.sureAddr, Sem.run_bind, Sem.run_pure, Result.andThen_ok, h]
set_option maxHeartbeats 8000000 in
set_option maxRecDepth 100000 in
theorem times.calls (x y : Hb.B) (w : World) : Calls Try.prog 81 #[.agg (arrB x.getLsbD), .agg (arrB y.getLsbD)] w fun e w' => e = .returned (.agg (arrB (Hb.part x y 128).getLsbD)) ∧ Below w.heap.size w w' := by
  go_enter Try.func81, Try.ntmps81
  obtain ⟨X, hX⟩ : ∃ X, arrB x.getLsbD = X := ⟨_, rfl⟩
  obtain ⟨Y, hY⟩ : ∃ X, arrB y.getLsbD = X := ⟨_, rfl⟩
  rw [hX, hY]
  go_wp2
  obtain ⟨W, hW⟩ : ∃ W, (((w.alloc (.cells X 111)).alloc (.cells Y 111)).alloc (.cells Try.zeroCells111 111)).alloc (.cells Try.zeroCells111 111) = W := ⟨_, rfl⟩
  have HX : Hid (W.heap[w.heap.size]? = some (.cells (arrB x.getLsbD) 111 (0, 0))) := by rw [← hW, hX]; exact blk_alloc (blk_alloc (blk_alloc (heap_alloc_new w _) _) _) _
  have HY : Hid (W.heap[w.heap.size + 1]? = some (.cells (arrB y.getLsbD) 111 (0, 0))) := by rw [← hW, hY]; have := blk_alloc (blk_alloc (heap_alloc_new (w.alloc (.cells X 111)) (.cells Y 111)) (.cells Try.zeroCells111 111)) (.cells Try.zeroCells111 111); simp only [World.size_alloc] at this; exact this
  have HR : Hid (W.heap[w.heap.size + 1 + 1]? = some (.cells (arrB (fun _ => false)) 111 (0, 0))) := by rw [← hW, ← zeroB]; have := blk_alloc (heap_alloc_new ((w.alloc (.cells X 111)).alloc (.cells Y 111)) (.cells Try.zeroCells111 111)) (.cells Try.zeroCells111 111); simp only [World.size_alloc] at this; exact this
  have HO : Hid (W.heap[w.heap.size + 1 + 1 + 1]? = some (.cells (arrB (Hb.part x y 0).getLsbD) 111 (0, 0))) := by rw [← hW, show (Hb.part x y 0).getLsbD = fun _ => false from by funext i; simp [Hb.part], ← zeroB]; have := heap_alloc_new (((w.alloc (.cells X 111)).alloc (.cells Y 111)).alloc (.cells Try.zeroCells111 111)) (.cells Try.zeroCells111 111); simp only [World.size_alloc] at this; exact this
  have HB : Hid (Below w.heap.size w W) := by rw [← hW]; exact below_alloc (below_alloc (below_alloc (below_alloc (Below.refl _ _) _) _) _) _
  rw [hW]
  clear hW hX hY
  obtain ⟨b1, hb1⟩ : ∃ b, w.heap.size = b := ⟨_, rfl⟩
  obtain ⟨b2, hb2⟩ : ∃ b, b1 + 1 = b := ⟨_, rfl⟩
  obtain ⟨b3, hb3⟩ : ∃ b, b2 + 1 = b := ⟨_, rfl⟩
  obtain ⟨b4, hb4⟩ : ∃ b, b3 + 1 = b := ⟨_, rfl⟩
  rw [hb1] at HX HY HR HO HB ⊢
  rw [hb2] at HY HR HO ⊢
  rw [hb3] at HR HO ⊢
  rw [hb4] at HO ⊢
  go_loopg [6] 129 (fun k v6 wr => ∃ (j : Nat), v6 = .int .i64 (j : Int) ∧ j ≤ 128 ∧ 128 - j < k ∧ Hid (wr.heap[b1]? = some (.cells (arrB x.getLsbD) 111 (0, 0))) ∧ Hid (wr.heap[b2]? = some (.cells (arrB y.getLsbD) 111 (0, 0))) ∧ Hid (wr.heap[b3]? = some (.cells (arrB (fun _ => false)) 111 (0, 0))) ∧ Hid (wr.heap[b4]? = some (.cells (arrB (Hb.part x y j).getLsbD) 111 (0, 0))) ∧ Hid (Below b1 w wr))
  case atStart => exact ⟨0, rfl, by omega, by omega, HX, HY, HR, HO, HB⟩
  case round =>
    clear HX HY HR HO HB
    obtain ⟨j, rfl, hj, hk, HX, HY, HR, HO, HB⟩ := hrel
    by_cases hlt : j < 128
    · have j0 : (0 : Int) ≤ (j : Int) := by omega
      have j1 : (j : Int) < 128 := by omega
      have j2 : (j : Int) < 256 := by omega
      have cy := blk_cellB HY.out (k := j) (by omega)
      cases hp : y.getLsbD j with
      | false =>
        rw [hp] at cy
        have HP := Lib.hid hp
        clear hp
        go_wp2
        go_roundg (128 - (j + 1) + 1)
        case measure => omega
        case rel => exact ⟨j + 1, by go_num, by omega, by omega, HX, HY, HR, by rw [Hb.part, HP.out]; exact HO, HB⟩
      | true =>
        rw [hp] at cy
        have HP := Lib.hid hp
        clear hp
        go_wp2
        clear cy
        replace HX := Lib.hid (blk_drew HX.out)
        replace HY := Lib.hid (blk_drew HY.out)
        replace HR := Lib.hid (blk_drew HR.out)
        replace HO := Lib.hid (blk_drew HO.out)
        replace HB := Lib.hid (below_drew1 HB.out)
        refine start_ (n := 6) (S := fun w' => w'.heap[b4]? = some (.cells (arrB (Hb.part x y j).getLsbD) 111 (0, 0)) ∧ w'.heap[b1]? = some (.cells (arrB x.getLsbD) 111 (0, 0))) (ds := [5]) #[false, false, false, false, false, false] (by kernel_rfl) rfl rfl ⟨HO.out, HX.out⟩ (fun hHeld => ?_); refine with_tabW timesB.tab6 timesB.bits6 (fun HT_ HW_ => ?_)
        generalize wr.drew = w5 at HX HY HR HO HB hHeld ⊢
        refine take_ (i := 0) (N := some 14) (v := ?_) (a' := ?_) #[true, false, false, false, false, false] rfl rfl (take_ofW HT_.out HW_.out (by kernel_rfl)) (fun _ _ _ h => h) (Or.inl ⟨by rfl, ?_⟩) hHeld ?_ ?_
        rotate_left
        · rintro w' ⟨s0, s1⟩
          refine Eq.trans (load_row_run _ _ w' 111 (.tmp 5) b4 _ rfl (by rfl) (run_loadVar_row (P := Try.prog) w' b4 111 111 _ (0, 0) _ s0 Try.underlying111 rfl (by rfl))) ?_
          with_reducible rfl
        rotate_left
        · simp only [Act.put, List.setIfInBounds_toArray, List.set_cons_zero, List.set_cons_succ, i64_w, i32_w]
          rfl
        refine take_ (i := 1) (N := some 15) (v := ?_) (a' := ?_) #[true, true, false, false, false, false] rfl rfl (take_ofW HT_.out HW_.out (by kernel_rfl)) (fun _ _ _ h => h) (Or.inl ⟨by rfl, ?_⟩) hHeld ?_ ?_
        rotate_left
        · rintro w' ⟨s0, s1⟩
          refine Eq.trans (load_row_run _ _ w' 111 (.tmp 2) b1 _ rfl (by rfl) (run_loadVar_row (P := Try.prog) w' b1 111 111 _ (0, 0) _ s1 Try.underlying111 rfl (by rfl))) ?_
          with_reducible rfl
        rotate_left
        · simp only [Act.put, List.setIfInBounds_toArray, List.set_cons_zero, List.set_cons_succ, i64_w, i32_w]
          rfl
        refine pure_ (i := 2) (N := some 16) (v := ?_) (a' := ?_) #[true, true, true, false, false, false] rfl rfl (any_of HT_.out (by kernel_rfl)) (fun _ _ _ h => h) (Or.inl ⟨by rfl, ?_⟩) ?_ ?_
        rotate_left
        · intro w'
          go_simp
          with_reducible rfl
        rotate_left
        · simp only [Act.put, List.setIfInBounds_toArray, List.set_cons_zero, List.set_cons_succ, i64_w, i32_w]
          rfl
        refine one_ (i := 3) (N := some 17) #[true, true, true, true, false, false] rfl rfl (one_of HT_.out (by kernel_rfl)) (by decide) (fun K hK => ?_)
        refine goes_ Try.func75 (by kernel_rfl) rfl #[.agg (arrB x.getLsbD), .int .i64 (j : Int)] (by rfl) rfl rfl (by (try simp only [List.map_toArray, List.map_cons, List.map_nil]); first | done | rfl) ?_
        refine (shift.calls x j (by omega) w5).mono ?_
        rintro e w6 ⟨rfl, q1⟩
        refine ⟨_, rfl, ?_⟩
        replace HB := Lib.hid (below_then HB.out (Nat.le_of_lt (blk_lt HX.out)) q1)
        replace HX := Lib.hid (blk_below HX.out q1)
        replace HY := Lib.hid (blk_below HY.out q1)
        replace HR := Lib.hid (blk_below HR.out q1)
        replace HO := Lib.hid (blk_below HO.out q1)
        clear q1
        refine hK.out _ _ ⟨HO.out, HX.out⟩ (fun hHeld => ?_)
        clear hK K
        refine norm_ (a' := ?_) ?_ ?_
        rotate_left
        · show Act.put _ (some 17) _ = _
          simp only [Act.put, List.setIfInBounds_toArray, List.set_cons_zero, List.set_cons_succ, i64_w, i32_w]
          rfl
        refine one_ (i := 4) (N := some 18) #[true, true, true, true, true, false] rfl rfl (one_of HT_.out (by kernel_rfl)) (by decide) (fun K hK => ?_)
        refine goes_ Try.func97 (by kernel_rfl) rfl #[.agg (arrB (Hb.part x y j).getLsbD), .agg (arrB (x <<< j).getLsbD)] (by rfl) rfl rfl (by (try simp only [List.map_toArray, List.map_cons, List.map_nil]); first | done | rfl) ?_
        refine (plus.calls (Hb.part x y j) (x <<< j) w6).mono ?_
        rintro e w7 ⟨rfl, q1⟩
        refine ⟨_, rfl, ?_⟩
        replace HB := Lib.hid (below_then HB.out (Nat.le_of_lt (blk_lt HX.out)) q1)
        replace HX := Lib.hid (blk_below HX.out q1)
        replace HY := Lib.hid (blk_below HY.out q1)
        replace HR := Lib.hid (blk_below HR.out q1)
        replace HO := Lib.hid (blk_below HO.out q1)
        clear q1
        refine hK.out _ _ ⟨HO.out, HX.out⟩ (fun hHeld => ?_)
        clear hK K
        refine norm_ (a' := ?_) ?_ ?_
        rotate_left
        · show Act.put _ (some 18) _ = _
          simp only [Act.put, List.setIfInBounds_toArray, List.set_cons_zero, List.set_cons_succ, i64_w, i32_w]
          rfl
        refine last_ (i := 5) (N := none) #[true, true, true, true, true, true] rfl rfl (one_of HT_.out (by kernel_rfl)) (by decide) (fun K hK => ?_)
        have hst := storeB (f := (Hb.part x y j + x <<< j).getLsbD) HO.out
        refine skip_ (w1 := ?_) (by rfl) rfl ?_ ?_
        rotate_left
        · go_simp
          rfl
        refine hK.out _ _ ?_
        clear hK K
        refine done_ (done_of HT_.out (by kernel_rfl)) ?_
        clear hHeld
        have HO2 := Lib.hid (setRow_heap _ _ _ (arrB (Hb.part x y j + x <<< j).getLsbD) _ _ HO.out)
        replace HX := Lib.hid ((setRow_other w7 b4 b1 (arrB (Hb.part x y j + x <<< j).getLsbD) (by omega)).trans HX.out)
        replace HY := Lib.hid ((setRow_other w7 b4 b2 (arrB (Hb.part x y j + x <<< j).getLsbD) (by omega)).trans HY.out)
        replace HR := Lib.hid ((setRow_other w7 b4 b3 (arrB (Hb.part x y j + x <<< j).getLsbD) (by omega)).trans HR.out)
        replace HB := Lib.hid (below_row HB.out (show b1 ≤ b4 by omega) (arrB (Hb.part x y j + x <<< j).getLsbD))
        go_wp2
        go_roundg (128 - (j + 1) + 1)
        case measure => omega
        case rel => exact ⟨j + 1, by go_num, by omega, by omega, HX, HY, HR, by rw [Hb.part, HP.out]; exact HO2, HB⟩
    · obtain rfl : j = 128 := by omega
      have ho := HO.out
      have hr := HR.out
      go_wp2
      refine wp_load_row 111 (.tmp 5) rfl b4 (by rfl) 111 _ (0, 0) _ ho Try.underlying111 rfl (by rfl) ?_
      have hst := storeB (f := (Hb.part x y 128).getLsbD) hr
      go_wp2
      refine bodyPost_ret (results_cell_row rfl _ _ b3 111 _ (0, 0) _ (by rfl) (setRow_heap _ _ _ _ _ _ hr) Try.underlying111 rfl (by rfl)) rfl ⟨rfl, ?_⟩
      rw [hb1]
      exact below_row HB.out (by omega) _
def cmpI (x y : Int) : Int := if x < y then -1 else if y < x then 1 else 0
theorem cmpB_is {x y : Hb.B} {n m : Int} (h : (x.toNat : Int) = n) (h2 : (y.toNat : Int) = m) : cmpB x y = cmpI n m := by
  subst h
  subst h2
  unfold cmpB cmpI
  simp only [Int.ofNat_lt]
theorem num_int {a b : Nat} (ha : a < 18446744073709551616) (hb : b < 18446744073709551616) : ((Hb.num a b).toNat : Int) = (a : Int) * 18446744073709551616 + (b : Int) := by
  rw [Hb.num_toNat ha hb]; omega
set_option maxHeartbeats 8000000 in
set_option maxRecDepth 100000 in
theorem lessZ1.calls (a c : Int) (d : Int) (w : World) : Calls Try.prog 40 #[.int .u64 a, .int .u64 0, .int .u64 c, .int .u64 d] w fun e w' => e = .returned (.bool false) ∧ Below w.heap.size w w' := by
  go_enter Try.func40, Try.ntmps40
  go_wp2
  go_ret
  exact ⟨rfl, Below.refl _ _⟩
set_option maxHeartbeats 8000000 in
set_option maxRecDepth 100000 in
theorem lessZ2.calls (a b c : Int) (hb : ¬ b = 0) (w : World) : Calls Try.prog 40 #[.int .u64 a, .int .u64 b, .int .u64 c, .int .u64 0] w fun e w' => e = .returned (.bool false) ∧ Below w.heap.size w w' := by
  have hbz : (b == 0) = false := by simp [hb]
  have hbn : (b != 0) = true := by simp [hb]
  go_enter Try.func40, Try.ntmps40
  go_wp2
  go_ret
  exact ⟨rfl, Below.refl _ _⟩
set_option maxHeartbeats 8000000 in
set_option maxRecDepth 100000 in
theorem lessW.calls (a b c d : Nat) (ha : a < 18446744073709551616) (hb : b < 18446744073709551616) (hc : c < 18446744073709551616) (hd : d < 18446744073709551616) (hb0 : b ≠ 0) (hd0 : d ≠ 0) (w : World) : Calls Try.prog 40 #[.int .u64 (a : Int), .int .u64 (b : Int), .int .u64 (c : Int), .int .u64 (d : Int)] w fun e w' => e = .returned (.bool (decide (cmpB (Hb.part (Hb.num 0 a) (Hb.num 0 d) 128) (Hb.part (Hb.num 0 c) (Hb.num 0 b) 128) < 0))) ∧ Below w.heap.size w w' := by
  have hbi : ¬ (b : Int) = 0 := by omega
  have hdi : ¬ (d : Int) = 0 := by omega
  have hbz : ((b : Int) == 0) = false := by simp; omega
  have hbn : ((b : Int) != 0) = true := by simp; omega
  have hdz : ((d : Int) == 0) = false := by simp; omega
  have hdn : ((d : Int) != 0) = true := by simp; omega
  have HAA := Lib.hid ha
  have HBB := Lib.hid hb
  have HCC := Lib.hid hc
  have HDD := Lib.hid hd
  have HB := Lib.hid (Below.refl w.heap.size w)
  clear ha hb hc hd hb0 hd0
  go_enter Try.func40, Try.ntmps40
  go_wp2_with (first
    | (go_at_call 74; refine (one.calls a HAA.out _).mono ?_; rintro e w1 ⟨rfl, q1⟩; replace HB := Lib.hid (below_step HB.out q1); clear q1)
    | (go_at_call 74; refine (one.calls d HDD.out _).mono ?_; rintro e w1 ⟨rfl, q1⟩; replace HB := Lib.hid (below_step HB.out q1); clear q1)
    | (go_at_call 74; refine (one.calls c HCC.out _).mono ?_; rintro e w1 ⟨rfl, q1⟩; replace HB := Lib.hid (below_step HB.out q1); clear q1)
    | (go_at_call 74; refine (one.calls b HBB.out _).mono ?_; rintro e w1 ⟨rfl, q1⟩; replace HB := Lib.hid (below_step HB.out q1); clear q1)
    | (go_at_call 81; refine (times.calls _ _ _).mono ?_; rintro e w1 ⟨rfl, q1⟩; replace HB := Lib.hid (below_step HB.out q1); clear q1)
    | (go_at_call 76; refine (cmp.calls _ _ _).mono ?_; rintro e w1 ⟨rfl, q1⟩; replace HB := Lib.hid (below_step HB.out q1); clear q1))
  go_ret
  exact ⟨rfl, HB.out⟩

set_option maxHeartbeats 8000000 in
set_option maxRecDepth 100000 in
theorem minus.calls (x y : Hb.B) (w : World) : Calls Try.prog 77 #[.agg (arrB x.getLsbD), .agg (arrB y.getLsbD)] w fun e w' => e = .returned (.agg (arrB (x - y).getLsbD)) ∧ Below w.heap.size w w' := by
  go_enter Try.func77, Try.ntmps77
  obtain ⟨X, hX⟩ : ∃ X, arrB x.getLsbD = X := ⟨_, rfl⟩
  obtain ⟨Y, hY⟩ : ∃ X, arrB y.getLsbD = X := ⟨_, rfl⟩
  rw [hX, hY]
  go_wp2
  obtain ⟨W, hW⟩ : ∃ W, (((w.alloc (.cells X 111)).alloc (.cells Y 111)).alloc (.cells Try.zeroCells111 111)).alloc (.cells Try.zeroCells111 111) = W := ⟨_, rfl⟩
  have HX : Hid (W.heap[w.heap.size]? = some (.cells (arrB x.getLsbD) 111 (0, 0))) := by rw [← hW, hX]; exact blk_alloc (blk_alloc (blk_alloc (heap_alloc_new w _) _) _) _
  have HY : Hid (W.heap[w.heap.size + 1]? = some (.cells (arrB y.getLsbD) 111 (0, 0))) := by rw [← hW, hY]; have := blk_alloc (blk_alloc (heap_alloc_new (w.alloc (.cells X 111)) (.cells Y 111)) (.cells Try.zeroCells111 111)) (.cells Try.zeroCells111 111); simp only [World.size_alloc] at this; exact this
  have HR : Hid (W.heap[w.heap.size + 1 + 1]? = some (.cells (arrB (fun _ => false)) 111 (0, 0))) := by rw [← hW, ← zeroB]; have := blk_alloc (heap_alloc_new ((w.alloc (.cells X 111)).alloc (.cells Y 111)) (.cells Try.zeroCells111 111)) (.cells Try.zeroCells111 111); simp only [World.size_alloc] at this; exact this
  have HO : Hid (W.heap[w.heap.size + 1 + 1 + 1]? = some (.cells (arrB (upto 0 (x - y))) 111 (0, 0))) := by rw [← hW, upto_zero, ← zeroB]; have := heap_alloc_new (((w.alloc (.cells X 111)).alloc (.cells Y 111)).alloc (.cells Try.zeroCells111 111)) (.cells Try.zeroCells111 111); simp only [World.size_alloc] at this; exact this
  have HB : Hid (Below w.heap.size w W) := by rw [← hW]; exact below_alloc (below_alloc (below_alloc (below_alloc (Below.refl _ _) _) _) _) _
  rw [hW]
  clear hW hX hY
  obtain ⟨b1, h1⟩ : ∃ b, w.heap.size = b := ⟨_, rfl⟩
  obtain ⟨b2, h2⟩ : ∃ b, b1 + 1 = b := ⟨_, rfl⟩
  obtain ⟨b3, h3⟩ : ∃ b, b2 + 1 = b := ⟨_, rfl⟩
  obtain ⟨b4, h4⟩ : ∃ b, b3 + 1 = b := ⟨_, rfl⟩
  rw [h1] at HX HY HR HO HB ⊢
  rw [h2] at HY HR HO ⊢
  rw [h3] at HR HO ⊢
  rw [h4] at HO ⊢
  go_loopg [6, 7] 257 (fun k v6 v7 wr => ∃ (j : Nat), v7 = .int .i64 (j : Int) ∧ v6 = .int .i64 (Hb.bi (Hb.bor j x y)) ∧ j ≤ 256 ∧ 256 - j < k ∧ Hid (wr.heap[b1]? = some (.cells (arrB x.getLsbD) 111 (0, 0))) ∧ Hid (wr.heap[b2]? = some (.cells (arrB y.getLsbD) 111 (0, 0))) ∧ Hid (wr.heap[b3]? = some (.cells (arrB (fun _ => false)) 111 (0, 0))) ∧ Hid (wr.heap[b4]? = some (.cells (arrB (upto j (x - y))) 111 (0, 0))) ∧ Hid (Below b1 w wr))
  case atStart => exact ⟨0, rfl, by rw [Hb.bor_zero]; rfl, by omega, by omega, HX, HY, HR, HO, HB⟩
  case round =>
    clear HX HY HR HO HB
    obtain ⟨j, rfl, rfl, hj, hk, HX, HY, HR, HO, HB⟩ := hrel
    by_cases hlt : j < 256
    · have j0 : (0 : Int) ≤ (j : Int) := by omega
      have j1 : (j : Int) < 256 := by omega
      have cx := blk_cellB HX.out hlt
      have cy := blk_cellB HY.out hlt
      have co := blk_cellB HO.out hlt
      have fo := blk_frozen HO.out j
      have pb := Hb.minus_bit x y hlt
      have pc := Hb.minus_bor x y hlt
      generalize x.getLsbD j = p at cx pb pc
      generalize y.getLsbD j = q at cy pb pc
      generalize Hb.bor j x y = c at *
      have HPB := Lib.hid pb
      have HPC := Lib.hid pc
      clear pb pc
      cases p <;> cases q <;> cases c <;>
        (simp only [Hb.bi, if_true, if_false, Bool.false_eq_true]
         go_wp2
         go_roundg (256 - (j + 1) + 1)
         case measure => omega
         case rel => exact ⟨j + 1, by go_num, by rw [HPC.out]; rfl, by omega, by omega, Lib.hid (blk_off HX.out (by omega) _ _), Lib.hid (blk_off HY.out (by omega) _ _), Lib.hid (blk_off HR.out (by omega) _ _), Lib.hid (blk_putB HO.out hlt (upto_succ (by rw [HPB.out]; rfl))), Lib.hid (HB.out.setCell (p := ⟨b4, j, none⟩) (by show b1 ≤ b4; omega) _)⟩)
    · obtain rfl : j = 256 := by omega
      have ho := HO.out
      have hr := HR.out
      go_wp2
      refine wp_load_row 111 (.tmp 5) rfl b4 (by rfl) 111 _ (0, 0) _ ho Try.underlying111 rfl (by rfl) ?_
      have hst := storeB (f := upto 256 (x - y)) hr
      go_wp2
      refine bodyPost_ret (results_cell_row rfl _ _ b3 111 _ (0, 0) _ (by rfl) (setRow_heap _ _ _ _ _ _ hr) Try.underlying111 rfl (by rfl)) rfl ⟨by rw [upto_all], ?_⟩
      rw [h1]
      exact below_row HB.out (by omega) _
theorem or_is (n j : Nat) (hn : n < 18446744073709551616) (hj : j < 64) : bits BinOp.or IntKind.u64 (n : Int) (IntKind.u64.wrap (2 ^ j)) = ((n ||| 2 ^ j : Nat) : Int) := by
  have h1 : 2 ^ j < 18446744073709551616 := Nat.lt_of_lt_of_le (Nat.pow_lt_pow_right (by omega) hj) (Nat.le_refl _)
  have e : IntKind.u64.wrap (2 ^ j) = ((2 ^ j : Nat) : Int) := by
    have t : ((2 : Int) ^ j) = ((2 ^ j : Nat) : Int) := by rw [Int.natCast_pow]; rfl
    rw [IntKind.wrap_u64, t]
    obtain ⟨m, hm⟩ : ∃ m, 2 ^ j = m := ⟨_, rfl⟩
    rw [hm] at h1 ⊢
    omega
  rw [e]
  exact u64_or_nat n (2 ^ j) hn h1
set_option maxHeartbeats 8000000 in
set_option maxRecDepth 100000 in
theorem back.calls (x : Hb.B) (w : World) : Calls Try.prog 78 #[.agg (arrB x.getLsbD)] w fun e w' => e = .returned (.tuple #[.agg #[.int .u64 ((Hb.back x).1 : Nat), .int .u64 ((Hb.back x).2.1 : Nat)], .bool (Hb.back x).2.2]) ∧ Below w.heap.size w w' := by
  go_enter Try.func78, Try.ntmps78
  obtain ⟨X, hX⟩ : ∃ X, arrB x.getLsbD = X := ⟨_, rfl⟩
  rw [hX]
  go_wp2
  obtain ⟨W, hW⟩ : ∃ W, ((w.alloc (.cells X 111)).alloc (.cells #[.int .u64 0, .int .u64 0] 44)).alloc (.cells #[.int .u64 0, .int .u64 0] 44) = W := ⟨_, rfl⟩
  have HX : Hid (W.heap[w.heap.size]? = some (.cells (arrB x.getLsbD) 111 (0, 0))) := by rw [← hW, hX]; exact blk_alloc (blk_alloc (heap_alloc_new w _) _) _
  have HR : Hid (W.heap[w.heap.size + 1]? = some (.cells #[.int .u64 0, .int .u64 0] 44 (0, 0))) := by rw [← hW]; have := blk_alloc (heap_alloc_new (w.alloc (.cells X 111)) (.cells #[.int .u64 0, .int .u64 0] 44)) (.cells #[.int .u64 0, .int .u64 0] 44); simp only [World.size_alloc] at this; exact this
  have HO : Hid (W.heap[w.heap.size + 1 + 1]? = some (.cells #[.int .u64 (Hb.hiB x 0 : Nat), .int .u64 (Hb.loB x 0 : Nat)] 44 (0, 0))) := by rw [← hW, Hb.hiB_zero, Hb.loB_zero]; have := heap_alloc_new ((w.alloc (.cells X 111)).alloc (.cells #[.int .u64 0, .int .u64 0] 44)) (.cells #[.int .u64 0, .int .u64 0] 44); simp only [World.size_alloc] at this; exact this
  have HB : Hid (Below w.heap.size w W) := by rw [← hW]; exact below_alloc (below_alloc (below_alloc (Below.refl _ _) _) _) _
  rw [hW]
  clear hW hX
  obtain ⟨b1, hb1⟩ : ∃ b, w.heap.size = b := ⟨_, rfl⟩
  obtain ⟨b2, hb2⟩ : ∃ b, b1 + 1 = b := ⟨_, rfl⟩
  obtain ⟨b3, hb3⟩ : ∃ b, b2 + 1 = b := ⟨_, rfl⟩
  rw [hb1] at HX HR HO HB ⊢
  rw [hb2] at HR HO ⊢
  rw [hb3] at HO ⊢
  go_loopg [5] 257 (fun k v5 wr => ∃ (j : Nat), v5 = .int .i64 (j : Int) ∧ j ≤ 256 ∧ 256 - j < k ∧ Hid (∀ m, 128 ≤ m → m < j → x.getLsbD m = false) ∧ Hid (wr.heap[b1]? = some (.cells (arrB x.getLsbD) 111 (0, 0))) ∧ Hid (wr.heap[b2]? = some (.cells #[.int .u64 0, .int .u64 0] 44 (0, 0))) ∧ Hid (wr.heap[b3]? = some (.cells #[.int .u64 (Hb.hiB x j : Nat), .int .u64 (Hb.loB x j : Nat)] 44 (0, 0))) ∧ Hid (Below b1 w wr))
  case atStart => exact ⟨0, rfl, by omega, by omega, Lib.hid (fun m h h2 => by omega), HX, HR, HO, HB⟩
  case round =>
    clear HX HR HO HB
    obtain ⟨j, rfl, hj, hk, HZ, HX, HR, HO, HB⟩ := hrel
    have hlo := Hb.loB_lt x j
    have hhi := Hb.hiB_lt x j
    obtain ⟨L, hL⟩ : ∃ L, Hb.loB x j = L := ⟨_, rfl⟩
    obtain ⟨H, hH⟩ : ∃ H, Hb.hiB x j = H := ⟨_, rfl⟩
    rw [hL, hH] at HO
    rw [hL] at hlo
    rw [hH] at hhi
    have HLE := Lib.hid hL
    have HHE := Lib.hid hH
    have HLO := Lib.hid hlo
    have HHI := Lib.hid hhi
    clear hL hH hlo hhi
    by_cases hlt : j < 256
    · have j0 : (0 : Int) ≤ (j : Int) := by omega
      have j1 : (j : Int) < 256 := by omega
      have cx := blk_cellB HX.out hlt
      have c0 : wr.cell? ⟨b3, 0, none⟩ = some (.int .u64 (H : Int)) := (blk_cell HO.out 0).trans rfl
      have c1 : wr.cell? ⟨b3, 1, none⟩ = some (.int .u64 (L : Int)) := (blk_cell HO.out 1).trans rfl
      have f0 := blk_frozen HO.out 0
      have f1 := blk_frozen HO.out 1
      have g0 : wr.cell? ⟨b2, 0, none⟩ = some (.int .u64 0) := (blk_cell HR.out 0).trans rfl
      have g1 : wr.cell? ⟨b2, 1, none⟩ = some (.int .u64 0) := (blk_cell HR.out 1).trans rfl
      have e0 := blk_frozen HR.out 0
      have e1 := blk_frozen HR.out 1
      have hL0 : (0 : Int) ≤ (L : Int) := by omega
      have hH0 : (0 : Int) ≤ (H : Int) := by omega
      have HLT := Lib.hid hlt
      clear hlt
      cases hp : x.getLsbD j with
      | false =>
        rw [hp] at cx
        have HP := Lib.hid hp
        clear hp
        go_wp2
        go_roundg (256 - (j + 1) + 1)
        case measure => have := HLT.out; omega
        case rel => exact ⟨j + 1, by go_num, by have := HLT.out; omega, by have := HLT.out; omega, Lib.hid (fun m h1 h2 => (Nat.lt_or_ge m j).elim (fun q => HZ.out m h1 q) (fun q => by rw [show m = j by omega]; exact HP.out)), HX, HR, by rw [← Hb.hiB_clr HP.out, ← Hb.loB_clr HP.out, HLE.out, HHE.out]; exact HO, HB⟩
      | true =>
        rw [hp] at cx
        have HP := Lib.hid hp
        clear hp
        by_cases h128 : j < 128
        · have i128 : (j : Int) < 128 := by omega
          by_cases h64 : j < 64
          · have i64_ : (j : Int) < 64 := by omega
            go_wp2
            go_roundg (256 - (j + 1) + 1)
            case measure => have := HLT.out; omega
            case rel => exact ⟨j + 1, by go_num, by have := HLT.out; omega, by have := HLT.out; omega, Lib.hid (fun m h1 h2 => by omega), Lib.hid (blk_off HX.out (by omega) _ _), Lib.hid (blk_off HR.out (by omega) _ _), Lib.hid (blk_put HO.out 1 _ (by rw [or_is _ _ HLO.out h64, ← HLE.out, Hb.loB_set h64 HP.out, ← HHE.out, Hb.hiB_low x h64]; rfl)), Lib.hid (HB.out.setCell (p := ⟨b3, 1, none⟩) (by show b1 ≤ b3; omega) _)⟩
          · have i64_ : (64 : Int) ≤ (j : Int) := by omega
            obtain ⟨d, hd⟩ : ∃ d : Nat, (j : Int) - 64 = (d : Int) := ⟨j - 64, by omega⟩
            have d0 : (0 : Int) ≤ (d : Int) := by omega
            have d1 : (d : Int) < 64 := by omega
            have HDD := Lib.hid (show d = j - 64 by omega)
            go_wp2
            go_roundg (256 - (j + 1) + 1)
            case measure => have := HLT.out; omega
            case rel => exact ⟨j + 1, by go_num, by have := HLT.out; omega, by have := HLT.out; omega, Lib.hid (fun m h1 h2 => by omega), Lib.hid (blk_off HX.out (by omega) _ _), Lib.hid (blk_off HR.out (by omega) _ _), Lib.hid (blk_put HO.out 0 _ (by rw [or_is _ _ HHI.out (by omega), ← HHE.out, HDD.out, Hb.hiB_set (by omega) h128 HP.out, ← HLE.out, Hb.loB_high x (by omega)]; rfl)), Lib.hid (HB.out.setCell (p := ⟨b3, 0, none⟩) (by show b1 ≤ b3; omega) _)⟩
        · have i128 : (128 : Int) ≤ (j : Int) := by omega
          have HBG := Lib.hid (Hb.big_of (show 128 ≤ j by omega) HP.out)
          go_wp2
          have HRN := Lib.hid (blk_put (blk_put HR.out 0 (.int .u64 0) rfl) 1 (.int .u64 0) rfl)
          have n0 := (blk_cell HRN.out 0).trans rfl
          have n1 := (blk_cell HRN.out 1).trans rfl
          have e2 : Hb.back x = (0, 0, false) := by unfold Hb.back; rw [if_neg HBG.out]
          rw [e2]
          refine bodyPost_ret (results_ct rfl _ _ b2 44 #[.int .u64 0, .int .u64 0] (0, 0) _ (by rfl) HRN.out Try.underlying44 rfl (by rfl)) rfl ?_
          exact ⟨rfl, by rw [hb1]; exact (HB.out.setCell (p := ⟨b2, 0, none⟩) (by show b1 ≤ b2; omega) _).setCell (p := ⟨b2, 1, none⟩) (by show b1 ≤ b2; omega) _⟩
    · obtain rfl : j = 256 := by omega
      have HS := Lib.hid (Hb.small_of HZ.out)
      have c0 : wr.cell? ⟨b3, 0, none⟩ = some (.int .u64 (H : Int)) := (blk_cell HO.out 0).trans rfl
      have c1 : wr.cell? ⟨b3, 1, none⟩ = some (.int .u64 (L : Int)) := (blk_cell HO.out 1).trans rfl
      have g0 : wr.cell? ⟨b2, 0, none⟩ = some (.int .u64 0) := (blk_cell HR.out 0).trans rfl
      have g1 : wr.cell? ⟨b2, 1, none⟩ = some (.int .u64 0) := (blk_cell HR.out 1).trans rfl
      have e0 := blk_frozen HR.out 0
      have e1 := blk_frozen HR.out 1
      go_wp2
      have HRN := Lib.hid (blk_put (blk_put HR.out 0 (.int .u64 (H : Int)) rfl) 1 (.int .u64 (L : Int)) rfl)
      have n0 := (blk_cell HRN.out 0).trans rfl
      have n1 := (blk_cell HRN.out 1).trans rfl
      have e2 : Hb.back x = (H, L, true) := by unfold Hb.back; rw [if_pos HS.out, ← Hb.loB_all, ← Hb.hiB_all HS.out, HLE.out, HHE.out]
      rw [e2]
      refine bodyPost_ret (results_ct rfl _ _ b2 44 #[.int .u64 (H : Int), .int .u64 (L : Int)] (0, 0) _ (by rfl) HRN.out Try.underlying44 rfl (by rfl)) rfl ?_
      exact ⟨rfl, by rw [hb1]; exact (HB.out.setCell (p := ⟨b2, 0, none⟩) (by show b1 ≤ b2; omega) _).setCell (p := ⟨b2, 1, none⟩) (by show b1 ≤ b2; omega) _⟩
def addB.T1 : Bool × List (List Nat × List Nat) := (true, [([], []), ([0], [0]), ([], []), ([2, 1], [2]), ([1, 3, 3], [1, 3]), ([4, 4], [4]), ([5], [5]), ([5], [5]), ([6, 5, 0, 1, 2, 3, 4, 5, 6, 7], [6]), ([7, 8, 0, 1, 2, 3, 4, 5, 6, 7, 8], [7])])
def addB.B1 : List Nat := [0, 1, 0, 7, 15, 31, 63, 63, 255, 511]
theorem addB.tab1 : rtab .any (opsOf Try.f55 1) = addB.T1 := by kernel_rfl
theorem addB.bits1 : waitsOk addB.T1.2 addB.B1 = true := by kernel_rfl
def cmpW.T1 : Bool × List (List Nat × List Nat) := (true, [([], []), ([0], [0]), ([], []), ([2, 1], [2]), ([1, 3, 3], [1, 3]), ([4, 4, 0, 1, 2, 3, 4], [4])])
def cmpW.B1 : List Nat := [0, 1, 0, 7, 15, 31]
theorem cmpW.tab1 : rtab .any (opsOf Try.f57 1) = cmpW.T1 := by kernel_rfl
theorem cmpW.bits1 : waitsOk cmpW.T1.2 cmpW.B1 = true := by kernel_rfl
def subW.T3 : Bool × List (List Nat × List Nat) := (true, [([], []), ([0], [0]), ([], []), ([2, 1], [2]), ([1, 3, 3], [1, 3]), ([4, 4], [4]), ([5], [5]), ([6], [6]), ([6], [6]), ([], []), ([9, 7, 5, 0, 1, 2, 3, 4, 5, 6, 7, 9], [7, 9]), ([8, 10, 0, 1, 2, 3, 4, 5, 6, 7, 8, 9, 10], [8])])
def subW.B3 : List Nat := [0, 1, 0, 7, 15, 31, 63, 127, 127, 0, 767, 2047]
theorem subW.tab3 : rtab .any (opsOf Try.f56 3) = subW.T3 := by kernel_rfl
theorem subW.bits3 : waitsOk subW.T3.2 subW.B3 = true := by kernel_rfl
set_option maxHeartbeats 8000000 in
set_option maxRecDepth 100000 in
theorem add.calls (ah al bh bl : Nat) (hah : ah < 18446744073709551616) (hal : al < 18446744073709551616) (hbh : bh < 18446744073709551616) (hbl : bl < 18446744073709551616) (w : World) : Calls Try.prog 55 #[.agg #[.int .u64 (ah : Int), .int .u64 (al : Int)], .agg #[.int .u64 (bh : Int), .int .u64 (bl : Int)]] w fun e w' => e = .returned (.tuple #[.agg #[.int .u64 ((Hb.back ((Hb.num ah al) + (Hb.num bh bl))).1 : Nat), .int .u64 ((Hb.back ((Hb.num ah al) + (Hb.num bh bl))).2.1 : Nat)], .bool (Hb.back ((Hb.num ah al) + (Hb.num bh bl))).2.2]) ∧ Below w.heap.size w w' := by
  have HAH := Lib.hid hah
  have HAL := Lib.hid hal
  have HBH := Lib.hid hbh
  have HBL := Lib.hid hbl
  clear hah hal hbh hbl
  go_enter Try.func55, Try.ntmps55
  go_wp2
  obtain ⟨W, hW⟩ : ∃ W, ((w.alloc (.cells #[.int .u64 (ah : Int), .int .u64 (al : Int)] 44)).alloc (.cells #[.int .u64 (bh : Int), .int .u64 (bl : Int)] 44)).alloc (.cells #[.int .u64 0, .int .u64 0] 44) = W := ⟨_, rfl⟩
  have HA : Hid (W.heap[w.heap.size]? = some (.cells #[.int .u64 (ah : Int), .int .u64 (al : Int)] 44 (0, 0))) := by rw [← hW]; have := blk_alloc (blk_alloc (heap_alloc_new w (.cells #[.int .u64 (ah : Int), .int .u64 (al : Int)] 44)) (.cells #[.int .u64 (bh : Int), .int .u64 (bl : Int)] 44)) (.cells #[.int .u64 0, .int .u64 0] 44); (try simp only [World.size_alloc] at this); exact this
  have HBB : Hid (W.heap[w.heap.size + 1]? = some (.cells #[.int .u64 (bh : Int), .int .u64 (bl : Int)] 44 (0, 0))) := by rw [← hW]; have := blk_alloc (heap_alloc_new (w.alloc (.cells #[.int .u64 (ah : Int), .int .u64 (al : Int)] 44)) (.cells #[.int .u64 (bh : Int), .int .u64 (bl : Int)] 44)) (.cells #[.int .u64 0, .int .u64 0] 44); (try simp only [World.size_alloc] at this); exact this
  have HR : Hid (W.heap[w.heap.size + 1 + 1]? = some (.cells #[.int .u64 0, .int .u64 0] 44 (0, 0))) := by rw [← hW]; have := heap_alloc_new ((w.alloc (.cells #[.int .u64 (ah : Int), .int .u64 (al : Int)] 44)).alloc (.cells #[.int .u64 (bh : Int), .int .u64 (bl : Int)] 44)) (.cells #[.int .u64 0, .int .u64 0] 44); (try simp only [World.size_alloc] at this); exact this
  have HB : Hid (Below w.heap.size w W) := by rw [← hW]; exact below_alloc (below_alloc (below_alloc (Below.refl _ _) _) _) _
  rw [hW]
  clear hW
  obtain ⟨b1, h1⟩ : ∃ b, w.heap.size = b := ⟨_, rfl⟩
  obtain ⟨b2, h2⟩ : ∃ b, b1 + 1 = b := ⟨_, rfl⟩
  obtain ⟨b3, h3⟩ : ∃ b, b2 + 1 = b := ⟨_, rfl⟩
  have HW0 := Lib.hid h1
  rw [h1] at HA HBB HR ⊢
  rw [h2] at HBB HR ⊢
  rw [h3] at HR ⊢
  replace HA := Lib.hid (blk_drew HA.out)
  replace HBB := Lib.hid (blk_drew HBB.out)
  replace HR := Lib.hid (blk_drew HR.out)
  replace HB := Lib.hid (below_drew1 HB.out)
  refine start_ (n := 10) (S := fun w' => w'.cell? ⟨b1, 0, none⟩ = some (.int .u64 (ah : Int)) ∧ w'.cell? ⟨b1, 1, none⟩ = some (.int .u64 (al : Int)) ∧ w'.cell? ⟨b2, 0, none⟩ = some (.int .u64 (bh : Int)) ∧ w'.cell? ⟨b2, 1, none⟩ = some (.int .u64 (bl : Int))) (ds := []) #[false, false, false, false, false, false, false, false, false, false] (by kernel_rfl) rfl rfl ⟨(blk_cell HA.out 0).trans rfl, (blk_cell HA.out 1).trans rfl, (blk_cell HBB.out 0).trans rfl, (blk_cell HBB.out 1).trans rfl⟩ (fun hHeld => ?_); refine with_tabW addB.tab1 addB.bits1 (fun HT_ HW_ => ?_)
  generalize W.drew = w5 at HA HBB HR HB hHeld ⊢
  refine take_ (i := 0) (N := some 6) (v := ?_) (a' := ?_) #[true, false, false, false, false, false, false, false, false, false] rfl rfl (take_ofW HT_.out HW_.out (by kernel_rfl)) (fun _ _ _ h => h) (Or.inl ⟨by rfl, ?_⟩) hHeld ?_ ?_
  rotate_left
  · rintro w' ⟨s0, s1, s2, s3⟩
    go_simp
    with_reducible rfl
  rotate_left
  · simp only [Act.put, List.setIfInBounds_toArray, List.set_cons_zero, List.set_cons_succ, i64_w, i32_w]
    rfl
  refine take_ (i := 2) (N := some 8) (v := ?_) (a' := ?_) #[true, false, true, false, false, false, false, false, false, false] rfl rfl (take_ofW HT_.out HW_.out (by kernel_rfl)) (fun _ _ _ h => h) (Or.inl ⟨by rfl, ?_⟩) hHeld ?_ ?_
  rotate_left
  · rintro w' ⟨s0, s1, s2, s3⟩
    go_simp
    with_reducible rfl
  rotate_left
  · simp only [Act.put, List.setIfInBounds_toArray, List.set_cons_zero, List.set_cons_succ, i64_w, i32_w]
    rfl
  refine one_ (i := 1) (N := some 7) #[true, true, true, false, false, false, false, false, false, false] rfl rfl (one_of HT_.out (by kernel_rfl)) (by decide) (fun K hK => ?_)
  refine goes_ Try.func73 (by kernel_rfl) rfl #[.agg #[.int .u64 (ah : Int), .int .u64 (al : Int)]] (by rfl) rfl rfl (by (try simp only [List.map_toArray, List.map_cons, List.map_nil]); first | done | rfl) ?_
  refine (of.calls ah al HAH.out HAL.out w5).mono ?_
  rintro e w6 ⟨rfl, q1⟩
  refine ⟨_, rfl, ?_⟩
  replace HA := Lib.hid (blk_below HA.out q1)
  replace HBB := Lib.hid (blk_below HBB.out q1)
  replace HR := Lib.hid (blk_below HR.out q1)
  replace HB := Lib.hid (below_step HB.out q1)
  clear q1
  refine hK.out _ _ ⟨(blk_cell HA.out 0).trans rfl, (blk_cell HA.out 1).trans rfl, (blk_cell HBB.out 0).trans rfl, (blk_cell HBB.out 1).trans rfl⟩ (fun hHeld => ?_)
  clear hK K
  refine norm_ (a' := ?_) ?_ ?_
  rotate_left
  · show Act.put _ (some 7) _ = _
    simp only [Act.put, List.setIfInBounds_toArray, List.set_cons_zero, List.set_cons_succ, i64_w, i32_w]
    rfl
  refine one_ (i := 3) (N := some 9) #[true, true, true, true, false, false, false, false, false, false] rfl rfl (one_of HT_.out (by kernel_rfl)) (by decide) (fun K hK => ?_)
  refine goes_ Try.func73 (by kernel_rfl) rfl #[.agg #[.int .u64 (bh : Int), .int .u64 (bl : Int)]] (by rfl) rfl rfl (by (try simp only [List.map_toArray, List.map_cons, List.map_nil]); first | done | rfl) ?_
  refine (of.calls bh bl HBH.out HBL.out w6).mono ?_
  rintro e w7 ⟨rfl, q1⟩
  refine ⟨_, rfl, ?_⟩
  replace HA := Lib.hid (blk_below HA.out q1)
  replace HBB := Lib.hid (blk_below HBB.out q1)
  replace HR := Lib.hid (blk_below HR.out q1)
  replace HB := Lib.hid (below_step HB.out q1)
  clear q1
  refine hK.out _ _ ⟨(blk_cell HA.out 0).trans rfl, (blk_cell HA.out 1).trans rfl, (blk_cell HBB.out 0).trans rfl, (blk_cell HBB.out 1).trans rfl⟩ (fun hHeld => ?_)
  clear hK K
  refine norm_ (a' := ?_) ?_ ?_
  rotate_left
  · show Act.put _ (some 9) _ = _
    simp only [Act.put, List.setIfInBounds_toArray, List.set_cons_zero, List.set_cons_succ, i64_w, i32_w]
    rfl
  refine one_ (i := 4) (N := some 10) #[true, true, true, true, true, false, false, false, false, false] rfl rfl (one_of HT_.out (by kernel_rfl)) (by decide) (fun K hK => ?_)
  refine goes_ Try.func97 (by kernel_rfl) rfl #[.agg (arrB (Hb.num ah al).getLsbD), .agg (arrB (Hb.num bh bl).getLsbD)] (by rfl) rfl rfl (by (try simp only [List.map_toArray, List.map_cons, List.map_nil]); first | done | rfl) ?_
  refine (plus.calls (Hb.num ah al) (Hb.num bh bl) w7).mono ?_
  rintro e w8 ⟨rfl, q1⟩
  refine ⟨_, rfl, ?_⟩
  replace HA := Lib.hid (blk_below HA.out q1)
  replace HBB := Lib.hid (blk_below HBB.out q1)
  replace HR := Lib.hid (blk_below HR.out q1)
  replace HB := Lib.hid (below_step HB.out q1)
  clear q1
  refine hK.out _ _ ⟨(blk_cell HA.out 0).trans rfl, (blk_cell HA.out 1).trans rfl, (blk_cell HBB.out 0).trans rfl, (blk_cell HBB.out 1).trans rfl⟩ (fun hHeld => ?_)
  clear hK K
  refine norm_ (a' := ?_) ?_ ?_
  rotate_left
  · show Act.put _ (some 10) _ = _
    simp only [Act.put, List.setIfInBounds_toArray, List.set_cons_zero, List.set_cons_succ, i64_w, i32_w]
    rfl
  refine one_ (i := 5) (N := some 11) #[true, true, true, true, true, true, false, false, false, false] rfl rfl (one_of HT_.out (by kernel_rfl)) (by decide) (fun K hK => ?_)
  refine goes_ Try.func78 (by kernel_rfl) rfl #[.agg (arrB ((Hb.num ah al) + (Hb.num bh bl)).getLsbD)] (by rfl) rfl rfl (by (try simp only [List.map_toArray, List.map_cons, List.map_nil]); first | done | rfl) ?_
  refine (back.calls ((Hb.num ah al) + (Hb.num bh bl)) w8).mono ?_
  rintro e w9 ⟨rfl, q1⟩
  refine ⟨_, rfl, ?_⟩
  replace HA := Lib.hid (blk_below HA.out q1)
  replace HBB := Lib.hid (blk_below HBB.out q1)
  replace HR := Lib.hid (blk_below HR.out q1)
  replace HB := Lib.hid (below_step HB.out q1)
  clear q1
  refine hK.out _ _ ⟨(blk_cell HA.out 0).trans rfl, (blk_cell HA.out 1).trans rfl, (blk_cell HBB.out 0).trans rfl, (blk_cell HBB.out 1).trans rfl⟩ (fun hHeld => ?_)
  clear hK K
  refine norm_ (a' := ?_) ?_ ?_
  rotate_left
  · show Act.put _ (some 11) _ = _
    simp only [Act.put, List.setIfInBounds_toArray, List.set_cons_zero, List.set_cons_succ, i64_w, i32_w]
    rfl
  refine pure_ (i := 6) (N := some 12) (v := ?_) (a' := ?_) #[true, true, true, true, true, true, true, false, false, false] rfl rfl (any_of HT_.out (by kernel_rfl)) (fun _ _ _ h => h) (Or.inl ⟨by rfl, ?_⟩) ?_ ?_
  rotate_left
  · intro w'
    go_simp
    with_reducible rfl
  rotate_left
  · simp only [Act.put, List.setIfInBounds_toArray, List.set_cons_zero, List.set_cons_succ, i64_w, i32_w]
    rfl
  refine pure_ (i := 7) (N := some 13) (v := ?_) (a' := ?_) #[true, true, true, true, true, true, true, true, false, false] rfl rfl (any_of HT_.out (by kernel_rfl)) (fun _ _ _ h => h) (Or.inl ⟨by rfl, ?_⟩) ?_ ?_
  rotate_left
  · intro w'
    go_simp
    with_reducible rfl
  rotate_left
  · simp only [Act.put, List.setIfInBounds_toArray, List.set_cons_zero, List.set_cons_succ, i64_w, i32_w]
    rfl
  refine one_ (i := 8) (N := none) #[true, true, true, true, true, true, true, true, true, false] rfl rfl (one_of HT_.out (by kernel_rfl)) (by decide) (fun K hK => ?_)
  have d0 := (blk_cell HR.out 0).trans rfl
  have d1 := (blk_cell HR.out 1).trans rfl
  have f0 := blk_frozen HR.out 0
  have f1 := blk_frozen HR.out 1
  refine skip_ (w1 := ?_) (by rfl) rfl ?_ ?_
  rotate_left
  · go_simp
    rfl
  refine hK.out _ _ ⟨(blk_cell (blk_off (blk_off HA.out (by omega) _ _) (by omega) _ _) 0).trans rfl, (blk_cell (blk_off (blk_off HA.out (by omega) _ _) (by omega) _ _) 1).trans rfl, (blk_cell (blk_off (blk_off HBB.out (by omega) _ _) (by omega) _ _) 0).trans rfl, (blk_cell (blk_off (blk_off HBB.out (by omega) _ _) (by omega) _ _) 1).trans rfl⟩ (fun hHeld => ?_)
  clear hK K
  refine pure_ (i := 9) (N := some 5) (v := ?_) (a' := ?_) #[true, true, true, true, true, true, true, true, true, true] rfl rfl (any_of HT_.out (by kernel_rfl)) (fun _ _ _ h => h) (Or.inl ⟨by rfl, ?_⟩) ?_ ?_
  rotate_left
  · intro w'
    go_simp
    with_reducible rfl
  rotate_left
  · simp only [Act.put, List.setIfInBounds_toArray, List.set_cons_zero, List.set_cons_succ, i64_w, i32_w]
    rfl
  refine done_ (done_of HT_.out (by kernel_rfl)) ?_
  clear hHeld
  have HRN := Lib.hid (blk_put (blk_put HR.out 0 (.int .u64 ((Hb.back ((Hb.num ah al) + (Hb.num bh bl))).1 : Nat)) rfl) 1 (.int .u64 ((Hb.back ((Hb.num ah al) + (Hb.num bh bl))).2.1 : Nat)) rfl)
  have n0 := (blk_cell HRN.out 0).trans rfl
  have n1 := (blk_cell HRN.out 1).trans rfl
  go_wp2
  refine bodyPost_ret (results_ct rfl _ _ b3 44 #[.int .u64 ((Hb.back ((Hb.num ah al) + (Hb.num bh bl))).1 : Nat), .int .u64 ((Hb.back ((Hb.num ah al) + (Hb.num bh bl))).2.1 : Nat)] (0, 0) _ (by rfl) HRN.out Try.underlying44 rfl (by rfl)) rfl ?_
  exact ⟨rfl, (HB.out.setCell (p := ⟨b3, 0, none⟩) (by show w.heap.size ≤ b3; omega) _).setCell (p := ⟨b3, 1, none⟩) (by show w.heap.size ≤ b3; omega) _⟩
set_option maxHeartbeats 8000000 in
set_option maxRecDepth 100000 in
theorem cmpW.calls (ah al bh bl : Nat) (hah : ah < 18446744073709551616) (hal : al < 18446744073709551616) (hbh : bh < 18446744073709551616) (hbl : bl < 18446744073709551616) (w : World) : Calls Try.prog 57 #[.agg #[.int .u64 (ah : Int), .int .u64 (al : Int)], .agg #[.int .u64 (bh : Int), .int .u64 (bl : Int)]] w fun e w' => e = .returned (.int .i64 (cmpB (Hb.num ah al) (Hb.num bh bl))) ∧ Below w.heap.size w w' := by
  have HAH := Lib.hid hah
  have HAL := Lib.hid hal
  have HBH := Lib.hid hbh
  have HBL := Lib.hid hbl
  clear hah hal hbh hbl
  go_enter Try.func57, Try.ntmps57
  go_wp2
  obtain ⟨W, hW⟩ : ∃ W, (w.alloc (.cells #[.int .u64 (ah : Int), .int .u64 (al : Int)] 44)).alloc (.cells #[.int .u64 (bh : Int), .int .u64 (bl : Int)] 44) = W := ⟨_, rfl⟩
  have HA : Hid (W.heap[w.heap.size]? = some (.cells #[.int .u64 (ah : Int), .int .u64 (al : Int)] 44 (0, 0))) := by rw [← hW]; have := blk_alloc (heap_alloc_new w (.cells #[.int .u64 (ah : Int), .int .u64 (al : Int)] 44)) (.cells #[.int .u64 (bh : Int), .int .u64 (bl : Int)] 44); (try simp only [World.size_alloc] at this); exact this
  have HBB : Hid (W.heap[w.heap.size + 1]? = some (.cells #[.int .u64 (bh : Int), .int .u64 (bl : Int)] 44 (0, 0))) := by rw [← hW]; have := heap_alloc_new (w.alloc (.cells #[.int .u64 (ah : Int), .int .u64 (al : Int)] 44)) (.cells #[.int .u64 (bh : Int), .int .u64 (bl : Int)] 44); (try simp only [World.size_alloc] at this); exact this
  have HB : Hid (Below w.heap.size w W) := by rw [← hW]; exact below_alloc (below_alloc (Below.refl _ _) _) _
  rw [hW]
  clear hW
  obtain ⟨b1, h1⟩ : ∃ b, w.heap.size = b := ⟨_, rfl⟩
  obtain ⟨b2, h2⟩ : ∃ b, b1 + 1 = b := ⟨_, rfl⟩
  have HW0 := Lib.hid h1
  rw [h1] at HA HBB ⊢
  rw [h2] at HBB ⊢
  replace HA := Lib.hid (blk_drew HA.out)
  replace HBB := Lib.hid (blk_drew HBB.out)
  replace HB := Lib.hid (below_drew1 HB.out)
  refine start_ (n := 6) (S := fun w' => w'.cell? ⟨b1, 0, none⟩ = some (.int .u64 (ah : Int)) ∧ w'.cell? ⟨b1, 1, none⟩ = some (.int .u64 (al : Int)) ∧ w'.cell? ⟨b2, 0, none⟩ = some (.int .u64 (bh : Int)) ∧ w'.cell? ⟨b2, 1, none⟩ = some (.int .u64 (bl : Int))) (ds := []) #[false, false, false, false, false, false] (by kernel_rfl) rfl rfl ⟨(blk_cell HA.out 0).trans rfl, (blk_cell HA.out 1).trans rfl, (blk_cell HBB.out 0).trans rfl, (blk_cell HBB.out 1).trans rfl⟩ (fun hHeld => ?_); refine with_tabW cmpW.tab1 cmpW.bits1 (fun HT_ HW_ => ?_)
  generalize W.drew = w5 at HA HBB HB hHeld ⊢
  refine take_ (i := 0) (N := some 5) (v := ?_) (a' := ?_) #[true, false, false, false, false, false] rfl rfl (take_ofW HT_.out HW_.out (by kernel_rfl)) (fun _ _ _ h => h) (Or.inl ⟨by rfl, ?_⟩) hHeld ?_ ?_
  rotate_left
  · rintro w' ⟨s0, s1, s2, s3⟩
    go_simp
    with_reducible rfl
  rotate_left
  · simp only [Act.put, List.setIfInBounds_toArray, List.set_cons_zero, List.set_cons_succ, i64_w, i32_w]
    rfl
  refine take_ (i := 2) (N := some 7) (v := ?_) (a' := ?_) #[true, false, true, false, false, false] rfl rfl (take_ofW HT_.out HW_.out (by kernel_rfl)) (fun _ _ _ h => h) (Or.inl ⟨by rfl, ?_⟩) hHeld ?_ ?_
  rotate_left
  · rintro w' ⟨s0, s1, s2, s3⟩
    go_simp
    with_reducible rfl
  rotate_left
  · simp only [Act.put, List.setIfInBounds_toArray, List.set_cons_zero, List.set_cons_succ, i64_w, i32_w]
    rfl
  refine one_ (i := 1) (N := some 6) #[true, true, true, false, false, false] rfl rfl (one_of HT_.out (by kernel_rfl)) (by decide) (fun K hK => ?_)
  refine goes_ Try.func73 (by kernel_rfl) rfl #[.agg #[.int .u64 (ah : Int), .int .u64 (al : Int)]] (by rfl) rfl rfl (by (try simp only [List.map_toArray, List.map_cons, List.map_nil]); first | done | rfl) ?_
  refine (of.calls ah al HAH.out HAL.out w5).mono ?_
  rintro e w6 ⟨rfl, q1⟩
  refine ⟨_, rfl, ?_⟩
  replace HA := Lib.hid (blk_below HA.out q1)
  replace HBB := Lib.hid (blk_below HBB.out q1)
  replace HB := Lib.hid (below_step HB.out q1)
  clear q1
  refine hK.out _ _ ⟨(blk_cell HA.out 0).trans rfl, (blk_cell HA.out 1).trans rfl, (blk_cell HBB.out 0).trans rfl, (blk_cell HBB.out 1).trans rfl⟩ (fun hHeld => ?_)
  clear hK K
  refine norm_ (a' := ?_) ?_ ?_
  rotate_left
  · show Act.put _ (some 6) _ = _
    simp only [Act.put, List.setIfInBounds_toArray, List.set_cons_zero, List.set_cons_succ, i64_w, i32_w]
    rfl
  refine one_ (i := 3) (N := some 8) #[true, true, true, true, false, false] rfl rfl (one_of HT_.out (by kernel_rfl)) (by decide) (fun K hK => ?_)
  refine goes_ Try.func73 (by kernel_rfl) rfl #[.agg #[.int .u64 (bh : Int), .int .u64 (bl : Int)]] (by rfl) rfl rfl (by (try simp only [List.map_toArray, List.map_cons, List.map_nil]); first | done | rfl) ?_
  refine (of.calls bh bl HBH.out HBL.out w6).mono ?_
  rintro e w7 ⟨rfl, q1⟩
  refine ⟨_, rfl, ?_⟩
  replace HA := Lib.hid (blk_below HA.out q1)
  replace HBB := Lib.hid (blk_below HBB.out q1)
  replace HB := Lib.hid (below_step HB.out q1)
  clear q1
  refine hK.out _ _ ⟨(blk_cell HA.out 0).trans rfl, (blk_cell HA.out 1).trans rfl, (blk_cell HBB.out 0).trans rfl, (blk_cell HBB.out 1).trans rfl⟩ (fun hHeld => ?_)
  clear hK K
  refine norm_ (a' := ?_) ?_ ?_
  rotate_left
  · show Act.put _ (some 8) _ = _
    simp only [Act.put, List.setIfInBounds_toArray, List.set_cons_zero, List.set_cons_succ, i64_w, i32_w]
    rfl
  refine one_ (i := 4) (N := some 9) #[true, true, true, true, true, false] rfl rfl (one_of HT_.out (by kernel_rfl)) (by decide) (fun K hK => ?_)
  refine goes_ Try.func76 (by kernel_rfl) rfl #[.agg (arrB (Hb.num ah al).getLsbD), .agg (arrB (Hb.num bh bl).getLsbD)] (by rfl) rfl rfl (by (try simp only [List.map_toArray, List.map_cons, List.map_nil]); first | done | rfl) ?_
  refine (cmp.calls (Hb.num ah al) (Hb.num bh bl) w7).mono ?_
  rintro e w8 ⟨rfl, q1⟩
  refine ⟨_, rfl, ?_⟩
  replace HA := Lib.hid (blk_below HA.out q1)
  replace HBB := Lib.hid (blk_below HBB.out q1)
  replace HB := Lib.hid (below_step HB.out q1)
  clear q1
  refine hK.out _ _ ⟨(blk_cell HA.out 0).trans rfl, (blk_cell HA.out 1).trans rfl, (blk_cell HBB.out 0).trans rfl, (blk_cell HBB.out 1).trans rfl⟩ (fun hHeld => ?_)
  clear hK K
  refine norm_ (a' := ?_) ?_ ?_
  rotate_left
  · show Act.put _ (some 9) _ = _
    simp only [Act.put, List.setIfInBounds_toArray, List.set_cons_zero, List.set_cons_succ, i64_w, i32_w]
    rfl
  refine pure_ (i := 5) (N := some 4) (v := ?_) (a' := ?_) #[true, true, true, true, true, true] rfl rfl (any_of HT_.out (by kernel_rfl)) (fun _ _ _ h => h) (Or.inl ⟨by rfl, ?_⟩) ?_ ?_
  rotate_left
  · intro w'
    go_simp
    with_reducible rfl
  rotate_left
  · simp only [Act.put, List.setIfInBounds_toArray, List.set_cons_zero, List.set_cons_succ, i64_w, i32_w]
    rfl
  refine done_ (done_of HT_.out (by kernel_rfl)) ?_
  clear hHeld
  go_wp2
  go_ret
  exact ⟨rfl, HB.out⟩
set_option maxHeartbeats 8000000 in
set_option maxRecDepth 100000 in
theorem subW.calls (ah al bh bl : Nat) (hah : ah < 18446744073709551616) (hal : al < 18446744073709551616) (hbh : bh < 18446744073709551616) (hbl : bl < 18446744073709551616) (w : World) : Calls Try.prog 56 #[.agg #[.int .u64 (ah : Int), .int .u64 (al : Int)], .agg #[.int .u64 (bh : Int), .int .u64 (bl : Int)]] w fun e w' => e = .returned (.tuple (if cmpB (Hb.num ah al) (Hb.num bh bl) < 0 then #[.agg #[.int .u64 0, .int .u64 0], .bool false] else #[.agg #[.int .u64 ((Hb.back ((Hb.num ah al) - (Hb.num bh bl))).1 : Nat), .int .u64 ((Hb.back ((Hb.num ah al) - (Hb.num bh bl))).2.1 : Nat)], .bool true])) ∧ Below w.heap.size w w' := by
  have HAH := Lib.hid hah
  have HAL := Lib.hid hal
  have HBH := Lib.hid hbh
  have HBL := Lib.hid hbl
  clear hah hal hbh hbl
  by_cases hc : cmpB (Hb.num ah al) (Hb.num bh bl) < 0
  · rw [if_pos hc]
    go_enter Try.func56, Try.ntmps56
    go_wp2_with fail
    obtain ⟨W, hW⟩ : ∃ W, ((w.alloc (.cells #[.int .u64 (ah : Int), .int .u64 (al : Int)] 44)).alloc (.cells #[.int .u64 (bh : Int), .int .u64 (bl : Int)] 44)).alloc (.cells #[.int .u64 0, .int .u64 0] 44) = W := ⟨_, rfl⟩
    have HA : Hid (W.heap[w.heap.size]? = some (.cells #[.int .u64 (ah : Int), .int .u64 (al : Int)] 44 (0, 0))) := by rw [← hW]; have := blk_alloc (blk_alloc (heap_alloc_new w (.cells #[.int .u64 (ah : Int), .int .u64 (al : Int)] 44)) (.cells #[.int .u64 (bh : Int), .int .u64 (bl : Int)] 44)) (.cells #[.int .u64 0, .int .u64 0] 44); (try simp only [World.size_alloc] at this); exact this
    have HBB : Hid (W.heap[w.heap.size + 1]? = some (.cells #[.int .u64 (bh : Int), .int .u64 (bl : Int)] 44 (0, 0))) := by rw [← hW]; have := blk_alloc (heap_alloc_new (w.alloc (.cells #[.int .u64 (ah : Int), .int .u64 (al : Int)] 44)) (.cells #[.int .u64 (bh : Int), .int .u64 (bl : Int)] 44)) (.cells #[.int .u64 0, .int .u64 0] 44); (try simp only [World.size_alloc] at this); exact this
    have HR : Hid (W.heap[w.heap.size + 1 + 1]? = some (.cells #[.int .u64 0, .int .u64 0] 44 (0, 0))) := by rw [← hW]; have := heap_alloc_new ((w.alloc (.cells #[.int .u64 (ah : Int), .int .u64 (al : Int)] 44)).alloc (.cells #[.int .u64 (bh : Int), .int .u64 (bl : Int)] 44)) (.cells #[.int .u64 0, .int .u64 0] 44); (try simp only [World.size_alloc] at this); exact this
    have HB : Hid (Below w.heap.size w W) := by rw [← hW]; exact below_alloc (below_alloc (below_alloc (Below.refl _ _) _) _) _
    rw [hW]
    clear hW
    obtain ⟨b1, h1⟩ : ∃ b, w.heap.size = b := ⟨_, rfl⟩
    obtain ⟨b2, h2⟩ : ∃ b, b1 + 1 = b := ⟨_, rfl⟩
    obtain ⟨b3, h3⟩ : ∃ b, b2 + 1 = b := ⟨_, rfl⟩
    have HW0 := Lib.hid h1
    rw [h1] at HA HBB HR ⊢
    rw [h2] at HBB HR ⊢
    rw [h3] at HR ⊢
    have ga0 := (blk_cell HA.out 0).trans rfl
    have ga1 := (blk_cell HA.out 1).trans rfl
    have gb0 := (blk_cell HBB.out 0).trans rfl
    have gb1 := (blk_cell HBB.out 1).trans rfl
    go_wp2_with (go_at_call 57; refine (cmpW.calls ah al bh bl HAH.out HAL.out HBH.out HBL.out _).mono ?_; rintro e wc ⟨rfl, q1⟩; replace HR := Lib.hid (blk_below HR.out q1); replace HB := Lib.hid (below_step HB.out q1); clear q1 ga0 ga1 gb0 gb1; have d0 := (blk_cell HR.out 0).trans rfl; have d1 := (blk_cell HR.out 1).trans rfl; have f0 := blk_frozen HR.out 0; have f1 := blk_frozen HR.out 1)
    have HRN := Lib.hid (blk_put (blk_put HR.out 0 (.int .u64 0) rfl) 1 (.int .u64 0) rfl)
    refine bodyPost_ret (results_ct rfl _ _ b3 44 #[.int .u64 0, .int .u64 0] (0, 0) _ (by rfl) HRN.out Try.underlying44 rfl (by rfl)) rfl ?_
    exact ⟨rfl, (HB.out.setCell (p := ⟨b3, 0, none⟩) (by show w.heap.size ≤ b3; omega) _).setCell (p := ⟨b3, 1, none⟩) (by show w.heap.size ≤ b3; omega) _⟩
  · rw [if_neg hc]
    have hC : 0 ≤ cmpB (Hb.num ah al) (Hb.num bh bl) := by omega
    go_enter Try.func56, Try.ntmps56
    go_wp2_with fail
    obtain ⟨W, hW⟩ : ∃ W, ((w.alloc (.cells #[.int .u64 (ah : Int), .int .u64 (al : Int)] 44)).alloc (.cells #[.int .u64 (bh : Int), .int .u64 (bl : Int)] 44)).alloc (.cells #[.int .u64 0, .int .u64 0] 44) = W := ⟨_, rfl⟩
    have HA : Hid (W.heap[w.heap.size]? = some (.cells #[.int .u64 (ah : Int), .int .u64 (al : Int)] 44 (0, 0))) := by rw [← hW]; have := blk_alloc (blk_alloc (heap_alloc_new w (.cells #[.int .u64 (ah : Int), .int .u64 (al : Int)] 44)) (.cells #[.int .u64 (bh : Int), .int .u64 (bl : Int)] 44)) (.cells #[.int .u64 0, .int .u64 0] 44); (try simp only [World.size_alloc] at this); exact this
    have HBB : Hid (W.heap[w.heap.size + 1]? = some (.cells #[.int .u64 (bh : Int), .int .u64 (bl : Int)] 44 (0, 0))) := by rw [← hW]; have := blk_alloc (heap_alloc_new (w.alloc (.cells #[.int .u64 (ah : Int), .int .u64 (al : Int)] 44)) (.cells #[.int .u64 (bh : Int), .int .u64 (bl : Int)] 44)) (.cells #[.int .u64 0, .int .u64 0] 44); (try simp only [World.size_alloc] at this); exact this
    have HR : Hid (W.heap[w.heap.size + 1 + 1]? = some (.cells #[.int .u64 0, .int .u64 0] 44 (0, 0))) := by rw [← hW]; have := heap_alloc_new ((w.alloc (.cells #[.int .u64 (ah : Int), .int .u64 (al : Int)] 44)).alloc (.cells #[.int .u64 (bh : Int), .int .u64 (bl : Int)] 44)) (.cells #[.int .u64 0, .int .u64 0] 44); (try simp only [World.size_alloc] at this); exact this
    have HB : Hid (Below w.heap.size w W) := by rw [← hW]; exact below_alloc (below_alloc (below_alloc (Below.refl _ _) _) _) _
    rw [hW]
    clear hW
    obtain ⟨b1, h1⟩ : ∃ b, w.heap.size = b := ⟨_, rfl⟩
    obtain ⟨b2, h2⟩ : ∃ b, b1 + 1 = b := ⟨_, rfl⟩
    obtain ⟨b3, h3⟩ : ∃ b, b2 + 1 = b := ⟨_, rfl⟩
    have HW0 := Lib.hid h1
    rw [h1] at HA HBB HR ⊢
    rw [h2] at HBB HR ⊢
    rw [h3] at HR ⊢
    have ga0 := (blk_cell HA.out 0).trans rfl
    have ga1 := (blk_cell HA.out 1).trans rfl
    have gb0 := (blk_cell HBB.out 0).trans rfl
    have gb1 := (blk_cell HBB.out 1).trans rfl
    go_wp2_with (go_at_call 57; refine (cmpW.calls ah al bh bl HAH.out HAL.out HBH.out HBL.out _).mono ?_; rintro e wc ⟨rfl, q1⟩; replace HA := Lib.hid (blk_below HA.out q1); replace HBB := Lib.hid (blk_below HBB.out q1); replace HR := Lib.hid (blk_below HR.out q1); replace HB := Lib.hid (below_step HB.out q1); clear q1 ga0 ga1 gb0 gb1)
    replace HA := Lib.hid (blk_drew HA.out)
    replace HBB := Lib.hid (blk_drew HBB.out)
    replace HR := Lib.hid (blk_drew HR.out)
    replace HB := Lib.hid (below_drew1 HB.out)
    refine start_ (n := 12) (S := fun w' => w'.cell? ⟨b1, 0, none⟩ = some (.int .u64 (ah : Int)) ∧ w'.cell? ⟨b1, 1, none⟩ = some (.int .u64 (al : Int)) ∧ w'.cell? ⟨b2, 0, none⟩ = some (.int .u64 (bh : Int)) ∧ w'.cell? ⟨b2, 1, none⟩ = some (.int .u64 (bl : Int))) (ds := []) #[false, false, false, false, false, false, false, false, false, false, false, false] (by kernel_rfl) rfl rfl ⟨(blk_cell HA.out 0).trans rfl, (blk_cell HA.out 1).trans rfl, (blk_cell HBB.out 0).trans rfl, (blk_cell HBB.out 1).trans rfl⟩ (fun hHeld => ?_); refine with_tabW subW.tab3 subW.bits3 (fun HT_ HW_ => ?_)
    generalize wc.drew = w5 at HA HBB HR HB hHeld ⊢
    refine take_ (i := 0) (N := some 14) (v := ?_) (a' := ?_) #[true, false, false, false, false, false, false, false, false, false, false, false] rfl rfl (take_ofW HT_.out HW_.out (by kernel_rfl)) (fun _ _ _ h => h) (Or.inl ⟨by rfl, ?_⟩) hHeld ?_ ?_
    rotate_left
    · rintro w' ⟨s0, s1, s2, s3⟩
      go_simp
      with_reducible rfl
    rotate_left
    · simp only [Act.put, List.setIfInBounds_toArray, List.set_cons_zero, List.set_cons_succ, i64_w, i32_w]
      rfl
    refine take_ (i := 2) (N := some 16) (v := ?_) (a' := ?_) #[true, false, true, false, false, false, false, false, false, false, false, false] rfl rfl (take_ofW HT_.out HW_.out (by kernel_rfl)) (fun _ _ _ h => h) (Or.inl ⟨by rfl, ?_⟩) hHeld ?_ ?_
    rotate_left
    · rintro w' ⟨s0, s1, s2, s3⟩
      go_simp
      with_reducible rfl
    rotate_left
    · simp only [Act.put, List.setIfInBounds_toArray, List.set_cons_zero, List.set_cons_succ, i64_w, i32_w]
      rfl
    refine two_ (i := 1) (j := 9) (Ni := some 15) (Nj := some 6) #[true, true, true, false, false, false, false, false, false, false, false, false] #[true, false, true, false, false, false, false, false, false, true, false, false] rfl rfl rfl rfl (two_of HT_.out (by kernel_rfl)) (by decide) (by decide) (fun K hK => ?_) (fun K hK => ?_)
    · skip
      refine goes_ Try.func73 (by kernel_rfl) rfl #[.agg #[.int .u64 (ah : Int), .int .u64 (al : Int)]] (by rfl) rfl rfl (by (try simp only [List.map_toArray, List.map_cons, List.map_nil]); first | done | rfl) ?_
      refine (of.calls ah al HAH.out HAL.out w5).mono ?_
      rintro e w6 ⟨rfl, q1⟩
      refine ⟨_, rfl, ?_⟩
      replace HA := Lib.hid (blk_below HA.out q1)
      replace HBB := Lib.hid (blk_below HBB.out q1)
      replace HR := Lib.hid (blk_below HR.out q1)
      replace HB := Lib.hid (below_step HB.out q1)
      clear q1
      refine hK.out _ _ ⟨(blk_cell HA.out 0).trans rfl, (blk_cell HA.out 1).trans rfl, (blk_cell HBB.out 0).trans rfl, (blk_cell HBB.out 1).trans rfl⟩ (fun hHeld => ?_)
      clear hK K
      refine norm_ (a' := ?_) ?_ ?_
      rotate_left
      · show Act.put _ (some 15) _ = _
        simp only [Act.put, List.setIfInBounds_toArray, List.set_cons_zero, List.set_cons_succ, i64_w, i32_w]
        rfl
      refine two_ (i := 3) (j := 9) (Ni := some 17) (Nj := some 6) #[true, true, true, true, false, false, false, false, false, false, false, false] #[true, true, true, false, false, false, false, false, false, true, false, false] rfl rfl rfl rfl (two_of HT_.out (by kernel_rfl)) (by decide) (by decide) (fun K hK => ?_) (fun K hK => ?_)
      · skip
        refine goes_ Try.func73 (by kernel_rfl) rfl #[.agg #[.int .u64 (bh : Int), .int .u64 (bl : Int)]] (by rfl) rfl rfl (by (try simp only [List.map_toArray, List.map_cons, List.map_nil]); first | done | rfl) ?_
        refine (of.calls bh bl HBH.out HBL.out w6).mono ?_
        rintro e w7 ⟨rfl, q1⟩
        refine ⟨_, rfl, ?_⟩
        replace HA := Lib.hid (blk_below HA.out q1)
        replace HBB := Lib.hid (blk_below HBB.out q1)
        replace HR := Lib.hid (blk_below HR.out q1)
        replace HB := Lib.hid (below_step HB.out q1)
        clear q1
        refine hK.out _ _ ⟨(blk_cell HA.out 0).trans rfl, (blk_cell HA.out 1).trans rfl, (blk_cell HBB.out 0).trans rfl, (blk_cell HBB.out 1).trans rfl⟩ (fun hHeld => ?_)
        clear hK K
        refine norm_ (a' := ?_) ?_ ?_
        rotate_left
        · show Act.put _ (some 17) _ = _
          simp only [Act.put, List.setIfInBounds_toArray, List.set_cons_zero, List.set_cons_succ, i64_w, i32_w]
          rfl
        refine two_ (i := 4) (j := 9) (Ni := some 18) (Nj := some 6) #[true, true, true, true, true, false, false, false, false, false, false, false] #[true, true, true, true, false, false, false, false, false, true, false, false] rfl rfl rfl rfl (two_of HT_.out (by kernel_rfl)) (by decide) (by decide) (fun K hK => ?_) (fun K hK => ?_)
        · skip
          refine goes_ Try.func77 (by kernel_rfl) rfl #[.agg (arrB (Hb.num ah al).getLsbD), .agg (arrB (Hb.num bh bl).getLsbD)] (by rfl) rfl rfl (by (try simp only [List.map_toArray, List.map_cons, List.map_nil]); first | done | rfl) ?_
          refine (minus.calls (Hb.num ah al) (Hb.num bh bl) w7).mono ?_
          rintro e w8 ⟨rfl, q1⟩
          refine ⟨_, rfl, ?_⟩
          replace HA := Lib.hid (blk_below HA.out q1)
          replace HBB := Lib.hid (blk_below HBB.out q1)
          replace HR := Lib.hid (blk_below HR.out q1)
          replace HB := Lib.hid (below_step HB.out q1)
          clear q1
          refine hK.out _ _ ⟨(blk_cell HA.out 0).trans rfl, (blk_cell HA.out 1).trans rfl, (blk_cell HBB.out 0).trans rfl, (blk_cell HBB.out 1).trans rfl⟩ (fun hHeld => ?_)
          clear hK K
          refine norm_ (a' := ?_) ?_ ?_
          rotate_left
          · show Act.put _ (some 18) _ = _
            simp only [Act.put, List.setIfInBounds_toArray, List.set_cons_zero, List.set_cons_succ, i64_w, i32_w]
            rfl
          refine two_ (i := 5) (j := 9) (Ni := some 19) (Nj := some 6) #[true, true, true, true, true, true, false, false, false, false, false, false] #[true, true, true, true, true, false, false, false, false, true, false, false] rfl rfl rfl rfl (two_of HT_.out (by kernel_rfl)) (by decide) (by decide) (fun K hK => ?_) (fun K hK => ?_)
          · skip
            refine goes_ Try.func78 (by kernel_rfl) rfl #[.agg (arrB ((Hb.num ah al) - (Hb.num bh bl)).getLsbD)] (by rfl) rfl rfl (by (try simp only [List.map_toArray, List.map_cons, List.map_nil]); first | done | rfl) ?_
            refine (back.calls ((Hb.num ah al) - (Hb.num bh bl)) w8).mono ?_
            rintro e w9 ⟨rfl, q1⟩
            refine ⟨_, rfl, ?_⟩
            replace HA := Lib.hid (blk_below HA.out q1)
            replace HBB := Lib.hid (blk_below HBB.out q1)
            replace HR := Lib.hid (blk_below HR.out q1)
            replace HB := Lib.hid (below_step HB.out q1)
            clear q1
            refine hK.out _ _ ⟨(blk_cell HA.out 0).trans rfl, (blk_cell HA.out 1).trans rfl, (blk_cell HBB.out 0).trans rfl, (blk_cell HBB.out 1).trans rfl⟩ (fun hHeld => ?_)
            clear hK K
            refine norm_ (a' := ?_) ?_ ?_
            rotate_left
            · show Act.put _ (some 19) _ = _
              simp only [Act.put, List.setIfInBounds_toArray, List.set_cons_zero, List.set_cons_succ, i64_w, i32_w]
              rfl
            refine pure_ (i := 6) (N := some 13) (v := ?_) (a' := ?_) #[true, true, true, true, true, true, true, false, false, false, false, false] rfl rfl (any_of HT_.out (by kernel_rfl)) (fun _ _ _ h => h) (Or.inl ⟨by rfl, ?_⟩) ?_ ?_
            rotate_left
            · intro w'
              go_simp
              with_reducible rfl
            rotate_left
            · simp only [Act.put, List.setIfInBounds_toArray, List.set_cons_zero, List.set_cons_succ, i64_w, i32_w]
              rfl
            refine pure_ (i := 7) (N := some 20) (v := ?_) (a' := ?_) #[true, true, true, true, true, true, true, true, false, false, false, false] rfl rfl (any_of HT_.out (by kernel_rfl)) (fun _ _ _ h => h) (Or.inl ⟨by rfl, ?_⟩) ?_ ?_
            rotate_left
            · intro w'
              go_simp
              with_reducible rfl
            rotate_left
            · simp only [Act.put, List.setIfInBounds_toArray, List.set_cons_zero, List.set_cons_succ, i64_w, i32_w]
              rfl
            refine pure_ (i := 8) (N := some 21) (v := ?_) (a' := ?_) #[true, true, true, true, true, true, true, true, true, false, false, false] rfl rfl (any_of HT_.out (by kernel_rfl)) (fun _ _ _ h => h) (Or.inl ⟨by rfl, ?_⟩) ?_ ?_
            rotate_left
            · intro w'
              go_simp
              with_reducible rfl
            rotate_left
            · simp only [Act.put, List.setIfInBounds_toArray, List.set_cons_zero, List.set_cons_succ, i64_w, i32_w]
              rfl
            refine one_ (i := 9) (N := some 6) #[true, true, true, true, true, true, true, true, true, true, false, false] rfl rfl (one_of HT_.out (by kernel_rfl)) (by decide) (fun K hK => ?_)
            have hlt4 := Lib.hid (blk_lt HR.out)
            have HT := Lib.hid (heap_alloc_new w9 (.cells #[.int .u64 0, .int .u64 0] 44))
            replace HA := Lib.hid (blk_alloc HA.out (.cells #[.int .u64 0, .int .u64 0] 44))
            replace HBB := Lib.hid (blk_alloc HBB.out (.cells #[.int .u64 0, .int .u64 0] 44))
            replace HR := Lib.hid (blk_alloc HR.out (.cells #[.int .u64 0, .int .u64 0] 44))
            replace HB := Lib.hid (below_alloc HB.out (.cells #[.int .u64 0, .int .u64 0] 44))
            refine event_step (w1 := w9.alloc (.cells #[.int .u64 0, .int .u64 0] 44)) (v := .pointer (some ⟨w9.heap.size, 0, none⟩)) (by rfl) (by go_simp) ?_
            refine hK.out _ _ ⟨(blk_cell HA.out 0).trans rfl, (blk_cell HA.out 1).trans rfl, (blk_cell HBB.out 0).trans rfl, (blk_cell HBB.out 1).trans rfl⟩ (fun hHeld => ?_)
            clear hK K
            refine norm_ (a' := ?_) ?_ ?_
            rotate_left
            · show Act.put _ (some 6) _ = _
              simp only [Act.put, List.setIfInBounds_toArray, List.set_cons_zero, List.set_cons_succ, i64_w, i32_w]
              rfl
            generalize w9.alloc (.cells #[.int .u64 0, .int .u64 0] 44) = w10 at HA HBB HR HB HT hHeld ⊢
            generalize w9.heap.size = b4 at hlt4 HT hHeld ⊢
            have hl4 := hlt4.out
            have hn1 : b1 ≠ b4 := by omega
            have hn2 : b2 ≠ b4 := by omega
            have hn3 : b3 ≠ b4 := by omega
            refine one_ (i := 10) (N := none) #[true, true, true, true, true, true, true, true, true, true, true, false] rfl rfl (one_of HT_.out (by kernel_rfl)) (by decide) (fun K hK => ?_)
            have d0 := (blk_cell HT.out 0).trans rfl
            have d1 := (blk_cell HT.out 1).trans rfl
            have f0 := blk_frozen HT.out 0
            have f1 := blk_frozen HT.out 1
            refine skip_ (w1 := ?_) (by rfl) rfl ?_ ?_
            rotate_left
            · go_simp
              rfl
            refine hK.out _ _ ⟨(blk_cell (blk_off (blk_off HA.out hn1 _ _) hn1 _ _) 0).trans rfl, (blk_cell (blk_off (blk_off HA.out hn1 _ _) hn1 _ _) 1).trans rfl, (blk_cell (blk_off (blk_off HBB.out hn2 _ _) hn2 _ _) 0).trans rfl, (blk_cell (blk_off (blk_off HBB.out hn2 _ _) hn2 _ _) 1).trans rfl⟩ (fun hHeld => ?_)
            clear hK K
            refine pure_ (i := 11) (N := some 7) (v := ?_) (a' := ?_) #[true, true, true, true, true, true, true, true, true, true, true, true] rfl rfl (any_of HT_.out (by kernel_rfl)) (fun _ _ _ h => h) (Or.inl ⟨by rfl, ?_⟩) ?_ ?_
            rotate_left
            · intro w'
              go_simp
              with_reducible rfl
            rotate_left
            · simp only [Act.put, List.setIfInBounds_toArray, List.set_cons_zero, List.set_cons_succ, i64_w, i32_w]
              rfl
            refine done_ (done_of HT_.out (by kernel_rfl)) ?_
            clear hHeld d0 d1 f0 f1
            replace HR := Lib.hid (blk_off (blk_off HR.out hn3 0 (.int .u64 ((Hb.back ((Hb.num ah al) - (Hb.num bh bl))).1 : Nat))) hn3 1 (.int .u64 ((Hb.back ((Hb.num ah al) - (Hb.num bh bl))).2.1 : Nat)))
            replace HT := Lib.hid (blk_put (blk_put HT.out 0 (.int .u64 ((Hb.back ((Hb.num ah al) - (Hb.num bh bl))).1 : Nat)) rfl) 1 (.int .u64 ((Hb.back ((Hb.num ah al) - (Hb.num bh bl))).2.1 : Nat)) rfl)
            replace HB := Lib.hid ((HB.out.setCell (p := ⟨b4, 0, none⟩) (by show w.heap.size ≤ b4; omega) (.int .u64 ((Hb.back ((Hb.num ah al) - (Hb.num bh bl))).1 : Nat))).setCell (p := ⟨b4, 1, none⟩) (by show w.heap.size ≤ b4; omega) (.int .u64 ((Hb.back ((Hb.num ah al) - (Hb.num bh bl))).2.1 : Nat)))
            generalize (w10.setCell ⟨b4, 0, none⟩ (.int .u64 ((Hb.back ((Hb.num ah al) - (Hb.num bh bl))).1 : Nat))).setCell ⟨b4, 1, none⟩ (.int .u64 ((Hb.back ((Hb.num ah al) - (Hb.num bh bl))).2.1 : Nat)) = w11 at HR HT HB ⊢
            have d0 := (blk_cell HR.out 0).trans rfl
            have d1 := (blk_cell HR.out 1).trans rfl
            have f0 := blk_frozen HR.out 0
            have f1 := blk_frozen HR.out 1
            have t0 := (blk_cell HT.out 0).trans rfl
            have t1 := (blk_cell HT.out 1).trans rfl
            have HRN := Lib.hid (blk_put (blk_put HR.out 0 (.int .u64 ((Hb.back ((Hb.num ah al) - (Hb.num bh bl))).1 : Nat)) rfl) 1 (.int .u64 ((Hb.back ((Hb.num ah al) - (Hb.num bh bl))).2.1 : Nat)) rfl)
            go_wp2
            refine bodyPost_ret (results_ct rfl _ _ b3 44 #[.int .u64 ((Hb.back ((Hb.num ah al) - (Hb.num bh bl))).1 : Nat), .int .u64 ((Hb.back ((Hb.num ah al) - (Hb.num bh bl))).2.1 : Nat)] (0, 0) _ (by rfl) HRN.out Try.underlying44 rfl (by rfl)) rfl ?_
            exact ⟨rfl, (HB.out.setCell (p := ⟨b3, 0, none⟩) (by show w.heap.size ≤ b3; omega) _).setCell (p := ⟨b3, 1, none⟩) (by show w.heap.size ≤ b3; omega) _⟩
          · skip
            have hlt4 := Lib.hid (blk_lt HR.out)
            have HT := Lib.hid (heap_alloc_new w8 (.cells #[.int .u64 0, .int .u64 0] 44))
            replace HA := Lib.hid (blk_alloc HA.out (.cells #[.int .u64 0, .int .u64 0] 44))
            replace HBB := Lib.hid (blk_alloc HBB.out (.cells #[.int .u64 0, .int .u64 0] 44))
            replace HR := Lib.hid (blk_alloc HR.out (.cells #[.int .u64 0, .int .u64 0] 44))
            replace HB := Lib.hid (below_alloc HB.out (.cells #[.int .u64 0, .int .u64 0] 44))
            refine event_step (w1 := w8.alloc (.cells #[.int .u64 0, .int .u64 0] 44)) (v := .pointer (some ⟨w8.heap.size, 0, none⟩)) (by rfl) (by go_simp) ?_
            refine hK.out _ _ ⟨(blk_cell HA.out 0).trans rfl, (blk_cell HA.out 1).trans rfl, (blk_cell HBB.out 0).trans rfl, (blk_cell HBB.out 1).trans rfl⟩ (fun hHeld => ?_)
            clear hK K
            refine norm_ (a' := ?_) ?_ ?_
            rotate_left
            · show Act.put _ (some 6) _ = _
              simp only [Act.put, List.setIfInBounds_toArray, List.set_cons_zero, List.set_cons_succ, i64_w, i32_w]
              rfl
            generalize w8.alloc (.cells #[.int .u64 0, .int .u64 0] 44) = w9 at HA HBB HR HB HT hHeld ⊢
            generalize w8.heap.size = b4 at hlt4 HT hHeld ⊢
            have hl4 := hlt4.out
            have hn1 : b1 ≠ b4 := by omega
            have hn2 : b2 ≠ b4 := by omega
            have hn3 : b3 ≠ b4 := by omega
            refine one_ (i := 5) (N := some 19) #[true, true, true, true, true, true, false, false, false, true, false, false] rfl rfl (one_of HT_.out (by kernel_rfl)) (by decide) (fun K hK => ?_)
            refine goes_ Try.func78 (by kernel_rfl) rfl #[.agg (arrB ((Hb.num ah al) - (Hb.num bh bl)).getLsbD)] (by rfl) rfl rfl (by (try simp only [List.map_toArray, List.map_cons, List.map_nil]); first | done | rfl) ?_
            refine (back.calls ((Hb.num ah al) - (Hb.num bh bl)) w9).mono ?_
            rintro e w10 ⟨rfl, q1⟩
            refine ⟨_, rfl, ?_⟩
            replace HA := Lib.hid (blk_below HA.out q1)
            replace HBB := Lib.hid (blk_below HBB.out q1)
            replace HR := Lib.hid (blk_below HR.out q1)
            replace HT := Lib.hid (blk_below HT.out q1)
            replace HB := Lib.hid (below_step HB.out q1)
            clear q1
            refine hK.out _ _ ⟨(blk_cell HA.out 0).trans rfl, (blk_cell HA.out 1).trans rfl, (blk_cell HBB.out 0).trans rfl, (blk_cell HBB.out 1).trans rfl⟩ (fun hHeld => ?_)
            clear hK K
            refine norm_ (a' := ?_) ?_ ?_
            rotate_left
            · show Act.put _ (some 19) _ = _
              simp only [Act.put, List.setIfInBounds_toArray, List.set_cons_zero, List.set_cons_succ, i64_w, i32_w]
              rfl
            refine pure_ (i := 6) (N := some 13) (v := ?_) (a' := ?_) #[true, true, true, true, true, true, true, false, false, true, false, false] rfl rfl (any_of HT_.out (by kernel_rfl)) (fun _ _ _ h => h) (Or.inl ⟨by rfl, ?_⟩) ?_ ?_
            rotate_left
            · intro w'
              go_simp
              with_reducible rfl
            rotate_left
            · simp only [Act.put, List.setIfInBounds_toArray, List.set_cons_zero, List.set_cons_succ, i64_w, i32_w]
              rfl
            refine pure_ (i := 7) (N := some 20) (v := ?_) (a' := ?_) #[true, true, true, true, true, true, true, true, false, true, false, false] rfl rfl (any_of HT_.out (by kernel_rfl)) (fun _ _ _ h => h) (Or.inl ⟨by rfl, ?_⟩) ?_ ?_
            rotate_left
            · intro w'
              go_simp
              with_reducible rfl
            rotate_left
            · simp only [Act.put, List.setIfInBounds_toArray, List.set_cons_zero, List.set_cons_succ, i64_w, i32_w]
              rfl
            refine pure_ (i := 8) (N := some 21) (v := ?_) (a' := ?_) #[true, true, true, true, true, true, true, true, true, true, false, false] rfl rfl (any_of HT_.out (by kernel_rfl)) (fun _ _ _ h => h) (Or.inl ⟨by rfl, ?_⟩) ?_ ?_
            rotate_left
            · intro w'
              go_simp
              with_reducible rfl
            rotate_left
            · simp only [Act.put, List.setIfInBounds_toArray, List.set_cons_zero, List.set_cons_succ, i64_w, i32_w]
              rfl
            refine one_ (i := 10) (N := none) #[true, true, true, true, true, true, true, true, true, true, true, false] rfl rfl (one_of HT_.out (by kernel_rfl)) (by decide) (fun K hK => ?_)
            have d0 := (blk_cell HT.out 0).trans rfl
            have d1 := (blk_cell HT.out 1).trans rfl
            have f0 := blk_frozen HT.out 0
            have f1 := blk_frozen HT.out 1
            refine skip_ (w1 := ?_) (by rfl) rfl ?_ ?_
            rotate_left
            · go_simp
              rfl
            refine hK.out _ _ ⟨(blk_cell (blk_off (blk_off HA.out hn1 _ _) hn1 _ _) 0).trans rfl, (blk_cell (blk_off (blk_off HA.out hn1 _ _) hn1 _ _) 1).trans rfl, (blk_cell (blk_off (blk_off HBB.out hn2 _ _) hn2 _ _) 0).trans rfl, (blk_cell (blk_off (blk_off HBB.out hn2 _ _) hn2 _ _) 1).trans rfl⟩ (fun hHeld => ?_)
            clear hK K
            refine pure_ (i := 11) (N := some 7) (v := ?_) (a' := ?_) #[true, true, true, true, true, true, true, true, true, true, true, true] rfl rfl (any_of HT_.out (by kernel_rfl)) (fun _ _ _ h => h) (Or.inl ⟨by rfl, ?_⟩) ?_ ?_
            rotate_left
            · intro w'
              go_simp
              with_reducible rfl
            rotate_left
            · simp only [Act.put, List.setIfInBounds_toArray, List.set_cons_zero, List.set_cons_succ, i64_w, i32_w]
              rfl
            refine done_ (done_of HT_.out (by kernel_rfl)) ?_
            clear hHeld d0 d1 f0 f1
            replace HR := Lib.hid (blk_off (blk_off HR.out hn3 0 (.int .u64 ((Hb.back ((Hb.num ah al) - (Hb.num bh bl))).1 : Nat))) hn3 1 (.int .u64 ((Hb.back ((Hb.num ah al) - (Hb.num bh bl))).2.1 : Nat)))
            replace HT := Lib.hid (blk_put (blk_put HT.out 0 (.int .u64 ((Hb.back ((Hb.num ah al) - (Hb.num bh bl))).1 : Nat)) rfl) 1 (.int .u64 ((Hb.back ((Hb.num ah al) - (Hb.num bh bl))).2.1 : Nat)) rfl)
            replace HB := Lib.hid ((HB.out.setCell (p := ⟨b4, 0, none⟩) (by show w.heap.size ≤ b4; omega) (.int .u64 ((Hb.back ((Hb.num ah al) - (Hb.num bh bl))).1 : Nat))).setCell (p := ⟨b4, 1, none⟩) (by show w.heap.size ≤ b4; omega) (.int .u64 ((Hb.back ((Hb.num ah al) - (Hb.num bh bl))).2.1 : Nat)))
            generalize (w10.setCell ⟨b4, 0, none⟩ (.int .u64 ((Hb.back ((Hb.num ah al) - (Hb.num bh bl))).1 : Nat))).setCell ⟨b4, 1, none⟩ (.int .u64 ((Hb.back ((Hb.num ah al) - (Hb.num bh bl))).2.1 : Nat)) = w11 at HR HT HB ⊢
            have d0 := (blk_cell HR.out 0).trans rfl
            have d1 := (blk_cell HR.out 1).trans rfl
            have f0 := blk_frozen HR.out 0
            have f1 := blk_frozen HR.out 1
            have t0 := (blk_cell HT.out 0).trans rfl
            have t1 := (blk_cell HT.out 1).trans rfl
            have HRN := Lib.hid (blk_put (blk_put HR.out 0 (.int .u64 ((Hb.back ((Hb.num ah al) - (Hb.num bh bl))).1 : Nat)) rfl) 1 (.int .u64 ((Hb.back ((Hb.num ah al) - (Hb.num bh bl))).2.1 : Nat)) rfl)
            go_wp2
            refine bodyPost_ret (results_ct rfl _ _ b3 44 #[.int .u64 ((Hb.back ((Hb.num ah al) - (Hb.num bh bl))).1 : Nat), .int .u64 ((Hb.back ((Hb.num ah al) - (Hb.num bh bl))).2.1 : Nat)] (0, 0) _ (by rfl) HRN.out Try.underlying44 rfl (by rfl)) rfl ?_
            exact ⟨rfl, (HB.out.setCell (p := ⟨b3, 0, none⟩) (by show w.heap.size ≤ b3; omega) _).setCell (p := ⟨b3, 1, none⟩) (by show w.heap.size ≤ b3; omega) _⟩
        · skip
          have hlt4 := Lib.hid (blk_lt HR.out)
          have HT := Lib.hid (heap_alloc_new w7 (.cells #[.int .u64 0, .int .u64 0] 44))
          replace HA := Lib.hid (blk_alloc HA.out (.cells #[.int .u64 0, .int .u64 0] 44))
          replace HBB := Lib.hid (blk_alloc HBB.out (.cells #[.int .u64 0, .int .u64 0] 44))
          replace HR := Lib.hid (blk_alloc HR.out (.cells #[.int .u64 0, .int .u64 0] 44))
          replace HB := Lib.hid (below_alloc HB.out (.cells #[.int .u64 0, .int .u64 0] 44))
          refine event_step (w1 := w7.alloc (.cells #[.int .u64 0, .int .u64 0] 44)) (v := .pointer (some ⟨w7.heap.size, 0, none⟩)) (by rfl) (by go_simp) ?_
          refine hK.out _ _ ⟨(blk_cell HA.out 0).trans rfl, (blk_cell HA.out 1).trans rfl, (blk_cell HBB.out 0).trans rfl, (blk_cell HBB.out 1).trans rfl⟩ (fun hHeld => ?_)
          clear hK K
          refine norm_ (a' := ?_) ?_ ?_
          rotate_left
          · show Act.put _ (some 6) _ = _
            simp only [Act.put, List.setIfInBounds_toArray, List.set_cons_zero, List.set_cons_succ, i64_w, i32_w]
            rfl
          generalize w7.alloc (.cells #[.int .u64 0, .int .u64 0] 44) = w8 at HA HBB HR HB HT hHeld ⊢
          generalize w7.heap.size = b4 at hlt4 HT hHeld ⊢
          have hl4 := hlt4.out
          have hn1 : b1 ≠ b4 := by omega
          have hn2 : b2 ≠ b4 := by omega
          have hn3 : b3 ≠ b4 := by omega
          refine one_ (i := 4) (N := some 18) #[true, true, true, true, true, false, false, false, false, true, false, false] rfl rfl (one_of HT_.out (by kernel_rfl)) (by decide) (fun K hK => ?_)
          refine goes_ Try.func77 (by kernel_rfl) rfl #[.agg (arrB (Hb.num ah al).getLsbD), .agg (arrB (Hb.num bh bl).getLsbD)] (by rfl) rfl rfl (by (try simp only [List.map_toArray, List.map_cons, List.map_nil]); first | done | rfl) ?_
          refine (minus.calls (Hb.num ah al) (Hb.num bh bl) w8).mono ?_
          rintro e w9 ⟨rfl, q1⟩
          refine ⟨_, rfl, ?_⟩
          replace HA := Lib.hid (blk_below HA.out q1)
          replace HBB := Lib.hid (blk_below HBB.out q1)
          replace HR := Lib.hid (blk_below HR.out q1)
          replace HT := Lib.hid (blk_below HT.out q1)
          replace HB := Lib.hid (below_step HB.out q1)
          clear q1
          refine hK.out _ _ ⟨(blk_cell HA.out 0).trans rfl, (blk_cell HA.out 1).trans rfl, (blk_cell HBB.out 0).trans rfl, (blk_cell HBB.out 1).trans rfl⟩ (fun hHeld => ?_)
          clear hK K
          refine norm_ (a' := ?_) ?_ ?_
          rotate_left
          · show Act.put _ (some 18) _ = _
            simp only [Act.put, List.setIfInBounds_toArray, List.set_cons_zero, List.set_cons_succ, i64_w, i32_w]
            rfl
          refine one_ (i := 5) (N := some 19) #[true, true, true, true, true, true, false, false, false, true, false, false] rfl rfl (one_of HT_.out (by kernel_rfl)) (by decide) (fun K hK => ?_)
          refine goes_ Try.func78 (by kernel_rfl) rfl #[.agg (arrB ((Hb.num ah al) - (Hb.num bh bl)).getLsbD)] (by rfl) rfl rfl (by (try simp only [List.map_toArray, List.map_cons, List.map_nil]); first | done | rfl) ?_
          refine (back.calls ((Hb.num ah al) - (Hb.num bh bl)) w9).mono ?_
          rintro e w10 ⟨rfl, q1⟩
          refine ⟨_, rfl, ?_⟩
          replace HA := Lib.hid (blk_below HA.out q1)
          replace HBB := Lib.hid (blk_below HBB.out q1)
          replace HR := Lib.hid (blk_below HR.out q1)
          replace HT := Lib.hid (blk_below HT.out q1)
          replace HB := Lib.hid (below_step HB.out q1)
          clear q1
          refine hK.out _ _ ⟨(blk_cell HA.out 0).trans rfl, (blk_cell HA.out 1).trans rfl, (blk_cell HBB.out 0).trans rfl, (blk_cell HBB.out 1).trans rfl⟩ (fun hHeld => ?_)
          clear hK K
          refine norm_ (a' := ?_) ?_ ?_
          rotate_left
          · show Act.put _ (some 19) _ = _
            simp only [Act.put, List.setIfInBounds_toArray, List.set_cons_zero, List.set_cons_succ, i64_w, i32_w]
            rfl
          refine pure_ (i := 6) (N := some 13) (v := ?_) (a' := ?_) #[true, true, true, true, true, true, true, false, false, true, false, false] rfl rfl (any_of HT_.out (by kernel_rfl)) (fun _ _ _ h => h) (Or.inl ⟨by rfl, ?_⟩) ?_ ?_
          rotate_left
          · intro w'
            go_simp
            with_reducible rfl
          rotate_left
          · simp only [Act.put, List.setIfInBounds_toArray, List.set_cons_zero, List.set_cons_succ, i64_w, i32_w]
            rfl
          refine pure_ (i := 7) (N := some 20) (v := ?_) (a' := ?_) #[true, true, true, true, true, true, true, true, false, true, false, false] rfl rfl (any_of HT_.out (by kernel_rfl)) (fun _ _ _ h => h) (Or.inl ⟨by rfl, ?_⟩) ?_ ?_
          rotate_left
          · intro w'
            go_simp
            with_reducible rfl
          rotate_left
          · simp only [Act.put, List.setIfInBounds_toArray, List.set_cons_zero, List.set_cons_succ, i64_w, i32_w]
            rfl
          refine pure_ (i := 8) (N := some 21) (v := ?_) (a' := ?_) #[true, true, true, true, true, true, true, true, true, true, false, false] rfl rfl (any_of HT_.out (by kernel_rfl)) (fun _ _ _ h => h) (Or.inl ⟨by rfl, ?_⟩) ?_ ?_
          rotate_left
          · intro w'
            go_simp
            with_reducible rfl
          rotate_left
          · simp only [Act.put, List.setIfInBounds_toArray, List.set_cons_zero, List.set_cons_succ, i64_w, i32_w]
            rfl
          refine one_ (i := 10) (N := none) #[true, true, true, true, true, true, true, true, true, true, true, false] rfl rfl (one_of HT_.out (by kernel_rfl)) (by decide) (fun K hK => ?_)
          have d0 := (blk_cell HT.out 0).trans rfl
          have d1 := (blk_cell HT.out 1).trans rfl
          have f0 := blk_frozen HT.out 0
          have f1 := blk_frozen HT.out 1
          refine skip_ (w1 := ?_) (by rfl) rfl ?_ ?_
          rotate_left
          · go_simp
            rfl
          refine hK.out _ _ ⟨(blk_cell (blk_off (blk_off HA.out hn1 _ _) hn1 _ _) 0).trans rfl, (blk_cell (blk_off (blk_off HA.out hn1 _ _) hn1 _ _) 1).trans rfl, (blk_cell (blk_off (blk_off HBB.out hn2 _ _) hn2 _ _) 0).trans rfl, (blk_cell (blk_off (blk_off HBB.out hn2 _ _) hn2 _ _) 1).trans rfl⟩ (fun hHeld => ?_)
          clear hK K
          refine pure_ (i := 11) (N := some 7) (v := ?_) (a' := ?_) #[true, true, true, true, true, true, true, true, true, true, true, true] rfl rfl (any_of HT_.out (by kernel_rfl)) (fun _ _ _ h => h) (Or.inl ⟨by rfl, ?_⟩) ?_ ?_
          rotate_left
          · intro w'
            go_simp
            with_reducible rfl
          rotate_left
          · simp only [Act.put, List.setIfInBounds_toArray, List.set_cons_zero, List.set_cons_succ, i64_w, i32_w]
            rfl
          refine done_ (done_of HT_.out (by kernel_rfl)) ?_
          clear hHeld d0 d1 f0 f1
          replace HR := Lib.hid (blk_off (blk_off HR.out hn3 0 (.int .u64 ((Hb.back ((Hb.num ah al) - (Hb.num bh bl))).1 : Nat))) hn3 1 (.int .u64 ((Hb.back ((Hb.num ah al) - (Hb.num bh bl))).2.1 : Nat)))
          replace HT := Lib.hid (blk_put (blk_put HT.out 0 (.int .u64 ((Hb.back ((Hb.num ah al) - (Hb.num bh bl))).1 : Nat)) rfl) 1 (.int .u64 ((Hb.back ((Hb.num ah al) - (Hb.num bh bl))).2.1 : Nat)) rfl)
          replace HB := Lib.hid ((HB.out.setCell (p := ⟨b4, 0, none⟩) (by show w.heap.size ≤ b4; omega) (.int .u64 ((Hb.back ((Hb.num ah al) - (Hb.num bh bl))).1 : Nat))).setCell (p := ⟨b4, 1, none⟩) (by show w.heap.size ≤ b4; omega) (.int .u64 ((Hb.back ((Hb.num ah al) - (Hb.num bh bl))).2.1 : Nat)))
          generalize (w10.setCell ⟨b4, 0, none⟩ (.int .u64 ((Hb.back ((Hb.num ah al) - (Hb.num bh bl))).1 : Nat))).setCell ⟨b4, 1, none⟩ (.int .u64 ((Hb.back ((Hb.num ah al) - (Hb.num bh bl))).2.1 : Nat)) = w11 at HR HT HB ⊢
          have d0 := (blk_cell HR.out 0).trans rfl
          have d1 := (blk_cell HR.out 1).trans rfl
          have f0 := blk_frozen HR.out 0
          have f1 := blk_frozen HR.out 1
          have t0 := (blk_cell HT.out 0).trans rfl
          have t1 := (blk_cell HT.out 1).trans rfl
          have HRN := Lib.hid (blk_put (blk_put HR.out 0 (.int .u64 ((Hb.back ((Hb.num ah al) - (Hb.num bh bl))).1 : Nat)) rfl) 1 (.int .u64 ((Hb.back ((Hb.num ah al) - (Hb.num bh bl))).2.1 : Nat)) rfl)
          go_wp2
          refine bodyPost_ret (results_ct rfl _ _ b3 44 #[.int .u64 ((Hb.back ((Hb.num ah al) - (Hb.num bh bl))).1 : Nat), .int .u64 ((Hb.back ((Hb.num ah al) - (Hb.num bh bl))).2.1 : Nat)] (0, 0) _ (by rfl) HRN.out Try.underlying44 rfl (by rfl)) rfl ?_
          exact ⟨rfl, (HB.out.setCell (p := ⟨b3, 0, none⟩) (by show w.heap.size ≤ b3; omega) _).setCell (p := ⟨b3, 1, none⟩) (by show w.heap.size ≤ b3; omega) _⟩
      · skip
        have hlt4 := Lib.hid (blk_lt HR.out)
        have HT := Lib.hid (heap_alloc_new w6 (.cells #[.int .u64 0, .int .u64 0] 44))
        replace HA := Lib.hid (blk_alloc HA.out (.cells #[.int .u64 0, .int .u64 0] 44))
        replace HBB := Lib.hid (blk_alloc HBB.out (.cells #[.int .u64 0, .int .u64 0] 44))
        replace HR := Lib.hid (blk_alloc HR.out (.cells #[.int .u64 0, .int .u64 0] 44))
        replace HB := Lib.hid (below_alloc HB.out (.cells #[.int .u64 0, .int .u64 0] 44))
        refine event_step (w1 := w6.alloc (.cells #[.int .u64 0, .int .u64 0] 44)) (v := .pointer (some ⟨w6.heap.size, 0, none⟩)) (by rfl) (by go_simp) ?_
        refine hK.out _ _ ⟨(blk_cell HA.out 0).trans rfl, (blk_cell HA.out 1).trans rfl, (blk_cell HBB.out 0).trans rfl, (blk_cell HBB.out 1).trans rfl⟩ (fun hHeld => ?_)
        clear hK K
        refine norm_ (a' := ?_) ?_ ?_
        rotate_left
        · show Act.put _ (some 6) _ = _
          simp only [Act.put, List.setIfInBounds_toArray, List.set_cons_zero, List.set_cons_succ, i64_w, i32_w]
          rfl
        generalize w6.alloc (.cells #[.int .u64 0, .int .u64 0] 44) = w7 at HA HBB HR HB HT hHeld ⊢
        generalize w6.heap.size = b4 at hlt4 HT hHeld ⊢
        have hl4 := hlt4.out
        have hn1 : b1 ≠ b4 := by omega
        have hn2 : b2 ≠ b4 := by omega
        have hn3 : b3 ≠ b4 := by omega
        refine one_ (i := 3) (N := some 17) #[true, true, true, true, false, false, false, false, false, true, false, false] rfl rfl (one_of HT_.out (by kernel_rfl)) (by decide) (fun K hK => ?_)
        refine goes_ Try.func73 (by kernel_rfl) rfl #[.agg #[.int .u64 (bh : Int), .int .u64 (bl : Int)]] (by rfl) rfl rfl (by (try simp only [List.map_toArray, List.map_cons, List.map_nil]); first | done | rfl) ?_
        refine (of.calls bh bl HBH.out HBL.out w7).mono ?_
        rintro e w8 ⟨rfl, q1⟩
        refine ⟨_, rfl, ?_⟩
        replace HA := Lib.hid (blk_below HA.out q1)
        replace HBB := Lib.hid (blk_below HBB.out q1)
        replace HR := Lib.hid (blk_below HR.out q1)
        replace HT := Lib.hid (blk_below HT.out q1)
        replace HB := Lib.hid (below_step HB.out q1)
        clear q1
        refine hK.out _ _ ⟨(blk_cell HA.out 0).trans rfl, (blk_cell HA.out 1).trans rfl, (blk_cell HBB.out 0).trans rfl, (blk_cell HBB.out 1).trans rfl⟩ (fun hHeld => ?_)
        clear hK K
        refine norm_ (a' := ?_) ?_ ?_
        rotate_left
        · show Act.put _ (some 17) _ = _
          simp only [Act.put, List.setIfInBounds_toArray, List.set_cons_zero, List.set_cons_succ, i64_w, i32_w]
          rfl
        refine one_ (i := 4) (N := some 18) #[true, true, true, true, true, false, false, false, false, true, false, false] rfl rfl (one_of HT_.out (by kernel_rfl)) (by decide) (fun K hK => ?_)
        refine goes_ Try.func77 (by kernel_rfl) rfl #[.agg (arrB (Hb.num ah al).getLsbD), .agg (arrB (Hb.num bh bl).getLsbD)] (by rfl) rfl rfl (by (try simp only [List.map_toArray, List.map_cons, List.map_nil]); first | done | rfl) ?_
        refine (minus.calls (Hb.num ah al) (Hb.num bh bl) w8).mono ?_
        rintro e w9 ⟨rfl, q1⟩
        refine ⟨_, rfl, ?_⟩
        replace HA := Lib.hid (blk_below HA.out q1)
        replace HBB := Lib.hid (blk_below HBB.out q1)
        replace HR := Lib.hid (blk_below HR.out q1)
        replace HT := Lib.hid (blk_below HT.out q1)
        replace HB := Lib.hid (below_step HB.out q1)
        clear q1
        refine hK.out _ _ ⟨(blk_cell HA.out 0).trans rfl, (blk_cell HA.out 1).trans rfl, (blk_cell HBB.out 0).trans rfl, (blk_cell HBB.out 1).trans rfl⟩ (fun hHeld => ?_)
        clear hK K
        refine norm_ (a' := ?_) ?_ ?_
        rotate_left
        · show Act.put _ (some 18) _ = _
          simp only [Act.put, List.setIfInBounds_toArray, List.set_cons_zero, List.set_cons_succ, i64_w, i32_w]
          rfl
        refine one_ (i := 5) (N := some 19) #[true, true, true, true, true, true, false, false, false, true, false, false] rfl rfl (one_of HT_.out (by kernel_rfl)) (by decide) (fun K hK => ?_)
        refine goes_ Try.func78 (by kernel_rfl) rfl #[.agg (arrB ((Hb.num ah al) - (Hb.num bh bl)).getLsbD)] (by rfl) rfl rfl (by (try simp only [List.map_toArray, List.map_cons, List.map_nil]); first | done | rfl) ?_
        refine (back.calls ((Hb.num ah al) - (Hb.num bh bl)) w9).mono ?_
        rintro e w10 ⟨rfl, q1⟩
        refine ⟨_, rfl, ?_⟩
        replace HA := Lib.hid (blk_below HA.out q1)
        replace HBB := Lib.hid (blk_below HBB.out q1)
        replace HR := Lib.hid (blk_below HR.out q1)
        replace HT := Lib.hid (blk_below HT.out q1)
        replace HB := Lib.hid (below_step HB.out q1)
        clear q1
        refine hK.out _ _ ⟨(blk_cell HA.out 0).trans rfl, (blk_cell HA.out 1).trans rfl, (blk_cell HBB.out 0).trans rfl, (blk_cell HBB.out 1).trans rfl⟩ (fun hHeld => ?_)
        clear hK K
        refine norm_ (a' := ?_) ?_ ?_
        rotate_left
        · show Act.put _ (some 19) _ = _
          simp only [Act.put, List.setIfInBounds_toArray, List.set_cons_zero, List.set_cons_succ, i64_w, i32_w]
          rfl
        refine pure_ (i := 6) (N := some 13) (v := ?_) (a' := ?_) #[true, true, true, true, true, true, true, false, false, true, false, false] rfl rfl (any_of HT_.out (by kernel_rfl)) (fun _ _ _ h => h) (Or.inl ⟨by rfl, ?_⟩) ?_ ?_
        rotate_left
        · intro w'
          go_simp
          with_reducible rfl
        rotate_left
        · simp only [Act.put, List.setIfInBounds_toArray, List.set_cons_zero, List.set_cons_succ, i64_w, i32_w]
          rfl
        refine pure_ (i := 7) (N := some 20) (v := ?_) (a' := ?_) #[true, true, true, true, true, true, true, true, false, true, false, false] rfl rfl (any_of HT_.out (by kernel_rfl)) (fun _ _ _ h => h) (Or.inl ⟨by rfl, ?_⟩) ?_ ?_
        rotate_left
        · intro w'
          go_simp
          with_reducible rfl
        rotate_left
        · simp only [Act.put, List.setIfInBounds_toArray, List.set_cons_zero, List.set_cons_succ, i64_w, i32_w]
          rfl
        refine pure_ (i := 8) (N := some 21) (v := ?_) (a' := ?_) #[true, true, true, true, true, true, true, true, true, true, false, false] rfl rfl (any_of HT_.out (by kernel_rfl)) (fun _ _ _ h => h) (Or.inl ⟨by rfl, ?_⟩) ?_ ?_
        rotate_left
        · intro w'
          go_simp
          with_reducible rfl
        rotate_left
        · simp only [Act.put, List.setIfInBounds_toArray, List.set_cons_zero, List.set_cons_succ, i64_w, i32_w]
          rfl
        refine one_ (i := 10) (N := none) #[true, true, true, true, true, true, true, true, true, true, true, false] rfl rfl (one_of HT_.out (by kernel_rfl)) (by decide) (fun K hK => ?_)
        have d0 := (blk_cell HT.out 0).trans rfl
        have d1 := (blk_cell HT.out 1).trans rfl
        have f0 := blk_frozen HT.out 0
        have f1 := blk_frozen HT.out 1
        refine skip_ (w1 := ?_) (by rfl) rfl ?_ ?_
        rotate_left
        · go_simp
          rfl
        refine hK.out _ _ ⟨(blk_cell (blk_off (blk_off HA.out hn1 _ _) hn1 _ _) 0).trans rfl, (blk_cell (blk_off (blk_off HA.out hn1 _ _) hn1 _ _) 1).trans rfl, (blk_cell (blk_off (blk_off HBB.out hn2 _ _) hn2 _ _) 0).trans rfl, (blk_cell (blk_off (blk_off HBB.out hn2 _ _) hn2 _ _) 1).trans rfl⟩ (fun hHeld => ?_)
        clear hK K
        refine pure_ (i := 11) (N := some 7) (v := ?_) (a' := ?_) #[true, true, true, true, true, true, true, true, true, true, true, true] rfl rfl (any_of HT_.out (by kernel_rfl)) (fun _ _ _ h => h) (Or.inl ⟨by rfl, ?_⟩) ?_ ?_
        rotate_left
        · intro w'
          go_simp
          with_reducible rfl
        rotate_left
        · simp only [Act.put, List.setIfInBounds_toArray, List.set_cons_zero, List.set_cons_succ, i64_w, i32_w]
          rfl
        refine done_ (done_of HT_.out (by kernel_rfl)) ?_
        clear hHeld d0 d1 f0 f1
        replace HR := Lib.hid (blk_off (blk_off HR.out hn3 0 (.int .u64 ((Hb.back ((Hb.num ah al) - (Hb.num bh bl))).1 : Nat))) hn3 1 (.int .u64 ((Hb.back ((Hb.num ah al) - (Hb.num bh bl))).2.1 : Nat)))
        replace HT := Lib.hid (blk_put (blk_put HT.out 0 (.int .u64 ((Hb.back ((Hb.num ah al) - (Hb.num bh bl))).1 : Nat)) rfl) 1 (.int .u64 ((Hb.back ((Hb.num ah al) - (Hb.num bh bl))).2.1 : Nat)) rfl)
        replace HB := Lib.hid ((HB.out.setCell (p := ⟨b4, 0, none⟩) (by show w.heap.size ≤ b4; omega) (.int .u64 ((Hb.back ((Hb.num ah al) - (Hb.num bh bl))).1 : Nat))).setCell (p := ⟨b4, 1, none⟩) (by show w.heap.size ≤ b4; omega) (.int .u64 ((Hb.back ((Hb.num ah al) - (Hb.num bh bl))).2.1 : Nat)))
        generalize (w10.setCell ⟨b4, 0, none⟩ (.int .u64 ((Hb.back ((Hb.num ah al) - (Hb.num bh bl))).1 : Nat))).setCell ⟨b4, 1, none⟩ (.int .u64 ((Hb.back ((Hb.num ah al) - (Hb.num bh bl))).2.1 : Nat)) = w11 at HR HT HB ⊢
        have d0 := (blk_cell HR.out 0).trans rfl
        have d1 := (blk_cell HR.out 1).trans rfl
        have f0 := blk_frozen HR.out 0
        have f1 := blk_frozen HR.out 1
        have t0 := (blk_cell HT.out 0).trans rfl
        have t1 := (blk_cell HT.out 1).trans rfl
        have HRN := Lib.hid (blk_put (blk_put HR.out 0 (.int .u64 ((Hb.back ((Hb.num ah al) - (Hb.num bh bl))).1 : Nat)) rfl) 1 (.int .u64 ((Hb.back ((Hb.num ah al) - (Hb.num bh bl))).2.1 : Nat)) rfl)
        go_wp2
        refine bodyPost_ret (results_ct rfl _ _ b3 44 #[.int .u64 ((Hb.back ((Hb.num ah al) - (Hb.num bh bl))).1 : Nat), .int .u64 ((Hb.back ((Hb.num ah al) - (Hb.num bh bl))).2.1 : Nat)] (0, 0) _ (by rfl) HRN.out Try.underlying44 rfl (by rfl)) rfl ?_
        exact ⟨rfl, (HB.out.setCell (p := ⟨b3, 0, none⟩) (by show w.heap.size ≤ b3; omega) _).setCell (p := ⟨b3, 1, none⟩) (by show w.heap.size ≤ b3; omega) _⟩
    · skip
      have hlt4 := Lib.hid (blk_lt HR.out)
      have HT := Lib.hid (heap_alloc_new w5 (.cells #[.int .u64 0, .int .u64 0] 44))
      replace HA := Lib.hid (blk_alloc HA.out (.cells #[.int .u64 0, .int .u64 0] 44))
      replace HBB := Lib.hid (blk_alloc HBB.out (.cells #[.int .u64 0, .int .u64 0] 44))
      replace HR := Lib.hid (blk_alloc HR.out (.cells #[.int .u64 0, .int .u64 0] 44))
      replace HB := Lib.hid (below_alloc HB.out (.cells #[.int .u64 0, .int .u64 0] 44))
      refine event_step (w1 := w5.alloc (.cells #[.int .u64 0, .int .u64 0] 44)) (v := .pointer (some ⟨w5.heap.size, 0, none⟩)) (by rfl) (by go_simp) ?_
      refine hK.out _ _ ⟨(blk_cell HA.out 0).trans rfl, (blk_cell HA.out 1).trans rfl, (blk_cell HBB.out 0).trans rfl, (blk_cell HBB.out 1).trans rfl⟩ (fun hHeld => ?_)
      clear hK K
      refine norm_ (a' := ?_) ?_ ?_
      rotate_left
      · show Act.put _ (some 6) _ = _
        simp only [Act.put, List.setIfInBounds_toArray, List.set_cons_zero, List.set_cons_succ, i64_w, i32_w]
        rfl
      generalize w5.alloc (.cells #[.int .u64 0, .int .u64 0] 44) = w6 at HA HBB HR HB HT hHeld ⊢
      generalize w5.heap.size = b4 at hlt4 HT hHeld ⊢
      have hl4 := hlt4.out
      have hn1 : b1 ≠ b4 := by omega
      have hn2 : b2 ≠ b4 := by omega
      have hn3 : b3 ≠ b4 := by omega
      refine one_ (i := 1) (N := some 15) #[true, true, true, false, false, false, false, false, false, true, false, false] rfl rfl (one_of HT_.out (by kernel_rfl)) (by decide) (fun K hK => ?_)
      refine goes_ Try.func73 (by kernel_rfl) rfl #[.agg #[.int .u64 (ah : Int), .int .u64 (al : Int)]] (by rfl) rfl rfl (by (try simp only [List.map_toArray, List.map_cons, List.map_nil]); first | done | rfl) ?_
      refine (of.calls ah al HAH.out HAL.out w6).mono ?_
      rintro e w7 ⟨rfl, q1⟩
      refine ⟨_, rfl, ?_⟩
      replace HA := Lib.hid (blk_below HA.out q1)
      replace HBB := Lib.hid (blk_below HBB.out q1)
      replace HR := Lib.hid (blk_below HR.out q1)
      replace HT := Lib.hid (blk_below HT.out q1)
      replace HB := Lib.hid (below_step HB.out q1)
      clear q1
      refine hK.out _ _ ⟨(blk_cell HA.out 0).trans rfl, (blk_cell HA.out 1).trans rfl, (blk_cell HBB.out 0).trans rfl, (blk_cell HBB.out 1).trans rfl⟩ (fun hHeld => ?_)
      clear hK K
      refine norm_ (a' := ?_) ?_ ?_
      rotate_left
      · show Act.put _ (some 15) _ = _
        simp only [Act.put, List.setIfInBounds_toArray, List.set_cons_zero, List.set_cons_succ, i64_w, i32_w]
        rfl
      refine one_ (i := 3) (N := some 17) #[true, true, true, true, false, false, false, false, false, true, false, false] rfl rfl (one_of HT_.out (by kernel_rfl)) (by decide) (fun K hK => ?_)
      refine goes_ Try.func73 (by kernel_rfl) rfl #[.agg #[.int .u64 (bh : Int), .int .u64 (bl : Int)]] (by rfl) rfl rfl (by (try simp only [List.map_toArray, List.map_cons, List.map_nil]); first | done | rfl) ?_
      refine (of.calls bh bl HBH.out HBL.out w7).mono ?_
      rintro e w8 ⟨rfl, q1⟩
      refine ⟨_, rfl, ?_⟩
      replace HA := Lib.hid (blk_below HA.out q1)
      replace HBB := Lib.hid (blk_below HBB.out q1)
      replace HR := Lib.hid (blk_below HR.out q1)
      replace HT := Lib.hid (blk_below HT.out q1)
      replace HB := Lib.hid (below_step HB.out q1)
      clear q1
      refine hK.out _ _ ⟨(blk_cell HA.out 0).trans rfl, (blk_cell HA.out 1).trans rfl, (blk_cell HBB.out 0).trans rfl, (blk_cell HBB.out 1).trans rfl⟩ (fun hHeld => ?_)
      clear hK K
      refine norm_ (a' := ?_) ?_ ?_
      rotate_left
      · show Act.put _ (some 17) _ = _
        simp only [Act.put, List.setIfInBounds_toArray, List.set_cons_zero, List.set_cons_succ, i64_w, i32_w]
        rfl
      refine one_ (i := 4) (N := some 18) #[true, true, true, true, true, false, false, false, false, true, false, false] rfl rfl (one_of HT_.out (by kernel_rfl)) (by decide) (fun K hK => ?_)
      refine goes_ Try.func77 (by kernel_rfl) rfl #[.agg (arrB (Hb.num ah al).getLsbD), .agg (arrB (Hb.num bh bl).getLsbD)] (by rfl) rfl rfl (by (try simp only [List.map_toArray, List.map_cons, List.map_nil]); first | done | rfl) ?_
      refine (minus.calls (Hb.num ah al) (Hb.num bh bl) w8).mono ?_
      rintro e w9 ⟨rfl, q1⟩
      refine ⟨_, rfl, ?_⟩
      replace HA := Lib.hid (blk_below HA.out q1)
      replace HBB := Lib.hid (blk_below HBB.out q1)
      replace HR := Lib.hid (blk_below HR.out q1)
      replace HT := Lib.hid (blk_below HT.out q1)
      replace HB := Lib.hid (below_step HB.out q1)
      clear q1
      refine hK.out _ _ ⟨(blk_cell HA.out 0).trans rfl, (blk_cell HA.out 1).trans rfl, (blk_cell HBB.out 0).trans rfl, (blk_cell HBB.out 1).trans rfl⟩ (fun hHeld => ?_)
      clear hK K
      refine norm_ (a' := ?_) ?_ ?_
      rotate_left
      · show Act.put _ (some 18) _ = _
        simp only [Act.put, List.setIfInBounds_toArray, List.set_cons_zero, List.set_cons_succ, i64_w, i32_w]
        rfl
      refine one_ (i := 5) (N := some 19) #[true, true, true, true, true, true, false, false, false, true, false, false] rfl rfl (one_of HT_.out (by kernel_rfl)) (by decide) (fun K hK => ?_)
      refine goes_ Try.func78 (by kernel_rfl) rfl #[.agg (arrB ((Hb.num ah al) - (Hb.num bh bl)).getLsbD)] (by rfl) rfl rfl (by (try simp only [List.map_toArray, List.map_cons, List.map_nil]); first | done | rfl) ?_
      refine (back.calls ((Hb.num ah al) - (Hb.num bh bl)) w9).mono ?_
      rintro e w10 ⟨rfl, q1⟩
      refine ⟨_, rfl, ?_⟩
      replace HA := Lib.hid (blk_below HA.out q1)
      replace HBB := Lib.hid (blk_below HBB.out q1)
      replace HR := Lib.hid (blk_below HR.out q1)
      replace HT := Lib.hid (blk_below HT.out q1)
      replace HB := Lib.hid (below_step HB.out q1)
      clear q1
      refine hK.out _ _ ⟨(blk_cell HA.out 0).trans rfl, (blk_cell HA.out 1).trans rfl, (blk_cell HBB.out 0).trans rfl, (blk_cell HBB.out 1).trans rfl⟩ (fun hHeld => ?_)
      clear hK K
      refine norm_ (a' := ?_) ?_ ?_
      rotate_left
      · show Act.put _ (some 19) _ = _
        simp only [Act.put, List.setIfInBounds_toArray, List.set_cons_zero, List.set_cons_succ, i64_w, i32_w]
        rfl
      refine pure_ (i := 6) (N := some 13) (v := ?_) (a' := ?_) #[true, true, true, true, true, true, true, false, false, true, false, false] rfl rfl (any_of HT_.out (by kernel_rfl)) (fun _ _ _ h => h) (Or.inl ⟨by rfl, ?_⟩) ?_ ?_
      rotate_left
      · intro w'
        go_simp
        with_reducible rfl
      rotate_left
      · simp only [Act.put, List.setIfInBounds_toArray, List.set_cons_zero, List.set_cons_succ, i64_w, i32_w]
        rfl
      refine pure_ (i := 7) (N := some 20) (v := ?_) (a' := ?_) #[true, true, true, true, true, true, true, true, false, true, false, false] rfl rfl (any_of HT_.out (by kernel_rfl)) (fun _ _ _ h => h) (Or.inl ⟨by rfl, ?_⟩) ?_ ?_
      rotate_left
      · intro w'
        go_simp
        with_reducible rfl
      rotate_left
      · simp only [Act.put, List.setIfInBounds_toArray, List.set_cons_zero, List.set_cons_succ, i64_w, i32_w]
        rfl
      refine pure_ (i := 8) (N := some 21) (v := ?_) (a' := ?_) #[true, true, true, true, true, true, true, true, true, true, false, false] rfl rfl (any_of HT_.out (by kernel_rfl)) (fun _ _ _ h => h) (Or.inl ⟨by rfl, ?_⟩) ?_ ?_
      rotate_left
      · intro w'
        go_simp
        with_reducible rfl
      rotate_left
      · simp only [Act.put, List.setIfInBounds_toArray, List.set_cons_zero, List.set_cons_succ, i64_w, i32_w]
        rfl
      refine one_ (i := 10) (N := none) #[true, true, true, true, true, true, true, true, true, true, true, false] rfl rfl (one_of HT_.out (by kernel_rfl)) (by decide) (fun K hK => ?_)
      have d0 := (blk_cell HT.out 0).trans rfl
      have d1 := (blk_cell HT.out 1).trans rfl
      have f0 := blk_frozen HT.out 0
      have f1 := blk_frozen HT.out 1
      refine skip_ (w1 := ?_) (by rfl) rfl ?_ ?_
      rotate_left
      · go_simp
        rfl
      refine hK.out _ _ ⟨(blk_cell (blk_off (blk_off HA.out hn1 _ _) hn1 _ _) 0).trans rfl, (blk_cell (blk_off (blk_off HA.out hn1 _ _) hn1 _ _) 1).trans rfl, (blk_cell (blk_off (blk_off HBB.out hn2 _ _) hn2 _ _) 0).trans rfl, (blk_cell (blk_off (blk_off HBB.out hn2 _ _) hn2 _ _) 1).trans rfl⟩ (fun hHeld => ?_)
      clear hK K
      refine pure_ (i := 11) (N := some 7) (v := ?_) (a' := ?_) #[true, true, true, true, true, true, true, true, true, true, true, true] rfl rfl (any_of HT_.out (by kernel_rfl)) (fun _ _ _ h => h) (Or.inl ⟨by rfl, ?_⟩) ?_ ?_
      rotate_left
      · intro w'
        go_simp
        with_reducible rfl
      rotate_left
      · simp only [Act.put, List.setIfInBounds_toArray, List.set_cons_zero, List.set_cons_succ, i64_w, i32_w]
        rfl
      refine done_ (done_of HT_.out (by kernel_rfl)) ?_
      clear hHeld d0 d1 f0 f1
      replace HR := Lib.hid (blk_off (blk_off HR.out hn3 0 (.int .u64 ((Hb.back ((Hb.num ah al) - (Hb.num bh bl))).1 : Nat))) hn3 1 (.int .u64 ((Hb.back ((Hb.num ah al) - (Hb.num bh bl))).2.1 : Nat)))
      replace HT := Lib.hid (blk_put (blk_put HT.out 0 (.int .u64 ((Hb.back ((Hb.num ah al) - (Hb.num bh bl))).1 : Nat)) rfl) 1 (.int .u64 ((Hb.back ((Hb.num ah al) - (Hb.num bh bl))).2.1 : Nat)) rfl)
      replace HB := Lib.hid ((HB.out.setCell (p := ⟨b4, 0, none⟩) (by show w.heap.size ≤ b4; omega) (.int .u64 ((Hb.back ((Hb.num ah al) - (Hb.num bh bl))).1 : Nat))).setCell (p := ⟨b4, 1, none⟩) (by show w.heap.size ≤ b4; omega) (.int .u64 ((Hb.back ((Hb.num ah al) - (Hb.num bh bl))).2.1 : Nat)))
      generalize (w10.setCell ⟨b4, 0, none⟩ (.int .u64 ((Hb.back ((Hb.num ah al) - (Hb.num bh bl))).1 : Nat))).setCell ⟨b4, 1, none⟩ (.int .u64 ((Hb.back ((Hb.num ah al) - (Hb.num bh bl))).2.1 : Nat)) = w11 at HR HT HB ⊢
      have d0 := (blk_cell HR.out 0).trans rfl
      have d1 := (blk_cell HR.out 1).trans rfl
      have f0 := blk_frozen HR.out 0
      have f1 := blk_frozen HR.out 1
      have t0 := (blk_cell HT.out 0).trans rfl
      have t1 := (blk_cell HT.out 1).trans rfl
      have HRN := Lib.hid (blk_put (blk_put HR.out 0 (.int .u64 ((Hb.back ((Hb.num ah al) - (Hb.num bh bl))).1 : Nat)) rfl) 1 (.int .u64 ((Hb.back ((Hb.num ah al) - (Hb.num bh bl))).2.1 : Nat)) rfl)
      go_wp2
      refine bodyPost_ret (results_ct rfl _ _ b3 44 #[.int .u64 ((Hb.back ((Hb.num ah al) - (Hb.num bh bl))).1 : Nat), .int .u64 ((Hb.back ((Hb.num ah al) - (Hb.num bh bl))).2.1 : Nat)] (0, 0) _ (by rfl) HRN.out Try.underlying44 rfl (by rfl)) rfl ?_
      exact ⟨rfl, (HB.out.setCell (p := ⟨b3, 0, none⟩) (by show w.heap.size ≤ b3; omega) _).setCell (p := ⟨b3, 1, none⟩) (by show w.heap.size ≤ b3; omega) _⟩
set_option maxHeartbeats 8000000 in
set_option maxRecDepth 100000 in
theorem mulW.calls (a b : Nat) (ha : a < 18446744073709551616) (hb : b < 18446744073709551616) (w : World) : Calls Try.prog 58 #[.int .u64 (a : Int), .int .u64 (b : Int)] w fun e w' => e = .returned (.agg #[.int .u64 ((Hb.back (Hb.part (Hb.num 0 a) (Hb.num 0 b) 128)).1 : Nat), .int .u64 ((Hb.back (Hb.part (Hb.num 0 a) (Hb.num 0 b) 128)).2.1 : Nat)]) ∧ Below w.heap.size w w' := by
  have HAA := Lib.hid ha
  have HBB := Lib.hid hb
  clear ha hb
  go_enter Try.func58, Try.ntmps58
  go_wp2_with fail
  obtain ⟨W, hW⟩ : ∃ W, w.alloc (.cells #[.int .u64 0, .int .u64 0] 44) = W := ⟨_, rfl⟩
  have HR : Hid (W.heap[w.heap.size]? = some (.cells #[.int .u64 0, .int .u64 0] 44 (0, 0))) := by rw [← hW]; exact heap_alloc_new w _
  have HB : Hid (Below w.heap.size w W) := by rw [← hW]; exact below_alloc (Below.refl _ _) _
  rw [hW]
  clear hW
  obtain ⟨b1, h1⟩ : ∃ b, w.heap.size = b := ⟨_, rfl⟩
  rw [h1] at HR ⊢
  go_wp2_with (first
    | (go_at_call 74; refine (one.calls a HAA.out _).mono ?_; rintro e w1 ⟨rfl, q1⟩; replace HR := Lib.hid (blk_below HR.out q1); replace HB := Lib.hid (below_step HB.out q1); clear q1)
    | (go_at_call 74; refine (one.calls b HBB.out _).mono ?_; rintro e w2 ⟨rfl, q1⟩; replace HR := Lib.hid (blk_below HR.out q1); replace HB := Lib.hid (below_step HB.out q1); clear q1)
    | (go_at_call 81; refine (times.calls _ _ _).mono ?_; rintro e w3 ⟨rfl, q1⟩; replace HR := Lib.hid (blk_below HR.out q1); replace HB := Lib.hid (below_step HB.out q1); clear q1)
    | (go_at_call 78; refine (back.calls _ _).mono ?_; rintro e w4 ⟨rfl, q1⟩; replace HR := Lib.hid (blk_below HR.out q1); replace HB := Lib.hid (below_step HB.out q1); clear q1; have d0 := (blk_cell HR.out 0).trans rfl; have d1 := (blk_cell HR.out 1).trans rfl; have f0 := blk_frozen HR.out 0; have f1 := blk_frozen HR.out 1; have hlt := blk_lt HR.out; have hne : ¬ b1 = w4.heap.size := (by omega); have hne2 : ¬ w4.heap.size = b1 := (by omega)))
  have HRN := Lib.hid (blk_alloc (blk_put (blk_put HR.out 0 (.int .u64 ((Hb.back (Hb.part (Hb.num 0 a) (Hb.num 0 b) 128)).1 : Nat)) rfl) 1 (.int .u64 ((Hb.back (Hb.part (Hb.num 0 a) (Hb.num 0 b) 128)).2.1 : Nat)) rfl) (.cells #[.int .u64 ((Hb.back (Hb.part (Hb.num 0 a) (Hb.num 0 b) 128)).1 : Nat), .int .u64 ((Hb.back (Hb.part (Hb.num 0 a) (Hb.num 0 b) 128)).2.1 : Nat)] 44))
  refine bodyPost_ret (results_cell_row rfl _ _ b1 44 _ (0, 0) _ (by rfl) HRN.out Try.underlying44 rfl (by rfl)) rfl ⟨rfl, ?_⟩
  exact below_alloc ((HB.out.setCell (p := ⟨b1, 0, none⟩) (by show w.heap.size ≤ b1; omega) _).setCell (p := ⟨b1, 1, none⟩) (by show w.heap.size ≤ b1; omega) _) _
/-- A number back in two halves; false: it needs more than 128 bits. -/
def backI (n : Int) : Int × Int × Bool := if n < 340282366920938463463374607431768211456 then (n / 18446744073709551616, n % 18446744073709551616, true) else (0, 0, false)
theorem back_is {x : Hb.B} {n : Int} (h : (x.toNat : Int) = n) : (((Hb.back x).1 : Nat) : Int) = (backI n).1 ∧ (((Hb.back x).2.1 : Nat) : Int) = (backI n).2.1 ∧ (Hb.back x).2.2 = (backI n).2.2 := by
  unfold Hb.back backI
  obtain ⟨m, hm⟩ : ∃ m, x.toNat = m := ⟨_, rfl⟩
  rw [hm] at h ⊢
  by_cases c : m < 2 ^ 128
  · rw [if_pos c, if_pos (by omega)]
    refine ⟨?_, ?_, rfl⟩
    · show ((m / 18446744073709551616 : Nat) : Int) = n / 18446744073709551616
      omega
    · show ((m % 18446744073709551616 : Nat) : Int) = n % 18446744073709551616
      omega
  · rw [if_neg c, if_neg (by omega)]
    exact ⟨rfl, rfl, rfl⟩
theorem add_int {x y : Hb.B} {n m : Int} (h : (x.toNat : Int) = n) (h2 : (y.toNat : Int) = m) (h3 : n < 340282366920938463463374607431768211456) (h4 : m < 340282366920938463463374607431768211456) : ((x + y).toNat : Int) = n + m := by
  rw [BitVec.toNat_add, Nat.mod_eq_of_lt]
  · omega
  · have : (340282366920938463463374607431768211456 : Nat) + 340282366920938463463374607431768211456 < 2 ^ 256 := by decide
    omega
theorem sub_int {x y : Hb.B} {n m : Int} (h : (x.toNat : Int) = n) (h2 : (y.toNat : Int) = m) (h3 : m ≤ n) : ((x - y).toNat : Int) = n - m := by
  rw [BitVec.toNat_sub_of_le (by rw [BitVec.le_def]; omega)]; omega
/-- What is left of the upper places of a number, divided, and the whole part's upper places. -/
def natB (n : Nat) : Hb.B := BitVec.ofNat 256 n
def restD (x d j : Nat) : Hb.B := natB (x / 2 ^ j % d)
def quoD (x d j : Nat) : Hb.B := natB (x / 2 ^ j / d * 2 ^ j)
theorem natB_bit (n i : Nat) : (natB n).getLsbD i = (decide (i < 256) && n.testBit i) := by
  unfold natB; rw [BitVec.getLsbD_ofNat]
theorem natB_toNat {n : Nat} (h : n < 2 ^ 256) : (natB n).toNat = n := by
  unfold natB; rw [BitVec.toNat_ofNat, Nat.mod_eq_of_lt h]
theorem natB_num (hi lo : Nat) : Hb.num hi lo = natB (hi * 18446744073709551616 + lo) := rfl
/-- One place more, the lowest. -/
theorem low_bit (n : Nat) (b : Bool) : (fun k => if k = 0 then b else (natB n <<< 1).getLsbD k) = (natB (2 * n + b.toNat)).getLsbD := by
  funext k
  rw [natB_bit]
  cases k with
  | zero =>
    rw [if_pos rfl]
    cases b
    · have : (2 * n + Bool.toNat false).testBit 0 = false := by rw [Nat.testBit_zero]; simp
      rw [this]; rfl
    · have : (2 * n + Bool.toNat true).testBit 0 = true := by rw [Nat.testBit_zero]; simp
      rw [this]; rfl
  | succ k =>
    rw [if_neg (by omega), BitVec.getLsbD_shiftLeft, natB_bit, Nat.testBit_succ]
    have e : (2 * n + b.toNat) / 2 = n := by cases b <;> simp <;> omega
    rw [e]
    by_cases h : k + 1 < 256
    · have h2 : k < 256 := by omega
      simp [h, h2]
    · simp [h]
theorem set_bit (m : Nat) {i : Nat} (hi : i < 256) : (fun k => if k = i then true else (natB (m * 2 ^ (i + 1))).getLsbD k) = (natB (m * 2 ^ (i + 1) + 2 ^ i)).getLsbD := by
  funext k
  have e1 : m * 2 ^ (i + 1) = 2 ^ i * (2 * m) := by rw [Nat.pow_succ, Nat.mul_comm m, Nat.mul_assoc]
  have e2 : m * 2 ^ (i + 1) + 2 ^ i = 2 ^ i * (2 * m + 1) := by rw [e1, Nat.mul_add, Nat.mul_one]
  rw [natB_bit, natB_bit, e2, e1, Nat.testBit_two_pow_mul, Nat.testBit_two_pow_mul]
  by_cases h : k = i
  · subst h
    rw [if_pos rfl]
    have : (2 * m + 1).testBit (k - k) = true := by rw [Nat.sub_self, Nat.testBit_zero]; simp
    simp [hi]
  · rw [if_neg h]
    by_cases h2 : i ≤ k
    · obtain ⟨c, hc⟩ : ∃ c, k - i = c + 1 := ⟨k - i - 1, by omega⟩
      rw [hc, Nat.testBit_succ, Nat.testBit_succ, show (2 * m + 1) / 2 = m by omega, show 2 * m / 2 = m by omega]
    · simp [h2]
theorem natB_sub {a d : Nat} (h : d ≤ a) (ha : a < 2 ^ 256) : natB a - natB d = natB (a - d) := by
  apply BitVec.eq_of_toNat_eq
  rw [BitVec.toNat_sub_of_le (by rw [BitVec.le_def, natB_toNat ha, natB_toNat (by omega)]; exact h), natB_toNat ha, natB_toNat (by omega), natB_toNat (by omega)]
theorem half_is (x i : Nat) : x / 2 ^ i = 2 * (x / 2 ^ (i + 1)) + (x.testBit i).toNat := by
  rw [Nat.pow_succ, ← Nat.div_div_eq_div_mul, Nat.testBit_eq_decide_div_mod_eq]
  rcases Nat.mod_two_eq_zero_or_one (x / 2 ^ i) with h | h <;> rw [h] <;> simp <;> omega
theorem div_more {X Q r d b : Nat} (h : X = d * Q + r) (hd : d ≤ 2 * r + b) (hr : r < d) (hb : b ≤ 1) : (2 * X + b) / d = 2 * Q + 1 ∧ (2 * X + b) % d = 2 * r + b - d := by
  have e : 2 * X + b = (2 * r + b - d) + (2 * Q + 1) * d := by rw [h, Nat.add_mul, Nat.mul_comm (2 * Q) d, Nat.one_mul, Nat.mul_left_comm d 2 Q]; omega
  rw [e, Nat.add_mul_div_right _ _ (by omega), Nat.add_mul_mod_self_right, Nat.div_eq_of_lt (by omega), Nat.mod_eq_of_lt (by omega)]
  exact ⟨by omega, rfl⟩
theorem div_same {X Q r d b : Nat} (h : X = d * Q + r) (hd : 2 * r + b < d) : (2 * X + b) / d = 2 * Q ∧ (2 * X + b) % d = 2 * r + b := by
  have e : 2 * X + b = (2 * r + b) + (2 * Q) * d := by rw [h, Nat.mul_comm (2 * Q) d, Nat.mul_left_comm d 2 Q]; omega
  rw [e, Nat.add_mul_div_right _ _ (by omega), Nat.add_mul_mod_self_right, Nat.div_eq_of_lt hd, Nat.mod_eq_of_lt hd]
  exact ⟨by omega, rfl⟩
/-- A step: what is left, and the whole part. -/
theorem step_more {x d i : Nat} (hd0 : 0 < d) (h : d ≤ 2 * (x / 2 ^ (i + 1) % d) + (x.testBit i).toNat) : 2 * (x / 2 ^ (i + 1) % d) + (x.testBit i).toNat - d = x / 2 ^ i % d ∧ x / 2 ^ (i + 1) / d * 2 ^ (i + 1) + 2 ^ i = x / 2 ^ i / d * 2 ^ i := by
  have hb : (x.testBit i).toNat ≤ 1 := by cases x.testBit i <;> simp
  have hr := Nat.mod_lt (x / 2 ^ (i + 1)) hd0
  obtain ⟨e1, e2⟩ := div_more (Nat.div_add_mod (x / 2 ^ (i + 1)) d).symm h hr hb
  rw [← half_is] at e1 e2
  refine ⟨e2.symm, ?_⟩
  rw [e1, Nat.add_mul, Nat.one_mul, Nat.pow_succ, Nat.mul_comm 2, Nat.mul_assoc, Nat.mul_comm 2]
theorem step_same {x d i : Nat} (h : 2 * (x / 2 ^ (i + 1) % d) + (x.testBit i).toNat < d) : 2 * (x / 2 ^ (i + 1) % d) + (x.testBit i).toNat = x / 2 ^ i % d ∧ x / 2 ^ (i + 1) / d * 2 ^ (i + 1) = x / 2 ^ i / d * 2 ^ i := by
  obtain ⟨e1, e2⟩ := div_same (Nat.div_add_mod (x / 2 ^ (i + 1)) d).symm h
  rw [← half_is] at e1 e2
  refine ⟨e2.symm, ?_⟩
  rw [e1, Nat.pow_succ, Nat.mul_comm 2, Nat.mul_assoc, Nat.mul_comm 2]
theorem zero_bits : (natB 0).getLsbD = fun _ => false := by funext i; rw [natB_bit]; simp
theorem restD_start {x d : Nat} (h : x < 2 ^ 128) : (restD x d 128).getLsbD = fun _ => false := by unfold restD; rw [Nat.div_eq_of_lt h, Nat.zero_mod]; exact zero_bits
theorem quoD_start {x d : Nat} (h : x < 2 ^ 128) : (quoD x d 128).getLsbD = fun _ => false := by unfold quoD; rw [Nat.div_eq_of_lt h, Nat.zero_div, Nat.zero_mul]; exact zero_bits
theorem quoD_end {x d : Nat} (h : x < 2 ^ 128) : Hb.back (quoD x d 0) = (x / d / 18446744073709551616, x / d % 18446744073709551616, true) := by
  have h1 : x / d < 2 ^ 128 := Nat.lt_of_le_of_lt (Nat.div_le_self _ _) h
  unfold Hb.back quoD
  rw [Nat.pow_zero, Nat.div_one, Nat.mul_one, natB_toNat (Nat.lt_trans h1 (by decide)), if_pos h1]
theorem restD_end {x d : Nat} (h : x < 2 ^ 128) (hd0 : 0 < d) (hd : d < 18446744073709551616) : Hb.back (restD x d 0) = (x % d / 18446744073709551616, x % d, true) := by
  have h1 := Nat.mod_lt x hd0
  have h2 : x % d < 18446744073709551616 := Nat.lt_trans h1 hd
  have h3 : x % d < 2 ^ 128 := Nat.lt_trans h2 (by decide)
  unfold Hb.back restD
  rw [Nat.pow_zero, Nat.div_one, natB_toNat (Nat.lt_trans h3 (by decide)), if_pos h3, Nat.mod_eq_of_lt h2]
set_option maxHeartbeats 8000000 in
set_option maxRecDepth 100000 in
theorem divZero.calls (ah al : Nat) (w : World) : Calls Try.prog 36 #[.agg #[.int .u64 (ah : Int), .int .u64 (al : Int)], .int .u64 0] w fun e w' => e = .returned (.agg #[.int .u64 0, .int .u64 0, .int .u64 0, .bool false]) ∧ Below w.heap.size w w' := by
  go_enter Try.func36, Try.ntmps36
  go_wp2
  refine bodyPost_ret (results_cell_row rfl _ _ (w.heap.size + 1) 49 _ (0, 0) _ (by rfl) (by have := heap_alloc_new (w.alloc (.cells #[.int .u64 (ah : Int), .int .u64 (al : Int)] 44)) (.cells #[.int .u64 0, .int .u64 0, .int .u64 0, .bool false] 49); simp only [World.size_alloc] at this; exact this) Try.underlying49 rfl (by rfl)) rfl ⟨rfl, ?_⟩
  exact below_alloc (below_alloc (Below.refl _ _) _) _
set_option maxHeartbeats 8000000 in
set_option maxRecDepth 100000 in
theorem divW.calls (ah al d : Nat) (hah : ah < 18446744073709551616) (hal : al < 18446744073709551616) (hd : d < 18446744073709551616) (hd0 : 0 < d) (w : World) : Calls Try.prog 36 #[.agg #[.int .u64 (ah : Int), .int .u64 (al : Int)], .int .u64 (d : Int)] w fun e w' => e = .returned (.agg #[.int .u64 (((ah * 18446744073709551616 + al) / d / 18446744073709551616 : Nat) : Int), .int .u64 (((ah * 18446744073709551616 + al) / d % 18446744073709551616 : Nat) : Int), .int .u64 (((ah * 18446744073709551616 + al) % d : Nat) : Int), .bool true]) ∧ Below w.heap.size w w' := by
  have HAH := Lib.hid hah
  have HAL := Lib.hid hal
  have HDL := Lib.hid hd
  have HD0 := Lib.hid hd0
  have hdn : ¬ (d : Int) = 0 := by omega
  have hdz : ((d : Int) == 0) = false := by simp; omega
  clear hah hal hd hd0
  obtain ⟨qh, hqh⟩ : ∃ n, (ah * 18446744073709551616 + al) / d / 18446744073709551616 = n := ⟨_, rfl⟩
  obtain ⟨ql, hql⟩ : ∃ n, (ah * 18446744073709551616 + al) / d % 18446744073709551616 = n := ⟨_, rfl⟩
  obtain ⟨rm, hrm⟩ : ∃ n, (ah * 18446744073709551616 + al) % d = n := ⟨_, rfl⟩
  obtain ⟨rh, hrh⟩ : ∃ n, rm / 18446744073709551616 = n := ⟨_, rfl⟩
  rw [hqh, hql, hrm]
  have HQH := Lib.hid hqh
  have HQL := Lib.hid hql
  have HRM := Lib.hid hrm
  have HRH := Lib.hid hrh
  clear hqh hql hrm hrh
  go_enter Try.func36, Try.ntmps36
  go_wp2_with fail
  obtain ⟨W, hW⟩ : ∃ W, (w.alloc (.cells #[.int .u64 (ah : Int), .int .u64 (al : Int)] 44)).alloc (.cells #[.int .u64 0, .int .u64 0, .int .u64 0, .bool false] 49) = W := ⟨_, rfl⟩
  have HQU : Hid (W.heap[w.heap.size + 1]? = some (.cells #[.int .u64 0, .int .u64 0, .int .u64 0, .bool false] 49 (0, 0))) := by rw [← hW]; have := heap_alloc_new (w.alloc (.cells #[.int .u64 (ah : Int), .int .u64 (al : Int)] 44)) (.cells #[.int .u64 0, .int .u64 0, .int .u64 0, .bool false] 49); simp only [World.size_alloc] at this; exact this
  have HB : Hid (Below w.heap.size w W) := by rw [← hW]; exact below_alloc (below_alloc (Below.refl _ _) _) _
  rw [hW]
  clear hW
  obtain ⟨b2, hb2⟩ : ∃ b, w.heap.size + 1 = b := ⟨_, rfl⟩
  rw [hb2] at HQU ⊢
  go_wp2_with (go_at_call 73; refine (of.calls ah al HAH.out HAL.out _).mono ?_; rintro e w5 ⟨rfl, q1⟩; replace HQU := Lib.hid (blk_below HQU.out q1); replace HB := Lib.hid (below_step HB.out q1); clear q1; have hz : (w5.alloc (.cells Try.zeroCells111 111)).heap[w5.heap.size]? = some (.cells (arrB (fun _ => false)) 111 (0, 0)) := (by rw [← zeroB]; exact heap_alloc_new _ _); have hst := storeB (f := (Hb.num ah al).getLsbD) hz; have hsz := arrB_size (Hb.num ah al).getLsbD)
  clear hsz
  have hz1 := setRow_heap _ _ _ (arrB (Hb.num ah al).getLsbD) _ _ hz
  have hs1 : ((w5.alloc (.cells Try.zeroCells111 111)).setRow w5.heap.size (arrB (Hb.num ah al).getLsbD)).heap.size = w5.heap.size + 1 := by simp [World.setRow]
  have hx := HB.out.size
  have hq := blk_lt HQU.out
  have HXL := Lib.hid (show (ah * 18446744073709551616 + al) < 2 ^ 128 by have := HAH.out; have := HAL.out; omega)
  obtain ⟨V, hV⟩ : ∃ V, (((w5.alloc (.cells Try.zeroCells111 111)).setRow w5.heap.size (arrB (Hb.num ah al).getLsbD)).alloc (.cells Try.zeroCells111 111)).alloc (.cells Try.zeroCells111 111) = V := ⟨_, rfl⟩
  have HX : Hid (V.heap[w5.heap.size]? = some (.cells (arrB (Hb.num ah al).getLsbD) 111 (0, 0))) := by rw [← hV]; exact blk_alloc (blk_alloc hz1 _) _
  have HRS : Hid (V.heap[w5.heap.size + 1]? = some (.cells (arrB (restD (ah * 18446744073709551616 + al) d 128).getLsbD) 111 (0, 0))) := by rw [← hV, restD_start HXL.out, ← zeroB]; have := blk_alloc (heap_alloc_new ((w5.alloc (.cells Try.zeroCells111 111)).setRow w5.heap.size (arrB (Hb.num ah al).getLsbD)) (.cells Try.zeroCells111 111)) (.cells Try.zeroCells111 111); rw [hs1] at this; exact this
  have HQO : Hid (V.heap[w5.heap.size + 1 + 1]? = some (.cells (arrB (quoD (ah * 18446744073709551616 + al) d 128).getLsbD) 111 (0, 0))) := by rw [← hV, quoD_start HXL.out, ← zeroB]; have := heap_alloc_new (((w5.alloc (.cells Try.zeroCells111 111)).setRow w5.heap.size (arrB (Hb.num ah al).getLsbD)).alloc (.cells Try.zeroCells111 111)) (.cells Try.zeroCells111 111); rw [World.size_alloc, hs1] at this; exact this
  replace HQU : Hid (V.heap[b2]? = some (.cells #[.int .u64 0, .int .u64 0, .int .u64 0, .bool false] 49 (0, 0))) := by rw [← hV]; exact blk_alloc (blk_alloc ((setRow_other _ _ _ _ (by omega)).trans (blk_alloc HQU.out _)) _) _
  replace HB : Hid (Below w.heap.size w V) := by rw [← hV]; exact below_alloc (below_alloc (below_row (below_alloc HB.out _) hx _) _) _
  rw [hV]
  clear hst hz hz1 hs1 hV
  obtain ⟨b5, hb5⟩ : ∃ b, w5.heap.size = b := ⟨_, rfl⟩
  obtain ⟨b6, hb6⟩ : ∃ b, b5 + 1 = b := ⟨_, rfl⟩
  obtain ⟨b7, hb7⟩ : ∃ b, b6 + 1 = b := ⟨_, rfl⟩
  rw [hb5] at HX HRS HQO hx hq ⊢
  rw [hb6] at HRS HQO ⊢
  rw [hb7] at HQO ⊢
  clear hb5
  go_wp2_with (go_at_call 74; refine (one.calls d HDL.out _).mono ?_; rintro e w6 ⟨rfl, q1⟩; replace HX := Lib.hid (blk_below HX.out q1); replace HRS := Lib.hid (blk_below HRS.out q1); replace HQO := Lib.hid (blk_below HQO.out q1); replace HQU := Lib.hid (blk_below HQU.out q1); replace HB := Lib.hid (below_step HB.out q1); clear q1; have hz : (w6.alloc (.cells Try.zeroCells111 111)).heap[w6.heap.size]? = some (.cells (arrB (fun _ => false)) 111 (0, 0)) := (by rw [← zeroB]; exact heap_alloc_new _ _); have hst := storeB (f := (Hb.num 0 d).getLsbD) hz; have hsz := arrB_size (Hb.num 0 d).getLsbD)
  clear hsz
  have hz1 := setRow_heap _ _ _ (arrB (Hb.num 0 d).getLsbD) _ _ hz
  have hq7 := blk_lt HQO.out
  obtain ⟨V, hV⟩ : ∃ V, (w6.alloc (.cells Try.zeroCells111 111)).setRow w6.heap.size (arrB (Hb.num 0 d).getLsbD) = V := ⟨_, rfl⟩
  have HBY : Hid (V.heap[w6.heap.size]? = some (.cells (arrB (Hb.num 0 d).getLsbD) 111 (0, 0))) := by rw [← hV]; exact hz1
  replace HX : Hid (V.heap[b5]? = some (.cells (arrB (Hb.num ah al).getLsbD) 111 (0, 0))) := by rw [← hV]; exact (setRow_other _ _ _ _ (by omega)).trans (blk_alloc HX.out _)
  replace HRS : Hid (V.heap[b6]? = some (.cells (arrB (restD (ah * 18446744073709551616 + al) d 128).getLsbD) 111 (0, 0))) := by rw [← hV]; exact (setRow_other _ _ _ _ (by omega)).trans (blk_alloc HRS.out _)
  replace HQO : Hid (V.heap[b7]? = some (.cells (arrB (quoD (ah * 18446744073709551616 + al) d 128).getLsbD) 111 (0, 0))) := by rw [← hV]; exact (setRow_other _ _ _ _ (by omega)).trans (blk_alloc HQO.out _)
  replace HQU : Hid (V.heap[b2]? = some (.cells #[.int .u64 0, .int .u64 0, .int .u64 0, .bool false] 49 (0, 0))) := by rw [← hV]; exact (setRow_other _ _ _ _ (by omega)).trans (blk_alloc HQU.out _)
  replace HB : Hid (Below w.heap.size w V) := by rw [← hV]; exact below_row (below_alloc HB.out _) (by omega) _
  rw [hV]
  clear hst hz hz1 hV
  obtain ⟨b8, hb8⟩ : ∃ b, w6.heap.size = b := ⟨_, rfl⟩
  rw [hb8] at HBY hq7 ⊢
  clear hb8
  have hn1 : b2 < b5 := by omega
  have hn2 : w.heap.size ≤ b2 := by omega
  clear hx hq hb2
  have HBQ : Hid (∀ W, Calls Try.prog 78 #[.agg (arrB (quoD (ah * 18446744073709551616 + al) d 0).getLsbD)] W fun e w' => e = .returned (.tuple #[.agg #[.int .u64 (qh : Int), .int .u64 (ql : Int)], .bool true]) ∧ Below W.heap.size W w') := Lib.hid (fun W => by have := back.calls (quoD (ah * 18446744073709551616 + al) d 0) W; rw [quoD_end HXL.out, HQH.out, HQL.out] at this; exact this)
  have HBR : Hid (∀ W, Calls Try.prog 78 #[.agg (arrB (restD (ah * 18446744073709551616 + al) d 0).getLsbD)] W fun e w' => e = .returned (.tuple #[.agg #[.int .u64 (rh : Int), .int .u64 (rm : Int)], .bool true]) ∧ Below W.heap.size W w') := Lib.hid (fun W => by have := back.calls (restD (ah * 18446744073709551616 + al) d 0) W; rw [restD_end HXL.out HD0.out HDL.out, HRM.out, HRH.out] at this; exact this)
  have HBIT : Hid (∀ j, (Hb.num ah al).getLsbD j = (ah * 18446744073709551616 + al).testBit j) := Lib.hid (fun j => by show (Hb.num ah al).toNat.testBit j = _; rw [Hb.num_toNat HAH.out HAL.out])
  go_loopg [9] 130 (fun k v9 wr => ∃ (j : Nat), v9 = .int .i64 ((j : Int) - 1) ∧ j ≤ 128 ∧ j + 1 < k ∧ Hid (wr.heap[b5]? = some (.cells (arrB (Hb.num ah al).getLsbD) 111 (0, 0))) ∧ Hid (wr.heap[b6]? = some (.cells (arrB (restD (ah * 18446744073709551616 + al) d j).getLsbD) 111 (0, 0))) ∧ Hid (wr.heap[b7]? = some (.cells (arrB (quoD (ah * 18446744073709551616 + al) d j).getLsbD) 111 (0, 0))) ∧ Hid (wr.heap[b8]? = some (.cells (arrB (Hb.num 0 d).getLsbD) 111 (0, 0))) ∧ Hid (wr.heap[b2]? = some (.cells #[.int .u64 0, .int .u64 0, .int .u64 0, .bool false] 49 (0, 0))) ∧ Hid (Below w.heap.size w wr))
  case atStart => exact ⟨128, rfl, by omega, by omega, HX, HRS, HQO, HBY, HQU, HB⟩
  case round =>
    clear HX HRS HQO HBY HQU HB
    obtain ⟨j, rfl, hj, hk, HX, HRS, HQO, HBY, HQU, HB⟩ := hrel
    cases j with
    | zero =>
      go_wp2
      refine wp_load_row 111 (.tmp 7) rfl b7 (by rfl) 111 _ (0, 0) _ HQO.out Try.underlying111 rfl (by rfl) ?_
      go_wp2_with (go_at_call 78; refine (HBQ.out _).mono ?_; rintro e w9 ⟨rfl, q1⟩; replace HX := Lib.hid (blk_below HX.out q1); replace HRS := Lib.hid (blk_below HRS.out q1); replace HQO := Lib.hid (blk_below HQO.out q1); replace HBY := Lib.hid (blk_below HBY.out q1); replace HQU := Lib.hid (blk_below HQU.out q1); replace HB := Lib.hid (below_step HB.out q1); clear q1)
      have HT := Lib.hid (heap_alloc_new w9 (.cells #[.int .u64 (qh : Int), .int .u64 (ql : Int)] 44))
      replace HRS := Lib.hid (blk_alloc HRS.out (.cells #[.int .u64 (qh : Int), .int .u64 (ql : Int)] 44))
      have hq2 := blk_lt HQU.out
      replace HQU := Lib.hid (blk_alloc HQU.out (.cells #[.int .u64 (qh : Int), .int .u64 (ql : Int)] 44))
      replace HB := Lib.hid (below_alloc HB.out (.cells #[.int .u64 (qh : Int), .int .u64 (ql : Int)] 44))
      obtain ⟨W, hW⟩ : ∃ W, w9.alloc (.cells #[.int .u64 (qh : Int), .int .u64 (ql : Int)] 44) = W := ⟨_, rfl⟩
      obtain ⟨b10, hb10⟩ : ∃ b, w9.heap.size = b := ⟨_, rfl⟩
      rw [hW] at HT HRS HQU HB ⊢
      rw [hb10] at HT hq2 ⊢
      clear hW hb10 HX HQO HBY
      refine wp_load_row 111 (.tmp 6) rfl b6 (by rfl) 111 _ (0, 0) _ HRS.out Try.underlying111 rfl (by rfl) ?_
      go_wp2_with (go_at_call 78; refine (HBR.out _).mono ?_; rintro e w10 ⟨rfl, q1⟩; replace HT := Lib.hid (blk_below HT.out q1); replace HQU := Lib.hid (blk_below HQU.out q1); replace HB := Lib.hid (below_step HB.out q1); clear q1; have t0 := (blk_cell HT.out 0).trans rfl; have t1 := (blk_cell HT.out 1).trans rfl; have d0 := (blk_cell HQU.out 0).trans rfl; have d1 := (blk_cell HQU.out 1).trans rfl; have d2 := (blk_cell HQU.out 2).trans rfl; have d3 := (blk_cell HQU.out 3).trans rfl; have f0 := blk_frozen HQU.out 0; have f1 := blk_frozen HQU.out 1; have f2 := blk_frozen HQU.out 2; have f3 := blk_frozen HQU.out 3; have l1 := blk_lt HT.out; have l2 := blk_lt HQU.out; have m1 : ¬ b10 = w10.heap.size := (by omega); have m2 : ¬ w10.heap.size = b10 := (by omega); have m3 : ¬ b2 = w10.heap.size := (by omega); have m4 : ¬ w10.heap.size = b2 := (by omega))
      have HQN := Lib.hid (blk_alloc (blk_put (blk_put (blk_put (blk_put HQU.out 0 (.int .u64 (qh : Int)) rfl) 1 (.int .u64 (ql : Int)) rfl) 2 (.int .u64 (rm : Int)) rfl) 3 (.bool true) rfl) (.cells #[.int .u64 (rh : Int), .int .u64 (rm : Int)] 44))
      refine bodyPost_ret (results_cell_row rfl _ _ b2 49 _ (0, 0) _ (by rfl) HQN.out Try.underlying49 rfl (by rfl)) rfl ⟨rfl, ?_⟩
      exact below_alloc ((((HB.out.setCell (p := ⟨b2, 0, none⟩) hn2 _).setCell (p := ⟨b2, 1, none⟩) hn2 _).setCell (p := ⟨b2, 2, none⟩) hn2 _).setCell (p := ⟨b2, 3, none⟩) hn2 _) _
    | succ j =>
      have e1 : ((j + 1 : Nat) : Int) - 1 = (j : Int) := by omega
      rw [e1]
      have j0 : (0 : Int) ≤ (j : Int) := by omega
      have j1 : (j : Int) < 256 := by omega
      have j2 : (j : Int) ≤ 127 := by omega
      have HJ := Lib.hid (show j < 128 by omega)
      obtain ⟨r, hr⟩ : ∃ r, (ah * 18446744073709551616 + al) / 2 ^ (j + 1) % d = r := ⟨_, rfl⟩
      obtain ⟨p, hp⟩ : ∃ p, (Hb.num ah al).getLsbD j = p := ⟨_, rfl⟩
      have HP := Lib.hid (show (ah * 18446744073709551616 + al).testBit j = p by rw [← hp, HBIT.out])
      have HRD := Lib.hid (show restD (ah * 18446744073709551616 + al) d (j + 1) = natB r by unfold restD; rw [hr])
      have HRR := Lib.hid hr
      have HPP := Lib.hid hp
      have HRL := Lib.hid (show r < d by rw [← hr]; exact Nat.mod_lt _ HD0.out)
      clear hr hp
      rw [HRD.out] at HRS
      go_wp2
      refine wp_load_row 111 (.tmp 6) rfl b6 (by rfl) 111 _ (0, 0) _ HRS.out Try.underlying111 rfl (by rfl) ?_
      go_wp2_with (go_at_call 75; refine (shift.calls (natB r) 1 (by omega) _).mono ?_; rintro e w11 ⟨rfl, q1⟩; replace HX := Lib.hid (blk_below HX.out q1); replace HRS := Lib.hid (blk_below HRS.out q1); replace HQO := Lib.hid (blk_below HQO.out q1); replace HBY := Lib.hid (blk_below HBY.out q1); replace HQU := Lib.hid (blk_below HQU.out q1); replace HB := Lib.hid (below_step HB.out q1); clear q1; have hst := storeB (f := (natB r <<< 1).getLsbD) HRS.out; have hsz := arrB_size (natB r <<< 1).getLsbD; have h1 := setRow_heap _ _ _ (arrB (natB r <<< 1).getLsbD) _ _ HRS.out; have hx1 := (setRow_other w11 b6 b5 (arrB (natB r <<< 1).getLsbD) (by omega)).trans HX.out; have cx := blk_cellB hx1 (k := j) (by omega); rw [HPP.out] at cx; have c0 := blk_cellB h1 (k := 0) (by omega); have f0 := blk_frozen h1 0; have HH1 := Lib.hid h1; clear h1 hx1)
      clear hst hsz cx c0 f0
      replace HX := Lib.hid (blk_off ((setRow_other w11 b6 b5 (arrB (natB r <<< 1).getLsbD) (by omega)).trans HX.out) (show b5 ≠ b6 by omega) 0 (.bool p))
      replace HQO := Lib.hid (blk_off ((setRow_other w11 b6 b7 (arrB (natB r <<< 1).getLsbD) (by omega)).trans HQO.out) (show b7 ≠ b6 by omega) 0 (.bool p))
      replace HBY := Lib.hid (blk_off ((setRow_other w11 b6 b8 (arrB (natB r <<< 1).getLsbD) (by omega)).trans HBY.out) (show b8 ≠ b6 by omega) 0 (.bool p))
      replace HQU := Lib.hid (blk_off ((setRow_other w11 b6 b2 (arrB (natB r <<< 1).getLsbD) (by omega)).trans HQU.out) (show b2 ≠ b6 by omega) 0 (.bool p))
      replace HB := Lib.hid ((below_row HB.out (show w.heap.size ≤ b6 by omega) (arrB (natB r <<< 1).getLsbD)).setCell (p := ⟨b6, 0, none⟩) (by show w.heap.size ≤ b6; omega) (.bool p))
      replace HRS := Lib.hid (blk_putB HH1.out (by omega) (low_bit r p))
      clear HH1
      generalize (w11.setRow b6 (arrB (natB r <<< 1).getLsbD)).setCell ⟨b6, 0, none⟩ (.bool p) = w12 at HX HQO HBY HQU HB HRS ⊢
      obtain ⟨m, hm⟩ : ∃ m, 2 * r + p.toNat = m := ⟨_, rfl⟩
      rw [hm] at HRS
      have hmb : m < 2 ^ 256 := by have := HRL.out; have := HDL.out; have := Bool.toNat_le p; omega
      have HMB := Lib.hid hmb
      have HMM := Lib.hid hm
      clear hm hmb
      refine wp_load_row 111 (.tmp 6) rfl b6 (by rfl) 111 _ (0, 0) _ HRS.out Try.underlying111 rfl (by rfl) ?_
      go_wp2
      refine wp_load_row 111 (.tmp 8) rfl b8 (by rfl) 111 _ (0, 0) _ HBY.out Try.underlying111 rfl (by rfl) ?_
      have nd : (Hb.num 0 d).toNat = d := by rw [Hb.num_toNat (by decide) HDL.out, Nat.zero_mul, Nat.zero_add]
      by_cases hc : d ≤ m
      · have hC : 0 ≤ cmpB (natB m) (Hb.num 0 d) := by unfold cmpB; rw [natB_toNat HMB.out, nd, if_neg (by omega)]; split <;> decide
        have HND := Lib.hid nd
        have HDM := Lib.hid hc
        clear nd hc
        go_wp2_with (go_at_call 76; refine (cmp.calls (natB m) (Hb.num 0 d) _).mono ?_; rintro e w13 ⟨rfl, q1⟩; replace HX := Lib.hid (blk_below HX.out q1); replace HRS := Lib.hid (blk_below HRS.out q1); replace HQO := Lib.hid (blk_below HQO.out q1); replace HBY := Lib.hid (blk_below HBY.out q1); replace HQU := Lib.hid (blk_below HQU.out q1); replace HB := Lib.hid (below_step HB.out q1); clear q1)
        clear hC
        refine wp_load_row 111 (.tmp 6) rfl b6 (by rfl) 111 _ (0, 0) _ HRS.out Try.underlying111 rfl (by rfl) ?_
        go_wp2
        refine wp_load_row 111 (.tmp 8) rfl b8 (by rfl) 111 _ (0, 0) _ HBY.out Try.underlying111 rfl (by rfl) ?_
        go_wp2_with (go_at_call 77; refine (minus.calls (natB m) (Hb.num 0 d) _).mono ?_; rintro e w14 ⟨rfl, q1⟩; replace HX := Lib.hid (blk_below HX.out q1); replace HRS := Lib.hid (blk_below HRS.out q1); replace HQO := Lib.hid (blk_below HQO.out q1); replace HBY := Lib.hid (blk_below HBY.out q1); replace HQU := Lib.hid (blk_below HQU.out q1); replace HB := Lib.hid (below_step HB.out q1); clear q1; have hst := storeB (f := (natB m - Hb.num 0 d).getLsbD) HRS.out; have hsz := arrB_size (natB m - Hb.num 0 d).getLsbD; have hq1 := (setRow_other w14 b6 b7 (arrB (natB m - Hb.num 0 d).getLsbD) (by omega)).trans HQO.out; have cq := blk_cellB hq1 (k := j) (by omega); have fq := blk_frozen hq1 j; have HQ1 := Lib.hid hq1; clear hq1)
        obtain ⟨s1, s2⟩ := step_more (x := (ah * 18446744073709551616 + al)) (i := j) HD0.out (by rw [HRR.out, HP.out, HMM.out]; exact HDM.out)
        rw [HRR.out, HP.out, HMM.out] at s1
        have HS1 : Hid (natB m - Hb.num 0 d = restD (ah * 18446744073709551616 + al) d j) := Lib.hid (by unfold restD; rw [← s1, natB_num, Nat.zero_mul, Nat.zero_add]; exact natB_sub HDM.out HMB.out)
        have HS2 : Hid ((fun k => if k = j then true else (quoD (ah * 18446744073709551616 + al) d (j + 1)).getLsbD k) = (quoD (ah * 18446744073709551616 + al) d j).getLsbD) := Lib.hid (by unfold quoD; rw [← s2]; exact set_bit _ (by have := HJ.out; omega))
        clear s1 s2 hst hsz cq fq
        go_roundg (j + 2)
        case measure => omega
        case rel => exact ⟨j, by go_num, by omega, by omega, Lib.hid (blk_off ((setRow_other _ b6 b5 _ (by omega)).trans HX.out) (by omega) _ _), Lib.hid (blk_off (by rw [← HS1.out]; exact setRow_heap _ _ _ _ _ _ HRS.out) (by omega) _ _), Lib.hid (blk_putB HQ1.out (by have := HJ.out; omega) HS2.out), Lib.hid (blk_off ((setRow_other _ b6 b8 _ (by omega)).trans HBY.out) (by omega) _ _), Lib.hid (blk_off ((setRow_other _ b6 b2 _ (by omega)).trans HQU.out) (by omega) _ _), Lib.hid ((below_row HB.out (by omega) _).setCell (p := ⟨b7, j, none⟩) (by show w.heap.size ≤ b7; omega) _)⟩
      · have hC : cmpB (natB m) (Hb.num 0 d) < 0 := by unfold cmpB; rw [natB_toNat HMB.out, nd, if_pos (by omega)]; decide
        obtain ⟨s1, s2⟩ := step_same (x := (ah * 18446744073709551616 + al)) (d := d) (i := j) (by rw [HRR.out, HP.out, HMM.out]; omega)
        rw [HRR.out, HP.out, HMM.out] at s1
        have HS1 : Hid (natB m = restD (ah * 18446744073709551616 + al) d j) := Lib.hid (by unfold restD; rw [← s1])
        have HS2 : Hid (quoD (ah * 18446744073709551616 + al) d (j + 1) = quoD (ah * 18446744073709551616 + al) d j) := Lib.hid (by unfold quoD; rw [s2])
        clear nd hc s1 s2
        go_wp2_with (go_at_call 76; refine (cmp.calls (natB m) (Hb.num 0 d) _).mono ?_; rintro e w13 ⟨rfl, q1⟩; replace HX := Lib.hid (blk_below HX.out q1); replace HRS := Lib.hid (blk_below HRS.out q1); replace HQO := Lib.hid (blk_below HQO.out q1); replace HBY := Lib.hid (blk_below HBY.out q1); replace HQU := Lib.hid (blk_below HQU.out q1); replace HB := Lib.hid (below_step HB.out q1); clear q1)
        clear hC
        rw [HS1.out] at HRS
        rw [HS2.out] at HQO
        go_roundg (j + 2)
        case measure => omega
        case rel => exact ⟨j, by go_num, by omega, by omega, HX, HRS, HQO, HBY, HQU, HB⟩
def horariumref01_Div.f (a0_0 a0_1 a1 : Int) : Option (Int × Int × Int × Bool) := if 0 ≤ a0_0 ∧ a0_0 < 18446744073709551616 ∧ 0 ≤ a0_1 ∧ a0_1 < 18446744073709551616 ∧ 0 ≤ a1 ∧ a1 < 18446744073709551616 then some (if a1 = 0 then (0, 0, 0, false) else ((a0_0 * 18446744073709551616 + a0_1) / a1 / 18446744073709551616, (a0_0 * 18446744073709551616 + a0_1) / a1 % 18446744073709551616, (a0_0 * 18446744073709551616 + a0_1) % a1, true)) else none
theorem horariumref01_Div.calls (a0_0 a0_1 a1 : Int) (r1 r2 r3 : Int) (r4 : Bool) (w : World) (h : horariumref01_Div.f a0_0 a0_1 a1 = some (r1, r2, r3, r4)) :
    Calls Try.prog 36 #[.agg #[.int .u64 a0_0, .int .u64 a0_1], .int .u64 a1] w fun e w' => e = .returned (.agg #[.int .u64 r1, .int .u64 r2, .int .u64 r3, .bool r4]) ∧ Below w.heap.size w w' := by
  unfold horariumref01_Div.f at h
  by_cases hr : 0 ≤ a0_0 ∧ a0_0 < 18446744073709551616 ∧ 0 ≤ a0_1 ∧ a0_1 < 18446744073709551616 ∧ 0 ≤ a1 ∧ a1 < 18446744073709551616
  case neg => rw [if_neg hr] at h; cases h
  rw [if_pos hr] at h
  obtain ⟨h1, h2, h3, h4, h5, h6⟩ := hr
  obtain ⟨ah, rfl⟩ := Int.eq_ofNat_of_zero_le h1
  obtain ⟨al, rfl⟩ := Int.eq_ofNat_of_zero_le h3
  obtain ⟨d, rfl⟩ := Int.eq_ofNat_of_zero_le h5
  by_cases c : (d : Int) = 0
  · rw [if_pos c] at h
    cases Option.some.inj h
    rw [c]
    exact divZero.calls ah al w
  · rw [if_neg c] at h
    cases Option.some.inj h
    refine (divW.calls ah al d (by omega) (by omega) (by omega) (by omega) w).mono ?_
    rintro e1 w1 ⟨rfl, q⟩
    refine ⟨?_, q⟩
    simp only [Int.natCast_ediv, Int.natCast_emod, Int.natCast_add, Int.natCast_mul]
    rfl

end Go.Proofs.Ytbkjoojfpmokaaa.PWideParts
