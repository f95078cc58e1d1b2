-- Made by px.py (a program of this session, over the kit's printer) out of the translation. Not trusted: Lean checks it.
import Derived.Test.YthiepacmdlgajaaPQpaRunsx0
import Derived.Test.YthiepacmdlgajaaPQpaRunsx1
import Derived.Test.YthiepacmdlgajaaPQpaRunsx5
import Derived.Test.YthiepacmdlgajaaPQpaRunsx6
import Derived.Test.YthiepacmdlgajaaPQpaRunsx7
namespace Go.Proofs.Ythiepacmdlgajaa.PQpaRuns
open Go.RowKit Go.Proofs.YthiepacmdlgajaaW.PrintWords Go.Proofs.YthiepacmdlgajaaW.PrintLast Go.Proofs.YthiepacmdlgajaaW.PrintMore
attribute [local go_sem] max2_int min2_int max_two min_two max_three min_three max_four min_four   -- for this text's walks alone
set_option linter.unusedVariables false
set_option linter.unusedSimpArgs false

/-! ### horariumlaw12_run: function 41 (by hand) -/
/-- An array's cells. -/
def ints (xs : List Int) : Array Value := (xs.map (Value.int .i64)).toArray
theorem ints_at {W : World} {g t : Nat} {xs : List Int} (h : W.heap[g]? = some (.cells (ints xs) t (0, 0))) {j : Nat} (hj : j < xs.length) : W.cell? ⟨g, j, none⟩ = some (.int .i64 xs[j]) := by
  rw [blk_cell h]; simp [ints, hj]
theorem ints_set {W : World} {g t : Nat} {xs : List Int} (h : W.heap[g]? = some (.cells (ints xs) t (0, 0))) (j : Nat) (v : Int) : (W.setCell ⟨g, j, none⟩ (.int .i64 v)).heap[g]? = some (.cells (ints (xs.set j v)) t (0, 0)) := by
  rw [blk_set h]; simp [ints, List.map_set]
/-- Tasks, and an end, that a run is told of. -/
def okRun (l : List S28) (e : Int) : Bool := decide (l.length ≤ 8) && (l.all fun s => decide (1 ≤ s.f1) && decide (s.f1 ≤ s.f2) && decide (s.f2 ≤ s.f3) && decide (s.f3 ≤ 1000000)) && decide (0 ≤ e) && decide (e ≤ 1048576)
/-- Is some work late? -/
def lateB (n : Nat) (xs ds : List Int) (now : Int) : Bool := (List.range n).any fun i => decide (xs.getD i 0 > 0) && decide (ds.getD i 0 ≤ now)
/-- What is left, and when it is due, behind a time's releases, of the first i tasks. -/
def relX (l : List S28) (now : Int) : Nat → List Int → List Int
  | 0, xs => xs
  | i + 1, xs => if now % (l.getD i z28).f3 = 0 then (relX l now i xs).set i (l.getD i z28).f1 else relX l now i xs
def relD (l : List S28) (now : Int) : Nat → List Int → List Int
  | 0, ds => ds
  | i + 1, ds => if now % (l.getD i z28).f3 = 0 then (relD l now i ds).set i (now + (l.getD i z28).f2) else relD l now i ds
/-- The work that is done. -/
def bestN (xs ds : List Int) : Nat → Int
  | 0 => -1
  | i + 1 => if xs.getD i 0 > 0 ∧ (bestN xs ds i < 0 ∨ ds.getD i 0 < ds.getD (bestN xs ds i).toNat 0) then (i : Int) else bestN xs ds i
def decX (xs : List Int) (b : Int) : List Int := if 0 ≤ b then xs.set b.toNat (xs.getD b.toNat 0 - 1) else xs
def runF (l : List S28) (e : Int) : Nat → Int → List Int → List Int → Int
  | 0, _, _, _ => 0
  | k + 1, now, xs, ds => if now ≤ e then (if lateB l.length xs ds now = true then now else runF l e k (now + 1) (decX (relX l now l.length xs) (bestN (relX l now l.length xs) (relD l now l.length ds) l.length)) (relD l now l.length ds)) else 0
def zeros8 : List Int := [0, 0, 0, 0, 0, 0, 0, 0]
def horariumlaw12_run.f (l : List S28) (e : Int) : Option Int := if okRun l e = true then some (runF l e (e + 2).toNat 0 zeros8 zeros8) else none
theorem okRun_is {l : List S28} {e : Int} (h : okRun l e = true) : l.length ≤ 8 ∧ (∀ s ∈ l, 1 ≤ s.f1 ∧ s.f1 ≤ s.f2 ∧ s.f2 ≤ s.f3 ∧ s.f3 ≤ 1000000) ∧ 0 ≤ e ∧ e ≤ 1048576 := by
  unfold okRun at h
  simp only [Bool.and_eq_true, decide_eq_true_eq, List.all_eq_true] at h
  obtain ⟨⟨⟨h1, h2⟩, h3⟩, h4⟩ := h
  exact ⟨h1, fun s hs => by have := h2 s hs; omega, h3, h4⟩
theorem relX_len (l : List S28) (now : Int) (i : Nat) (xs : List Int) : (relX l now i xs).length = xs.length := by
  induction i with
  | zero => rfl
  | succ i ih => unfold relX; split <;> simp [ih]
theorem relD_len (l : List S28) (now : Int) (i : Nat) (xs : List Int) : (relD l now i xs).length = xs.length := by
  induction i with
  | zero => rfl
  | succ i ih => unfold relD; split <;> simp [ih]
theorem decX_len (xs : List Int) (b : Int) : (decX xs b).length = xs.length := by unfold decX; split <;> simp
theorem bestN_lt (xs ds : List Int) (i : Nat) : -1 ≤ bestN xs ds i ∧ bestN xs ds i < (i : Int) := by
  induction i with
  | zero => simp [bestN]
  | succ i ih => unfold bestN; split <;> omega
/-- What is left of a task is small. -/
def Small (xs : List Int) : Prop := ∀ x ∈ xs, 0 ≤ x ∧ x ≤ 1000000
theorem small_getD {xs : List Int} (h : Small xs) (i : Nat) : 0 ≤ xs.getD i 0 ∧ xs.getD i 0 ≤ 1000000 := by
  rw [List.getD_eq_getElem?_getD]
  rcases Nat.lt_or_ge i xs.length with hi | hi
  · rw [List.getElem?_eq_getElem hi]; exact h _ (List.getElem_mem hi)
  · rw [List.getElem?_eq_none hi]; simp
theorem lateB_no {n : Nat} {xs ds : List Int} {now : Int} (h : ∀ i, i < n → ¬ (xs.getD i 0 > 0 ∧ ds.getD i 0 ≤ now)) : lateB n xs ds now = false := by
  unfold lateB
  rw [Bool.eq_false_iff]
  intro h2
  rw [List.any_eq_true] at h2
  obtain ⟨i, hi, h3⟩ := h2
  simp only [Bool.and_eq_true, decide_eq_true_eq] at h3
  exact h i (by simpa using hi) h3
theorem lateB_yes {n : Nat} {xs ds : List Int} {now : Int} {i : Nat} (hi : i < n) (h1 : xs.getD i 0 > 0) (h2 : ds.getD i 0 ≤ now) : lateB n xs ds now = true := by
  unfold lateB
  rw [List.any_eq_true]
  exact ⟨i, by simpa using hi, by simp only [Bool.and_eq_true, decide_eq_true_eq]; exact ⟨h1, h2⟩⟩
theorem ints_atD {W : World} {g t : Nat} {xs : List Int} (h : W.heap[g]? = some (.cells (ints xs) t (0, 0))) {j : Nat} (hj : j < xs.length) : W.cell? ⟨g, j, none⟩ = some (.int .i64 (xs.getD j 0)) := by
  rw [ints_at h hj]; simp [List.getD_eq_getElem?_getD, hj]
theorem rd_getD (l : List S28) (i : Nat) : rd_T28 l (i : Int) = l.getD i z28 := by simp [rd_T28]
theorem bestN_pos (xs ds : List Int) (i : Nat) (h : 0 ≤ bestN xs ds i) : 0 < xs.getD (bestN xs ds i).toNat 0 := by
  induction i with
  | zero => simp [bestN] at h
  | succ i ih =>
    unfold bestN at h ⊢
    split at h
    · rename_i hc; rw [if_pos hc, Int.toNat_natCast]; exact hc.1
    · rename_i hc; rw [if_neg hc]; exact ih h
theorem small_set {xs : List Int} (h : Small xs) (i : Nat) {v : Int} (h0 : 0 ≤ v) (h1 : v ≤ 1000000) : Small (xs.set i v) := by
  intro x hx
  rcases List.mem_or_eq_of_mem_set hx with h2 | rfl
  · exact h x h2
  · exact ⟨h0, h1⟩
theorem small_relX {l : List S28} (hl : ∀ s ∈ l, 1 ≤ s.f1 ∧ s.f1 ≤ s.f2 ∧ s.f2 ≤ s.f3 ∧ s.f3 ≤ 1000000) (now : Int) {xs : List Int} (h : Small xs) : ∀ i, i ≤ l.length → Small (relX l now i xs) := by
  intro i
  induction i with
  | zero => intro _; exact h
  | succ i ih =>
    intro hi
    unfold relX
    split
    · have := hl _ (List.getElem_mem (show i < l.length by omega))
      have e : l.getD i z28 = l[i] := by simp [List.getD_eq_getElem?_getD, show i < l.length by omega]
      rw [e]
      exact small_set (ih (by omega)) i (by omega) (by omega)
    · exact ih (by omega)
theorem small_decX {xs ds : List Int} (h : Small xs) (i : Nat) : Small (decX xs (bestN xs ds i)) := by
  unfold decX
  split
  · rename_i h0
    have := bestN_pos xs ds i h0
    have := small_getD h (bestN xs ds i).toNat
    exact small_set h _ (by omega) (by omega)
  · exact h
set_option maxHeartbeats 8000000 in
set_option maxRecDepth 100000 in
theorem horariumlaw12_run.calls (A0 : Option Addr) (c0 : Nat) (l0 : List S28) (a1 : Int) (r : Int) (w : World) (hr0 : Kd.C k28 w A0 l0.length l0) (hc0 : l0.length ≤ c0) (h : horariumlaw12_run.f l0 a1 = some r) :
    Calls Try.prog 41 #[.slice A0 l0.length c0, .int .i64 a1] w fun e w' => e = .returned (.int .i64 r) ∧ Below w.heap.size w w' := by
  have hu := Try.underlying28
  have hu2 := Try.underlying68
  unfold horariumlaw12_run.f at h
  by_cases hok : okRun l0 a1 = true
  case neg => rw [if_neg hok] at h; cases h
  rw [if_pos hok] at h
  obtain ⟨hl8, hls, he0, he1⟩ := okRun_is hok
  have HF := Aside0.mk (Option.some.inj h)
  have HR0 := Aside0.mk hr0
  have HC0 := Aside0.mk hc0
  have HLS := Aside0.mk hls
  clear hr0 hc0 h hok hls
  have HB := Aside0.mk (Below.refl w.heap.size w)
  go_enter Try.func41, Try.ntmps41
  go_wp2_with (first | ((with_reducible refine gate_dst (N := 5) rfl ?_); refine box_event ?hg (N := 5) ?hd (cs := ints zeros8) (t := 68) ?hr ?_; (case hd => rfl); (case hg => rfl); (case hr => first | (go_simp; done) | (go_simp; rfl)); intro gx hg w2 hbox hb; have n0_ := Aside0.mk (below_step HB.out hb); have n1_ := Aside0.mk hbox; have GWX := Aside0.mk (show w.heap.size ≤ gx by rw [hg]; exact Nat.le_refl _); clear HB; have HB := n0_; have BKX := n1_; clear n0_ n1_; clear hb hbox hg) | ((with_reducible refine gate_dst (N := 6) rfl ?_); refine box_event ?hg (N := 6) ?hd (cs := ints zeros8) (t := 68) ?hr ?_; (case hd => rfl); (case hg => rfl); (case hr => first | (go_simp; done) | (go_simp; rfl)); intro gd hg w3 hbox hb; have n0_ := Aside0.mk (below_step HB.out hb); have n1_ := Aside0.mk hbox; have n2_ := Aside0.mk (blk_below BKX.out hb); have GWD := Aside0.mk (show w.heap.size ≤ gd by rw [hg]; exact below_size HB.out); have NXD := Aside0.mk (show gx ≠ gd by rw [hg]; exact Nat.ne_of_lt (blk_lt BKX.out)); clear HB BKX; have HB := n0_; have BKD := n1_; have BKX := n2_; clear n0_ n1_ n2_; clear hb hbox hg))
  go_loopg [7] (a1 + 2).toNat (fun kq v7 w' => ∃ (now : Int) (xs ds : List Int), v7 = .int .i64 now ∧ 0 ≤ now ∧ now ≤ a1 + 1 ∧ Aside0 (a1 + 1 < now + kq) ∧ Aside0 (xs.length = 8 ∧ ds.length = 8 ∧ Small xs ∧ runF l0 a1 kq now xs ds = r) ∧ Aside0 (w'.heap[gx]? = some (.cells (ints xs) 68 (0, 0))) ∧ Aside0 (w'.heap[gd]? = some (.cells (ints ds) 68 (0, 0))) ∧ Aside0 (Below w.heap.size w w'))
  case atStart => exact ⟨0, zeros8, zeros8, rfl, by omega, by omega, ⟨by omega⟩, ⟨rfl, rfl, by intro x hx; simp [zeros8] at hx; omega, HF.out⟩, BKX, BKD, HB⟩
  case round =>
    clear BKX BKD HB HF
    obtain ⟨now, xs, ds, rfl, hn0, hn1, HK, HX, BKX, BKD, HB⟩ := hrel
    cases gk with
    | zero => exact absurd HK.out (by omega)
    | succ kq =>
    by_cases hne : now ≤ a1
    · go_wp2
      go_loopg [8] l0.length (fun g v8 w' => ∃ i : Nat, v8 = .int .i64 (i : Int) ∧ i ≤ l0.length ∧ l0.length - i ≤ g ∧ Aside0 (∀ j, j < i → ¬ (xs.getD j 0 > 0 ∧ ds.getD j 0 ≤ now)) ∧ Aside0 (w'.heap[gx]? = some (.cells (ints xs) 68 (0, 0))) ∧ Aside0 (w'.heap[gd]? = some (.cells (ints ds) 68 (0, 0))) ∧ Aside0 (Below w.heap.size w w'))
      case atStart => exact ⟨0, rfl, by omega, by omega, ⟨fun j hj => absurd hj (Nat.not_lt_zero _)⟩, BKX, BKD, HB⟩
      case round =>
        clear BKX BKD HB
        obtain ⟨i, rfl, hi, hgk, HL, BKX, BKD, HB⟩ := hrel
        by_cases hin : i < l0.length
        · have p0 : (0 : Int) ≤ (i : Int) := by omega
          have q0 : (i : Int) < (l0.length : Int) := by omega
          have q8 : (i : Int) < 8 := by omega
          have cx := ints_atD BKX.out (j := i) (by rw [HX.out.1]; omega)
          have cd := ints_atD BKD.out (j := i) (by rw [HX.out.2.1]; omega)
          obtain ⟨xv, hxv⟩ : ∃ v, xs.getD i 0 = v := ⟨_, rfl⟩
          obtain ⟨dv, hdv⟩ : ∃ v, ds.getD i 0 = v := ⟨_, rfl⟩
          rw [hxv] at cx
          rw [hdv] at cd
          have HXV := Aside0.mk hxv
          have HDV := Aside0.mk hdv
          clear hxv hdv
          by_cases h1 : 0 < xv
          · by_cases h2 : dv ≤ now
            · have hr : now = r := by
                have := HX.out.2.2.2
                unfold runF at this
                rw [if_pos hne, if_pos (lateB_yes hin (by rw [HXV.out]; exact h1) (by rw [HDV.out]; exact h2))] at this
                exact this
              have HRR := Aside0.mk hr
              clear hr
              go_wp2
              go_ret
              exact ⟨by rw [← HRR.out]; rfl, HB.out⟩
            · go_wp2
              go_roundg (l0.length - (i + 1))
              case measure => omega
              case rel => exact ⟨i + 1, by go_num, by omega, Nat.le_refl _, ⟨fun j hj => by rcases Nat.lt_succ_iff_lt_or_eq.1 hj with h | rfl; exact HL.out j h; rw [HXV.out, HDV.out]; omega⟩, BKX, BKD, HB⟩
          · go_wp2
            go_roundg (l0.length - (i + 1))
            case measure => omega
            case rel => exact ⟨i + 1, by go_num, by omega, Nat.le_refl _, ⟨fun j hj => by rcases Nat.lt_succ_iff_lt_or_eq.1 hj with h | rfl; exact HL.out j h; rw [HXV.out, HDV.out]; omega⟩, BKX, BKD, HB⟩
        · have hie : i = l0.length := by omega
          subst hie
          have hlate : lateB l0.length xs ds now = false := lateB_no (fun j hj => HL.out j (by omega))
          have hrun : runF l0 a1 kq (now + 1) (decX (relX l0 now l0.length xs) (bestN (relX l0 now l0.length xs) (relD l0 now l0.length ds) l0.length)) (relD l0 now l0.length ds) = r := by
            have := HX.out.2.2.2
            unfold runF at this
            rw [if_pos hne, if_neg (by rw [hlate]; decide)] at this
            exact this
          have HRUN := Aside0.mk hrun
          clear hlate hrun
          have hX3 : xs.length = 8 ∧ ds.length = 8 ∧ Small xs := ⟨HX.out.1, HX.out.2.1, HX.out.2.2.1⟩
          have HX3 := Aside0.mk hX3
          clear hX3 HX HL
          go_wp2
          go_loopg [9] l0.length (fun g v9 w' => ∃ i : Nat, v9 = .int .i64 (i : Int) ∧ i ≤ l0.length ∧ l0.length - i ≤ g ∧ Aside0 (w'.heap[gx]? = some (.cells (ints (relX l0 now i xs)) 68 (0, 0))) ∧ Aside0 (w'.heap[gd]? = some (.cells (ints (relD l0 now i ds)) 68 (0, 0))) ∧ Aside0 (Below w.heap.size w w'))
          case atStart => exact ⟨0, rfl, by omega, by omega, BKX, BKD, HB⟩
          case round =>
            clear BKX BKD HB
            obtain ⟨i, rfl, hi, hgk, BKX, BKD, HB⟩ := hrel
            by_cases hin : i < l0.length
            · have p0 : (0 : Int) ≤ (i : Int) := by omega
              have q0 : (i : Int) < (l0.length : Int) := by omega
              have q8 : (i : Int) < 8 := by omega
              have cx := ints_atD BKX.out (j := i) (by rw [relX_len, HX3.out.1]; omega)
              have cd := ints_atD BKD.out (j := i) (by rw [relD_len, HX3.out.2.1]; omega)
              have fx := blk_frozen BKX.out i
              have fd := blk_frozen BKD.out i
              obtain ⟨xv, hxv⟩ : ∃ v, (relX l0 now i xs).getD i 0 = v := ⟨_, rfl⟩
              obtain ⟨dv, hdv⟩ : ∃ v, (relD l0 now i ds).getD i 0 = v := ⟨_, rfl⟩
              rw [hxv] at cx
              rw [hdv] at cd
              clear hxv hdv
              obtain ⟨ad, e0, hx0, hx1, hx2, hx3, hx4⟩ := at_T28 HR0.out i p0 q0
              cases e0
              have hbk : (ad.add (i * 5)).block < w.heap.size := by have := World.block_lt_of_cell? w _ hx0; simpa using this
              have nbx : (ad.add (i * 5)).block ≠ gx := by have := GWX.out; omega
              have nbx2 : gx ≠ (ad.add (i * 5)).block := Ne.symm nbx
              have nxd := NXD.out
              have nxd2 := Ne.symm NXD.out
              clear hbk
              replace hx1 := (HB.out.cell (World.block_lt_of_cell? w _ hx1)).trans hx1
              replace hx2 := (HB.out.cell (World.block_lt_of_cell? w _ hx2)).trans hx2
              replace hx3 := (HB.out.cell (World.block_lt_of_cell? w _ hx3)).trans hx3
              simp only [Int.toNat_natCast, rd_getD] at hx1 hx2 hx3
              clear hx0 hx4
              have hs := HLS.out (l0.getD i z28) (by rw [List.getD_eq_getElem?_getD, List.getElem?_eq_getElem hin]; exact List.getElem_mem hin)
              obtain ⟨s, hsv⟩ : ∃ s, l0.getD i z28 = s := ⟨_, rfl⟩
              rw [hsv] at hx1 hx2 hx3 hs
              have HSV := Aside0.mk hsv
              clear hsv
              obtain ⟨hs1, hs2, hs3, hs4⟩ := hs
              by_cases hm : now % s.f3 = 0
              · have hmb : (now % s.f3 == 0) = true := beq_iff_eq.mpr hm
                have hX : relX l0 now (i + 1) xs = (relX l0 now i xs).set i s.f1 := by rw [relX, if_pos (by rw [HSV.out]; exact hm), HSV.out]
                have hD : relD l0 now (i + 1) ds = (relD l0 now i ds).set i (now + s.f2) := by rw [relD, if_pos (by rw [HSV.out]; exact hm), HSV.out]
                have HXX := Aside0.mk hX
                have HDD := Aside0.mk hD
                clear hm hX hD
                go_wp2
                go_roundg (l0.length - (i + 1))
                case measure => omega
                case rel => exact ⟨i + 1, by go_num, by omega, Nat.le_refl _, ⟨by rw [HXX.out]; exact blk_far (p := ⟨gd, i, none⟩) (ints_set BKX.out i s.f1) NXD.out _⟩, ⟨by rw [HDD.out]; exact ints_set (blk_far (p := ⟨gx, i, none⟩) BKD.out (Ne.symm NXD.out) _) i (now + s.f2)⟩, ⟨below_set (below_set HB.out GWX.out) GWD.out⟩⟩
              · have hmb : (now % s.f3 == 0) = false := beq_eq_false_iff_ne.mpr hm
                have hX : relX l0 now (i + 1) xs = relX l0 now i xs := by rw [relX, if_neg (by rw [HSV.out]; exact hm)]
                have hD : relD l0 now (i + 1) ds = relD l0 now i ds := by rw [relD, if_neg (by rw [HSV.out]; exact hm)]
                have HXX := Aside0.mk hX
                have HDD := Aside0.mk hD
                clear hm hX hD
                go_wp2
                go_roundg (l0.length - (i + 1))
                case measure => omega
                case rel => exact ⟨i + 1, by go_num, by omega, Nat.le_refl _, ⟨by rw [HXX.out]; exact BKX.out⟩, ⟨by rw [HDD.out]; exact BKD.out⟩, HB⟩
            · have hie : i = l0.length := by omega
              subst hie
              have hsm := small_relX HLS.out now HX3.out.2.2 l0.length (Nat.le_refl _)
              have hxl : (relX l0 now l0.length xs).length = 8 := (relX_len _ _ _ _).trans HX3.out.1
              have hdl : (relD l0 now l0.length ds).length = 8 := (relD_len _ _ _ _).trans HX3.out.2.1
              obtain ⟨ys, hys⟩ : ∃ ys, relX l0 now l0.length xs = ys := ⟨_, rfl⟩
              obtain ⟨es, hes⟩ : ∃ es, relD l0 now l0.length ds = es := ⟨_, rfl⟩
              rw [hys] at hsm hxl HRUN BKX
              rw [hes] at hdl HRUN BKD
              have HSM := Aside0.mk hsm
              have HXL := Aside0.mk hxl
              have HDL := Aside0.mk hdl
              clear hys hes hsm hxl hdl HX3
              go_wp2
              go_loopg [10, 11] l0.length (fun g v10 v11 w' => ∃ (i : Nat), v10 = .int .i64 (bestN ys es i) ∧ v11 = .int .i64 (i : Int) ∧ i ≤ l0.length ∧ l0.length - i ≤ g ∧ Aside0 (w'.heap[gx]? = some (.cells (ints ys) 68 (0, 0))) ∧ Aside0 (w'.heap[gd]? = some (.cells (ints es) 68 (0, 0))) ∧ Aside0 (Below w.heap.size w w'))
              case atStart => exact ⟨0, rfl, rfl, by omega, by omega, BKX, BKD, HB⟩
              case round =>
                clear BKX BKD HB
                obtain ⟨i, rfl, rfl, hi, hgk, BKX, BKD, HB⟩ := hrel
                obtain ⟨hb0, hb1⟩ := bestN_lt ys es i
                by_cases hin : i < l0.length
                · have p0 : (0 : Int) ≤ (i : Int) := by omega
                  have q0 : (i : Int) < (l0.length : Int) := by omega
                  have q8 : (i : Int) < 8 := by omega
                  have cx := ints_atD BKX.out (j := i) (by rw [HXL.out]; omega)
                  have cd := ints_atD BKD.out (j := i) (by rw [HDL.out]; omega)
                  have HNX := Aside0.mk (show bestN ys es (i + 1) = if ys.getD i 0 > 0 ∧ (bestN ys es i < 0 ∨ es.getD i 0 < es.getD (bestN ys es i).toNat 0) then (i : Int) else bestN ys es i from rfl)
                  have cb : 0 ≤ bestN ys es i → wr.cell? ⟨gd, (bestN ys es i).toNat, none⟩ = some (.int .i64 (es.getD (bestN ys es i).toNat 0)) := fun h0 => ints_atD BKD.out (by rw [HDL.out]; omega)
                  have HCB := Aside0.mk cb
                  clear cb
                  obtain ⟨b, hb⟩ : ∃ b, bestN ys es i = b := ⟨_, rfl⟩
                  rw [hb] at HNX HCB hb0 hb1
                  rw [hb]
                  clear hb
                  obtain ⟨xv, hxv⟩ : ∃ v, ys.getD i 0 = v := ⟨_, rfl⟩
                  obtain ⟨dv, hdv⟩ : ∃ v, es.getD i 0 = v := ⟨_, rfl⟩
                  rw [hxv] at cx HNX
                  rw [hdv] at cd HNX
                  clear hxv hdv
                  by_cases h1 : 0 < xv
                  · by_cases h2 : b < 0
                    · have HN := Aside0.mk (HNX.out.trans (if_pos ⟨h1, Or.inl h2⟩))
                      clear HNX HCB
                      have d1 : decide (0 < xv) = true := decide_eq_true h1
                      have d2 : decide (b < 0) = true := decide_eq_true h2
                      go_wp2
                      go_quiet (fail)
                      go_wp2
                      go_roundg (l0.length - (i + 1))
                      case measure => omega
                      case rel => exact ⟨i + 1, by rw [HN.out], by go_num, by omega, Nat.le_refl _, ⟨blk_drewN BKX.out _⟩, ⟨blk_drewN BKD.out _⟩, ⟨pw_below_drewN HB.out _⟩⟩
                    · have h0 : 0 ≤ b := by omega
                      have h8 : b < 8 := by omega
                      have cb := HCB.out h0
                      obtain ⟨bv, hbv⟩ : ∃ v, es.getD b.toNat 0 = v := ⟨_, rfl⟩
                      rw [hbv] at cb HNX
                      clear hbv HCB
                      have d1 : decide (0 < xv) = true := decide_eq_true h1
                      have d2 : decide (b < 0) = false := decide_eq_false h2
                      by_cases h3 : dv < bv
                      · have HN := Aside0.mk (HNX.out.trans (if_pos ⟨h1, Or.inr h3⟩))
                        clear HNX
                        have d3 : decide (dv < bv) = true := decide_eq_true h3
                        go_wp2
                        go_quiet (fail)
                        go_wp2
                        go_roundg (l0.length - (i + 1))
                        case measure => omega
                        case rel => exact ⟨i + 1, by rw [HN.out], by go_num, by omega, Nat.le_refl _, ⟨blk_drewN BKX.out _⟩, ⟨blk_drewN BKD.out _⟩, ⟨pw_below_drewN HB.out _⟩⟩
                      · have HN := Aside0.mk (HNX.out.trans (if_neg (fun h => by rcases h.2 with h | h <;> omega)))
                        clear HNX
                        have d3 : decide (dv < bv) = false := decide_eq_false h3
                        go_wp2
                        go_quiet (fail)
                        go_wp2
                        go_roundg (l0.length - (i + 1))
                        case measure => omega
                        case rel => exact ⟨i + 1, by rw [HN.out], by go_num, by omega, Nat.le_refl _, ⟨blk_drewN BKX.out _⟩, ⟨blk_drewN BKD.out _⟩, ⟨pw_below_drewN HB.out _⟩⟩
                  · have HN := Aside0.mk (HNX.out.trans (if_neg (fun h => h1 h.1)))
                    clear HNX HCB
                    have d1 : decide (0 < xv) = false := decide_eq_false h1
                    go_wp2
                    go_quiet (fail)
                    go_wp2
                    go_roundg (l0.length - (i + 1))
                    case measure => omega
                    case rel => exact ⟨i + 1, by rw [HN.out], by go_num, by omega, Nat.le_refl _, ⟨blk_drewN BKX.out _⟩, ⟨blk_drewN BKD.out _⟩, ⟨pw_below_drewN HB.out _⟩⟩
                · have hie : i = l0.length := by omega
                  subst hie
                  have hsd := small_decX (ds := es) HSM.out l0.length
                  have hdl2 : (decX ys (bestN ys es l0.length)).length = 8 := (decX_len _ _).trans HXL.out
                  have HSD := Aside0.mk hsd
                  have HDL2 := Aside0.mk hdl2
                  have hpos := bestN_pos ys es l0.length
                  have HPOS := Aside0.mk hpos
                  clear hsd hdl2 hpos
                  obtain ⟨b, hb⟩ : ∃ b, bestN ys es l0.length = b := ⟨_, rfl⟩
                  rw [hb] at hb0 hb1 HRUN HSD HDL2 HPOS
                  rw [hb]
                  clear hb
                  by_cases h0 : 0 ≤ b
                  · have h8 : b < 8 := by omega
                    have d0 : decide (0 ≤ b) = true := decide_eq_true h0
                    have cx := ints_atD BKX.out (j := b.toNat) (by rw [HXL.out]; omega)
                    have fx := blk_frozen BKX.out b.toNat
                    have hlo := small_getD HSM.out b.toNat
                    have hps := HPOS.out h0
                    have HDE := Aside0.mk (show decX ys b = ys.set b.toNat (ys.getD b.toNat 0 - 1) from if_pos h0)
                    obtain ⟨xv, hxv⟩ : ∃ v, ys.getD b.toNat 0 = v := ⟨_, rfl⟩
                    rw [hxv] at cx HDE hlo hps
                    clear hxv HPOS
                    obtain ⟨hlo0, hlo1⟩ := hlo
                    go_wp2
                    go_roundg kq
                    case measure => omega
                    case rel => exact ⟨now + 1, decX ys b, es, by go_num, by omega, by omega, ⟨by have := HK.out; omega⟩, ⟨HDL2.out, HDL.out, HSD.out, HRUN.out⟩, ⟨by rw [HDE.out]; exact ints_set BKX.out b.toNat (xv - 1)⟩, ⟨blk_far (p := ⟨gx, b.toNat, none⟩) BKD.out (Ne.symm NXD.out) _⟩, ⟨below_set HB.out GWX.out⟩⟩
                  · have d0 : decide (0 ≤ b) = false := decide_eq_false h0
                    have HDE := Aside0.mk (show decX ys b = ys from if_neg h0)
                    go_wp2
                    go_roundg kq
                    case measure => omega
                    case rel => exact ⟨now + 1, decX ys b, es, by go_num, by omega, by omega, ⟨by have := HK.out; omega⟩, ⟨HDL2.out, HDL.out, HSD.out, HRUN.out⟩, ⟨by rw [HDE.out]; exact BKX.out⟩, BKD, HB⟩
    · have hr : (0 : Int) = r := by
        have := HX.out.2.2.2
        unfold runF at this
        rw [if_neg hne] at this
        exact this
      have HRR := Aside0.mk hr
      clear hr
      go_wp2
      go_ret
      exact ⟨by rw [← HRR.out]; rfl, HB.out⟩

/-! ### horariumlaw12_QpaRuns: function 14 -/
def horariumlaw12_QpaRuns.j0 : Nat → Bool → List (S28) → Bool → Int → Int → Int → Option (Bool)
  | 0, _, _, _, _, _, _ => none
  | k + 1, x3, x4, x24, x186000, x186001, x186002 => if x24 = true then (if x3 = true then ((qpa_Test.f k x4).bind fun t186 => (some (t186 != 0))) else (some false)) else ((qpa_Test.f k x4).bind fun t187 => ((qpa_Miss.f k x4).bind fun bt188 => ((horariumlaw12_run.f x4 x186001).bind fun t190 => (if x3 = true then (if bt188.2 = 0 then (if ((t187 == 0) == (t190 == 0)) = true then (some (t190 == bt188.1)) else (some false)) else (some false)) else (some false)))))
def horariumlaw12_QpaRuns.f (k : Nat) (l0 : List (S31)) : Option (Bool) := (horariumlaw12_awake.f k).bind fun t178 => ((horariumlaw12_made.f k l0).bind fun t179 => ((horariumref09_Load.f k t179).bind fun bt182 => (if bt182.2.2 = 0 then (horariumlaw12_QpaRuns.j0 k t178 t179 (decide (bt182.1 > bt182.2.1)) bt182.1 bt182.2.1 bt182.2.2) else (horariumlaw12_QpaRuns.j0 k t178 t179 true bt182.1 bt182.2.1 bt182.2.2))))
theorem horariumlaw12_QpaRuns.mono_l : ∀ k, (∀ y0 y1 y2 y3 y4 y5, LeO (horariumlaw12_QpaRuns.j0 k y0 y1 y2 y3 y4 y5) (horariumlaw12_QpaRuns.j0 (k + 1) y0 y1 y2 y3 y4 y5))
  | 0 => fun _ _ _ _ _ _ r h => by simp [horariumlaw12_QpaRuns.j0] at h
  | k + 1 => by
    have ih0 := horariumlaw12_QpaRuns.mono_l k
    · intro y0 y1 y2 y3 y4 y5
      unfold horariumlaw12_QpaRuns.j0
      repeat' first
      | (with_reducible exact ih0 _ _ _ _ _ _)
      | (with_reducible exact horariumlaw12_awake.mono _)
      | (with_reducible exact horariumlaw12_made.mono _ _)
      | (with_reducible exact horariumref09_Load.mono _ _)
      | (with_reducible exact qpa_Miss.mono _ _)
      | (with_reducible exact qpa_Test.mono _ _)
      | (with_reducible exact LeO.refl _)
      | (with_reducible exact LeO.none _)
      | (with_reducible refine LeO.ite ?_ ?_)
      | (with_reducible refine LeO.bind ?_ (fun _ => ?_))
      | exact ih0 _ _ _ _ _ _
      | exact horariumlaw12_awake.mono _
      | exact horariumlaw12_made.mono _ _
      | exact horariumref09_Load.mono _ _
      | exact qpa_Miss.mono _ _
      | exact qpa_Test.mono _ _
      | exact LeO.none _
      | refine LeO.ite ?_ ?_
      | refine LeO.bind ?_ (fun _ => ?_)
theorem horariumlaw12_QpaRuns.mono : ∀ a0 k, LeO (horariumlaw12_QpaRuns.f k a0) (horariumlaw12_QpaRuns.f (k + 1) a0) := by
  intro a0 k
  have ih0 := horariumlaw12_QpaRuns.mono_l k
  unfold horariumlaw12_QpaRuns.f
  repeat' first
      | (with_reducible exact ih0 _ _ _ _ _ _)
      | (with_reducible exact horariumlaw12_awake.mono _)
      | (with_reducible exact horariumlaw12_made.mono _ _)
      | (with_reducible exact horariumref09_Load.mono _ _)
      | (with_reducible exact qpa_Miss.mono _ _)
      | (with_reducible exact qpa_Test.mono _ _)
      | (with_reducible exact LeO.refl _)
      | (with_reducible exact LeO.none _)
      | (with_reducible refine LeO.ite ?_ ?_)
      | (with_reducible refine LeO.bind ?_ (fun _ => ?_))
      | exact ih0 _ _ _ _ _ _
      | exact horariumlaw12_awake.mono _
      | exact horariumlaw12_made.mono _ _
      | exact horariumref09_Load.mono _ _
      | exact qpa_Miss.mono _ _
      | exact qpa_Test.mono _ _
      | exact LeO.none _
      | refine LeO.ite ?_ ?_
      | refine LeO.bind ?_ (fun _ => ?_)
set_option maxHeartbeats 8000000 in
set_option maxRecDepth 100000 in
theorem horariumlaw12_QpaRuns.calls (k : Nat) (A0 : Option Addr) (c0 : Nat) (l0 : List (S31)) (r : Bool) (w : World) (hr0 : Kd.C k31 w A0 l0.length l0) (hc0 : l0.length ≤ c0) (h : horariumlaw12_QpaRuns.f k l0 = some r) :
    Calls Try.prog 14 #[.slice A0 l0.length c0] w fun e w' => e = .returned (.bool r) ∧ Below w.heap.size w w' := by
  have hu36 := Try.underlying36
  have HR0 := Aside0.mk hr0
  have HC0 := Aside0.mk hc0
  clear hr0 hc0
  have HB := Aside0.mk (Below.refl w.heap.size w)
  have H : ((horariumlaw12_awake.f k).bind fun t178 => ((horariumlaw12_made.f k l0).bind fun t179 => ((horariumref09_Load.f k t179).bind fun bt182 => (if bt182.2.2 = 0 then (horariumlaw12_QpaRuns.j0 k t178 t179 (decide (bt182.1 > bt182.2.1)) bt182.1 bt182.2.1 bt182.2.2) else (horariumlaw12_QpaRuns.j0 k t178 t179 true bt182.1 bt182.2.1 bt182.2.2))))) = some r := h
  clear h
  replace H := Option.bind_eq_some_iff.mp H
  obtain ⟨t178, A20, H⟩ := H
  replace H : ((horariumlaw12_made.f k l0).bind fun t179 => ((horariumref09_Load.f k t179).bind fun bt182 => (if bt182.2.2 = 0 then (horariumlaw12_QpaRuns.j0 k t178 t179 (decide (bt182.1 > bt182.2.1)) bt182.1 bt182.2.1 bt182.2.2) else (horariumlaw12_QpaRuns.j0 k t178 t179 true bt182.1 bt182.2.1 bt182.2.2)))) = some r := H
  have A2 := Aside0.mk A20
  clear A20
  replace H := Option.bind_eq_some_iff.mp H
  obtain ⟨t179, A30, H⟩ := H
  replace H : ((horariumref09_Load.f k t179).bind fun bt182 => (if bt182.2.2 = 0 then (horariumlaw12_QpaRuns.j0 k t178 t179 (decide (bt182.1 > bt182.2.1)) bt182.1 bt182.2.1 bt182.2.2) else (horariumlaw12_QpaRuns.j0 k t178 t179 true bt182.1 bt182.2.1 bt182.2.2))) = some r := H
  have A3 := Aside0.mk A30
  clear A30
  replace H := Option.bind_eq_some_iff.mp H
  obtain ⟨⟨t182, t183, t184⟩, A40, H⟩ := H
  replace H : (if t184 = 0 then (horariumlaw12_QpaRuns.j0 k t178 t179 (decide (t182 > t183)) t182 t183 t184) else (horariumlaw12_QpaRuns.j0 k t178 t179 true t182 t183 t184)) = some r := H
  have A4 := Aside0.mk A40
  clear A40
  have HC5 := Aside0.mk H
  clear H
  go_enter Try.func14, Try.ntmps14
  go_upto_region 4 with (first | ((with_reducible refine gate_callee (f := 27) rfl ?_); refine goesL_ (some 10) rfl rfl Try.func27 (by kernel_rfl) rfl #[] rfl (by (try simp only [List.map_toArray, List.map_cons, List.map_nil]); first | done | rfl | (simp only [List.length_drop, List.length_take]; rfl)) ?_; (with_reducible refine (horariumlaw12_awake.calls k  t178 _ A2.out).mono ?_); rintro e w6 ⟨rfl, hb⟩; refine ⟨_, rfl, ?_⟩; have n0_ := Aside0.mk (below_step (by repeat (first | (with_reducible first | exact HB.out | apply below_alloc | apply pw_below_drewN | apply below_drew1) | exact HB.out)) hb); clear HB; have HB := n0_; clear n0_; (try clear hb); (try clear hb2); (try clear hk); (try clear hi)) | ((with_reducible refine gate_callee (f := 28) rfl ?_); refine goesL_ (some 12) rfl rfl Try.func28 (by kernel_rfl) rfl #[.slice A0 l0.length c0] rfl (by (try simp only [List.map_toArray, List.map_cons, List.map_nil]); first | done | rfl | (simp only [List.length_drop, List.length_take]; rfl)) ?_; (with_reducible refine (horariumlaw12_made.calls k _ _ l0 t179 _ ?side1 ?side2 A3.out).mono ?_); (case side1 => repeat (first | exact (Kd.C_below HR0.out HB.out) | (with_reducible refine Kd.C_alloc ?_ _) | (with_reducible refine Kd.C_drewN ?_ _) | (with_reducible refine Kd.C_drew ?_))); (case side2 => exact HC0.out); rintro e w7 ⟨v180, rfl, ho0, hb⟩; refine ⟨_, rfl, ?_⟩; have n0_ := Aside0.mk (Kd.R_lower ho0 (below_size (by repeat (first | (with_reducible first | exact HB.out | apply below_alloc | apply pw_below_drewN | apply below_drew1) | exact HB.out)))); have n1_ := Aside0.mk (below_step (by repeat (first | (with_reducible first | exact HB.out | apply below_alloc | apply pw_below_drewN | apply below_drew1) | exact HB.out)) hb); clear HB; have HO181 := n0_; have HB := n1_; clear n0_ n1_; (try clear hb); (try clear hb2); (try clear hk); (try clear hi); (try clear ho0); obtain ⟨Ao8, co8, eo8⟩ := Kd.R_slice HO181.out; subst eo8) | ((with_reducible refine gate_callee (f := 21) rfl ?_); refine goesL_ (some 14) rfl rfl Try.func21 (by kernel_rfl) rfl #[.slice Ao8 t179.length co8] rfl (by (try simp only [List.map_toArray, List.map_cons, List.map_nil]); first | done | rfl | (simp only [List.length_drop, List.length_take]; rfl)) ?_; (with_reducible refine (horariumref09_Load.calls k _ _ t179 t182 t183 t184 _ ?side1 ?side2 A4.out).mono ?_); (case side1 => repeat (first | exact (Kd.R_reads' HO181.out).2.2 | (with_reducible refine Kd.C_alloc ?_ _) | (with_reducible refine Kd.C_drewN ?_ _) | (with_reducible refine Kd.C_drew ?_))); (case side2 => exact (Kd.R_reads' HO181.out).2.1); rintro e w9 ⟨rfl, hb⟩; refine ⟨_, rfl, ?_⟩; have n0_ := Aside0.mk (Kd.R_below (by (with_reducible repeat (first | apply Kd.R_alloc | apply Kd.R_drewN | apply Kd.R_drew)); exact HO181.out) hb); have n1_ := Aside0.mk (below_step (by repeat (first | (with_reducible first | exact HB.out | apply below_alloc | apply pw_below_drewN | apply below_drew1) | exact HB.out)) hb); clear HO181; clear HB; have HO181 := n0_; have HB := n1_; clear n0_ n1_; (try clear hb); (try clear hb2); (try clear hk); (try clear hi)) | ((with_reducible refine gate_dst (N := 5) rfl ?_); refine box_event ?hg (N := 5) ?hd (cs := #[.int .i64 0, .int .i64 0, .int .i64 0]) (t := 36) ?hr ?_; (case hd => rfl); (case hg => rfl); (case hr => first | (go_simp; done) | (go_simp; rfl)); intro gb185 hg w10 hbox hb; have n0_ := Aside0.mk (Kd.R_below (by (with_reducible repeat (first | apply Kd.R_alloc | apply Kd.R_drewN | apply Kd.R_drew)); exact HO181.out) hb); have n1_ := Aside0.mk (below_step (by repeat (first | (with_reducible first | exact HB.out | apply below_alloc | apply pw_below_drewN | apply below_drew1) | exact HB.out)) hb); have n2_ := Aside0.mk (hbox); have n3_ := Aside0.mk ((by rw [hg]; exact (below_size (by repeat (first | (with_reducible first | exact HB.out | apply below_alloc | apply pw_below_drewN | apply below_drew1) | exact HB.out))) : w.heap.size ≤ gb185)); have n4_ := Aside0.mk ((by rw [hg]; exact (below_size (by repeat (first | (with_reducible first | exact HB.out | apply below_alloc | apply pw_below_drewN | apply below_drew1) | exact HB.out))) : w.heap.size ≤ gb185)); clear HO181; clear HB; have HO181 := n0_; have HB := n1_; have BK185 := n2_; have GW185 := n3_; have GE185 := n4_; clear n0_ n1_ n2_ n3_ n4_; clear hb hbox hg; have hcz11_0 : w10.cell? ⟨gb185, 0, none⟩ = some (.int .i64 0) := (blk_cell BK185.out 0).trans rfl; have hcz11_1 : w10.cell? ⟨gb185, 1, none⟩ = some (.int .i64 0) := (blk_cell BK185.out 1).trans rfl; have hcz11_2 : w10.cell? ⟨gb185, 2, none⟩ = some (.int .i64 0) := (blk_cell BK185.out 2).trans rfl; have hfz11_0 := blk_frozen BK185.out 0; have hfz11_1 := blk_frozen BK185.out 1; have hfz11_2 := blk_frozen BK185.out 2))
  (try simp only [Act.put, List.setIfInBounds_toArray, List.set_cons_zero, List.set_cons_succ])
  go_cut [24] (fun v24 wc => ∃ (kq : Nat) (x24_4 : Bool), v24 = .bool x24_4 ∧ Aside0 (horariumlaw12_QpaRuns.j0 kq t178 t179 x24_4 t182 t183 t184 = some r) ∧ Aside0 (kq ≤ k) ∧ Aside0 (Kd.R k28 28 wc w.heap.size (fun _ => True) (.slice Ao8 t179.length co8) t179) ∧ Aside0 (wc.heap[gb185]? = some (.cells #[.int .i64 t182, .int .i64 t183, .int .i64 t184] 36 (0, 0))) ∧ Aside0 (Below w.heap.size w wc))
  case first =>
    have H := HC5.out
    clear HC5
    by_cases c12 : t184 = 0
    · rw [if_pos c12] at H
      have c12b0 : (t184 == 0) = true := beq_iff_eq.mpr c12
      have c12b1 : (t184 != 0) = false := bne_eq_false_iff_eq.mpr c12
      clear c12
      (first | rw [c12b0] | (simp only [i64_w, i32_w]; rw [c12b0]) | skip)
      have H' := Aside0.mk H
      clear H
      have hcz13_0 : w10.cell? ⟨gb185, 0, none⟩ = some (.int .i64 0) := (blk_cell BK185.out 0).trans rfl
      have hcz13_1 : w10.cell? ⟨gb185, 1, none⟩ = some (.int .i64 0) := (blk_cell BK185.out 1).trans rfl
      have hcz13_2 : w10.cell? ⟨gb185, 2, none⟩ = some (.int .i64 0) := (blk_cell BK185.out 2).trans rfl
      have hfz13_0 := blk_frozen BK185.out 0
      have hfz13_1 := blk_frozen BK185.out 1
      have hfz13_2 := blk_frozen BK185.out 2
      go_wp2
      go_meet
      case rel => exact ⟨_, (decide (t182 > t183)), (by first | rfl | (simp; done) | (simp [*]; done)), H', ⟨by first | omega | exact Nat.le_refl _⟩, ⟨by (with_reducible repeat (first | apply Kd.R_alloc | apply Kd.R_drewN | apply Kd.R_drew)); exact Kd.R_mono (Kd.R_far (p := ⟨gb185, 2, none⟩) (Kd.R_far (p := ⟨gb185, 1, none⟩) (Kd.R_far (p := ⟨gb185, 0, none⟩) (Kd.R_types HO181.out BK185.out (by decide)) (fun _ hk => hk.2) (.int .i64 t182)) (fun _ hk => hk.2) (.int .i64 t183)) (fun _ hk => hk.2) (.int .i64 t184)) (fun _ hk => trivial)⟩, ⟨by (with_reducible repeat (first | refine blk_drewN ?_ _ | refine blk_drew ?_ | refine blk_alloc ?_ _)); refine blk_put (cs := #[.int .i64 t182, .int .i64 t183, .int .i64 0]) ?_ 2 _ rfl; (with_reducible repeat (first | refine blk_drewN ?_ _ | refine blk_drew ?_ | refine blk_alloc ?_ _)); refine blk_put (cs := #[.int .i64 t182, .int .i64 0, .int .i64 0]) ?_ 1 _ rfl; (with_reducible repeat (first | refine blk_drewN ?_ _ | refine blk_drew ?_ | refine blk_alloc ?_ _)); refine blk_put (cs := #[.int .i64 0, .int .i64 0, .int .i64 0]) ?_ 0 _ rfl; (with_reducible repeat (first | refine blk_drewN ?_ _ | refine blk_drew ?_ | refine blk_alloc ?_ _)); exact BK185.out⟩, ⟨by repeat (first | (with_reducible first | exact HB.out | apply below_alloc | apply pw_below_drewN | apply below_drew1 | refine below_set ?_ GE185.out) | exact HB.out)⟩⟩
    · rw [if_neg c12] at H
      have c12b0 : (t184 == 0) = false := beq_eq_false_iff_ne.mpr c12
      have c12b1 : (t184 != 0) = true := bne_iff_ne.mpr c12
      (first | rw [c12b0] | (simp only [i64_w, i32_w]; rw [c12b0]) | skip)
      have H' := Aside0.mk H
      clear H
      have hcz14_0 : w10.cell? ⟨gb185, 0, none⟩ = some (.int .i64 0) := (blk_cell BK185.out 0).trans rfl
      have hcz14_1 : w10.cell? ⟨gb185, 1, none⟩ = some (.int .i64 0) := (blk_cell BK185.out 1).trans rfl
      have hcz14_2 : w10.cell? ⟨gb185, 2, none⟩ = some (.int .i64 0) := (blk_cell BK185.out 2).trans rfl
      have hfz14_0 := blk_frozen BK185.out 0
      have hfz14_1 := blk_frozen BK185.out 1
      have hfz14_2 := blk_frozen BK185.out 2
      go_wp2
      go_meet
      case rel => exact ⟨_, (true), (by first | rfl | (simp; done) | (simp [*]; done)), H', ⟨by first | omega | exact Nat.le_refl _⟩, ⟨by (with_reducible repeat (first | apply Kd.R_alloc | apply Kd.R_drewN | apply Kd.R_drew)); exact Kd.R_mono (Kd.R_far (p := ⟨gb185, 2, none⟩) (Kd.R_far (p := ⟨gb185, 1, none⟩) (Kd.R_far (p := ⟨gb185, 0, none⟩) (Kd.R_types HO181.out BK185.out (by decide)) (fun _ hk => hk.2) (.int .i64 t182)) (fun _ hk => hk.2) (.int .i64 t183)) (fun _ hk => hk.2) (.int .i64 t184)) (fun _ hk => trivial)⟩, ⟨by (with_reducible repeat (first | refine blk_drewN ?_ _ | refine blk_drew ?_ | refine blk_alloc ?_ _)); refine blk_put (cs := #[.int .i64 t182, .int .i64 t183, .int .i64 0]) ?_ 2 _ rfl; (with_reducible repeat (first | refine blk_drewN ?_ _ | refine blk_drew ?_ | refine blk_alloc ?_ _)); refine blk_put (cs := #[.int .i64 t182, .int .i64 0, .int .i64 0]) ?_ 1 _ rfl; (with_reducible repeat (first | refine blk_drewN ?_ _ | refine blk_drew ?_ | refine blk_alloc ?_ _)); refine blk_put (cs := #[.int .i64 0, .int .i64 0, .int .i64 0]) ?_ 0 _ rfl; (with_reducible repeat (first | refine blk_drewN ?_ _ | refine blk_drew ?_ | refine blk_alloc ?_ _)); exact BK185.out⟩, ⟨by repeat (first | (with_reducible first | exact HB.out | apply below_alloc | apply pw_below_drewN | apply below_drew1 | refine below_set ?_ GE185.out) | exact HB.out)⟩⟩
  case rest =>
    clear HC5
    try clear c1
    try clear c2
    try clear p2
    try clear c12
    try clear c12b0
    try clear c12b1
    try clear c14
    try clear hcz11_0
    try clear hcz11_1
    try clear hcz11_2
    try clear hcz13_0
    try clear hcz13_1
    try clear hcz13_2
    try clear hcz14_0
    try clear hcz14_1
    try clear hcz14_2
    try clear hfz11_0
    try clear hfz11_1
    try clear hfz11_2
    try clear hfz13_0
    try clear hfz13_1
    try clear hfz13_2
    try clear hfz14_0
    try clear hfz14_1
    try clear hfz14_2
    obtain ⟨kq, x24_4, rfl, HA, HJ4, HO_4, BK185, HB⟩ := hcut
    cases kq with
    | zero => exact absurd HA.out (by simp [horariumlaw12_QpaRuns.j0])
    | succ kj4 =>
      have H := HA.out
      clear HA
      simp only [horariumlaw12_QpaRuns.j0] at H
      by_cases c15 : x24_4 = true
      · subst c15
        have H1 : (if t178 = true then ((qpa_Test.f kj4 t179).bind fun t186 => (some (t186 != 0))) else (some false)) = some r := by rw [if_pos rfl] at H; exact H
        clear H
        have H := H1
        clear H1
        by_cases c16 : t178 = true
        · subst c16
          have H1 : ((qpa_Test.f kj4 t179).bind fun t186 => (some (t186 != 0))) = some r := by rw [if_pos rfl] at H; exact H
          clear H
          have H := H1
          clear H1
          replace H := Option.bind_eq_some_iff.mp H
          obtain ⟨t186, A170, H⟩ := H
          replace H : (some (t186 != 0)) = some r := H
          have A17 := Aside0.mk A170
          clear A170
          obtain rfl := Option.some.inj H
          go_wp2_with (first | (go_at_call 29; (with_reducible refine (qpa_Test.calls kj4 _ _ t179 t186 _ ?side1 ?side2 A17.out).mono ?_); (case side1 => repeat (first | exact (Kd.R_reads' HO_4.out).2.2 | (with_reducible refine Kd.C_alloc ?_ _) | (with_reducible refine Kd.C_drewN ?_ _) | (with_reducible refine Kd.C_drew ?_))); (case side2 => exact (Kd.R_reads' HO_4.out).2.1); rintro e w18 ⟨rfl, hb⟩; have n0_ := Aside0.mk (Kd.R_below (by (with_reducible repeat (first | apply Kd.R_alloc | apply Kd.R_drewN | apply Kd.R_drew)); exact HO_4.out) hb); have n1_ := Aside0.mk (blk_below (g := gb185) (o := .cells #[.int .i64 t182, .int .i64 t183, .int .i64 t184] 36 (0, 0)) (by (with_reducible repeat (first | refine blk_drewN ?_ _ | refine blk_drew ?_ | refine blk_alloc ?_ _)); exact BK185.out) hb); have n2_ := Aside0.mk (below_step (by repeat (first | (with_reducible first | exact HB.out | apply below_alloc | apply pw_below_drewN | apply below_drew1 | refine below_set ?_ GE185.out) | exact HB.out)) hb); clear HO_4; clear BK185; clear HB; have HO_4 := n0_; have BK185 := n1_; have HB := n2_; clear n0_ n1_ n2_; (try clear hb); (try clear hb2); (try clear hk); (try clear hi)))
          go_ret
          exact ⟨by first | rfl | (simp [errW_none, errW_some] <;> rfl) | (simp [*, errW_none, errW_some] <;> rfl), by repeat (first | (with_reducible first | exact HB.out | apply below_alloc | apply pw_below_drewN | apply below_drew1 | refine below_set ?_ GE185.out) | exact HB.out)⟩
        · replace c16 := Bool.eq_false_iff.mpr c16
          subst c16
          have H1 : (some false) = some r := by rw [if_neg (show ¬ (false = true) by decide)] at H; exact H
          clear H
          have H := H1
          clear H1
          obtain rfl := Option.some.inj H
          go_wp2
          go_ret
          exact ⟨by first | rfl | (simp [errW_none, errW_some] <;> rfl) | (simp [*, errW_none, errW_some] <;> rfl), by repeat (first | (with_reducible first | exact HB.out | apply below_alloc | apply pw_below_drewN | apply below_drew1 | refine below_set ?_ GE185.out) | exact HB.out)⟩
      · replace c15 := Bool.eq_false_iff.mpr c15
        subst c15
        have H1 : ((qpa_Test.f kj4 t179).bind fun t187 => ((qpa_Miss.f kj4 t179).bind fun bt188 => ((horariumlaw12_run.f t179 t183).bind fun t190 => (if t178 = true then (if bt188.2 = 0 then (if ((t187 == 0) == (t190 == 0)) = true then (some (t190 == bt188.1)) else (some false)) else (some false)) else (some false))))) = some r := by rw [if_neg (show ¬ (false = true) by decide)] at H; exact H
        clear H
        have H := H1
        clear H1
        replace H := Option.bind_eq_some_iff.mp H
        obtain ⟨t187, A190, H⟩ := H
        replace H : ((qpa_Miss.f kj4 t179).bind fun bt188 => ((horariumlaw12_run.f t179 t183).bind fun t190 => (if t178 = true then (if bt188.2 = 0 then (if ((t187 == 0) == (t190 == 0)) = true then (some (t190 == bt188.1)) else (some false)) else (some false)) else (some false)))) = some r := H
        have A19 := Aside0.mk A190
        clear A190
        replace H := Option.bind_eq_some_iff.mp H
        obtain ⟨⟨t188, t189⟩, A200, H⟩ := H
        replace H : ((horariumlaw12_run.f t179 t183).bind fun t190 => (if t178 = true then (if t189 = 0 then (if ((t187 == 0) == (t190 == 0)) = true then (some (t190 == t188)) else (some false)) else (some false)) else (some false))) = some r := H
        have A20 := Aside0.mk A200
        clear A200
        replace H := Option.bind_eq_some_iff.mp H
        obtain ⟨t190, A210, H⟩ := H
        replace H : (if t178 = true then (if t189 = 0 then (if ((t187 == 0) == (t190 == 0)) = true then (some (t190 == t188)) else (some false)) else (some false)) else (some false)) = some r := H
        have A21 := Aside0.mk A210
        clear A210
        by_cases c22 : t178 = true
        · subst c22
          have H1 : (if t189 = 0 then (if ((t187 == 0) == (t190 == 0)) = true then (some (t190 == t188)) else (some false)) else (some false)) = some r := by rw [if_pos rfl] at H; exact H
          clear H
          have H := H1
          clear H1
          by_cases c23 : t189 = 0
          · rw [if_pos c23] at H
            have c23b0 : (t189 == 0) = true := beq_iff_eq.mpr c23
            have c23b1 : (t189 != 0) = false := bne_eq_false_iff_eq.mpr c23
            clear c23
            by_cases c24 : ((t187 == 0) == (t190 == 0)) = true
            · rw [if_pos c24] at H
              have c24b0 : ((t187 == 0) == (t190 == 0)) = true := c24
              (try (have c24b1 : decide ((t187 == 0) = (t190 == 0)) = true := by simpa using c24))
              (try (have c24b2 : ((t187 == 0) == (t190 == 0)) = true := by simpa using c24))
              clear c24
              obtain rfl := Option.some.inj H
              go_wp2_with (first | ((with_reducible refine gate_callee (f := 29) rfl ?_); refine goesL_ (some 32) rfl rfl Try.func29 (by kernel_rfl) rfl #[.slice Ao8 t179.length co8] rfl (by (try simp only [List.map_toArray, List.map_cons, List.map_nil]); first | done | rfl | (simp only [List.length_drop, List.length_take]; rfl)) ?_; (with_reducible refine (qpa_Test.calls kj4 _ _ t179 t187 _ ?side1 ?side2 A19.out).mono ?_); (case side1 => repeat (first | exact (Kd.R_reads' HO_4.out).2.2 | (with_reducible refine Kd.C_alloc ?_ _) | (with_reducible refine Kd.C_drewN ?_ _) | (with_reducible refine Kd.C_drew ?_))); (case side2 => exact (Kd.R_reads' HO_4.out).2.1); rintro e w25 ⟨rfl, hb⟩; refine ⟨_, rfl, ?_⟩; have n0_ := Aside0.mk (Kd.R_below (by (with_reducible repeat (first | apply Kd.R_alloc | apply Kd.R_drewN | apply Kd.R_drew)); exact HO_4.out) hb); have n1_ := Aside0.mk (blk_below (g := gb185) (o := .cells #[.int .i64 t182, .int .i64 t183, .int .i64 t184] 36 (0, 0)) (by (with_reducible repeat (first | refine blk_drewN ?_ _ | refine blk_drew ?_ | refine blk_alloc ?_ _)); exact BK185.out) hb); have n2_ := Aside0.mk (below_step (by repeat (first | (with_reducible first | exact HB.out | apply below_alloc | apply pw_below_drewN | apply below_drew1 | refine below_set ?_ GE185.out) | exact HB.out)) hb); clear HO_4; clear BK185; clear HB; have HO_4 := n0_; have BK185 := n1_; have HB := n2_; clear n0_ n1_ n2_; (try clear hb); (try clear hb2); (try clear hk); (try clear hi)) | ((with_reducible refine gate_callee (f := 40) rfl ?_); refine goesL_ (some 36) rfl rfl Try.func40 (by kernel_rfl) rfl #[.slice Ao8 t179.length co8] rfl (by (try simp only [List.map_toArray, List.map_cons, List.map_nil]); first | done | rfl | (simp only [List.length_drop, List.length_take]; rfl)) ?_; (with_reducible refine (qpa_Miss.calls kj4 _ _ t179 t188 t189 _ ?side1 ?side2 A20.out).mono ?_); (case side1 => repeat (first | exact (Kd.R_reads' HO_4.out).2.2 | (with_reducible refine Kd.C_alloc ?_ _) | (with_reducible refine Kd.C_drewN ?_ _) | (with_reducible refine Kd.C_drew ?_))); (case side2 => exact (Kd.R_reads' HO_4.out).2.1); rintro e w26 ⟨rfl, hb⟩; refine ⟨_, rfl, ?_⟩; have n0_ := Aside0.mk (Kd.R_below (by (with_reducible repeat (first | apply Kd.R_alloc | apply Kd.R_drewN | apply Kd.R_drew)); exact HO_4.out) hb); have n1_ := Aside0.mk (blk_below (g := gb185) (o := .cells #[.int .i64 t182, .int .i64 t183, .int .i64 t184] 36 (0, 0)) (by (with_reducible repeat (first | refine blk_drewN ?_ _ | refine blk_drew ?_ | refine blk_alloc ?_ _)); exact BK185.out) hb); have n2_ := Aside0.mk (below_step (by repeat (first | (with_reducible first | exact HB.out | apply below_alloc | apply pw_below_drewN | apply below_drew1 | refine below_set ?_ GE185.out) | exact HB.out)) hb); clear HO_4; clear BK185; clear HB; have HO_4 := n0_; have BK185 := n1_; have HB := n2_; clear n0_ n1_ n2_; (try clear hb); (try clear hb2); (try clear hk); (try clear hi); have hcz27_0 : w26.cell? ⟨gb185, 0, none⟩ = some (.int .i64 t182) := (blk_cell BK185.out 0).trans rfl; have hcz27_1 : w26.cell? ⟨gb185, 1, none⟩ = some (.int .i64 t183) := (blk_cell BK185.out 1).trans rfl; have hcz27_2 : w26.cell? ⟨gb185, 2, none⟩ = some (.int .i64 t184) := (blk_cell BK185.out 2).trans rfl; have hfz27_0 := blk_frozen BK185.out 0; have hfz27_1 := blk_frozen BK185.out 1; have hfz27_2 := blk_frozen BK185.out 2) | ((with_reducible refine gate_callee (f := 41) rfl ?_); refine goesL_ (some 42) rfl rfl Try.func41 (by kernel_rfl) rfl #[.slice Ao8 t179.length co8, .int .i64 t183] rfl (by (try simp only [List.map_toArray, List.map_cons, List.map_nil]); first | done | rfl | (simp only [List.length_drop, List.length_take]; rfl)) ?_; (with_reducible refine (horariumlaw12_run.calls _ _ t179 t183 t190 _ ?side1 ?side2 A21.out).mono ?_); (case side1 => repeat (first | exact (Kd.R_reads' HO_4.out).2.2 | (with_reducible refine Kd.C_alloc ?_ _) | (with_reducible refine Kd.C_drewN ?_ _) | (with_reducible refine Kd.C_drew ?_))); (case side2 => exact (Kd.R_reads' HO_4.out).2.1); rintro e w28 ⟨rfl, hb⟩; refine ⟨_, rfl, ?_⟩; have n0_ := Aside0.mk (Kd.R_below (by (with_reducible repeat (first | apply Kd.R_alloc | apply Kd.R_drewN | apply Kd.R_drew)); exact HO_4.out) hb); have n1_ := Aside0.mk (blk_below (g := gb185) (o := .cells #[.int .i64 t182, .int .i64 t183, .int .i64 t184] 36 (0, 0)) (by (with_reducible repeat (first | refine blk_drewN ?_ _ | refine blk_drew ?_ | refine blk_alloc ?_ _)); exact BK185.out) hb); have n2_ := Aside0.mk (below_step (by repeat (first | (with_reducible first | exact HB.out | apply below_alloc | apply pw_below_drewN | apply below_drew1 | refine below_set ?_ GE185.out) | exact HB.out)) hb); clear HO_4; clear BK185; clear HB; have HO_4 := n0_; have BK185 := n1_; have HB := n2_; clear n0_ n1_ n2_; (try clear hb); (try clear hb2); (try clear hk); (try clear hi)))
              go_ret
              exact ⟨by first | rfl | (simp [errW_none, errW_some] <;> rfl) | (simp [*, errW_none, errW_some] <;> rfl), by repeat (first | (with_reducible first | exact HB.out | apply below_alloc | apply pw_below_drewN | apply below_drew1 | refine below_set ?_ GE185.out) | exact HB.out)⟩
            · rw [if_neg c24] at H
              have c24b0 : ((t187 == 0) == (t190 == 0)) = false := by first | (simpa using c24) | exact Bool.eq_false_iff.mpr c24 | exact eq_true_of_ne_false c24
              (try (have c24b1 : decide ((t187 == 0) = (t190 == 0)) = false := by simpa using c24))
              (try (have c24b2 : ((t187 == 0) == (t190 == 0)) = false := by simpa using c24))
              (try (have c24b3 : ¬ ((t187 == 0) = (t190 == 0)) := by simpa using c24))
              clear c24
              obtain rfl := Option.some.inj H
              go_wp2_with (first | ((with_reducible refine gate_callee (f := 29) rfl ?_); refine goesL_ (some 32) rfl rfl Try.func29 (by kernel_rfl) rfl #[.slice Ao8 t179.length co8] rfl (by (try simp only [List.map_toArray, List.map_cons, List.map_nil]); first | done | rfl | (simp only [List.length_drop, List.length_take]; rfl)) ?_; (with_reducible refine (qpa_Test.calls kj4 _ _ t179 t187 _ ?side1 ?side2 A19.out).mono ?_); (case side1 => repeat (first | exact (Kd.R_reads' HO_4.out).2.2 | (with_reducible refine Kd.C_alloc ?_ _) | (with_reducible refine Kd.C_drewN ?_ _) | (with_reducible refine Kd.C_drew ?_))); (case side2 => exact (Kd.R_reads' HO_4.out).2.1); rintro e w29 ⟨rfl, hb⟩; refine ⟨_, rfl, ?_⟩; have n0_ := Aside0.mk (Kd.R_below (by (with_reducible repeat (first | apply Kd.R_alloc | apply Kd.R_drewN | apply Kd.R_drew)); exact HO_4.out) hb); have n1_ := Aside0.mk (blk_below (g := gb185) (o := .cells #[.int .i64 t182, .int .i64 t183, .int .i64 t184] 36 (0, 0)) (by (with_reducible repeat (first | refine blk_drewN ?_ _ | refine blk_drew ?_ | refine blk_alloc ?_ _)); exact BK185.out) hb); have n2_ := Aside0.mk (below_step (by repeat (first | (with_reducible first | exact HB.out | apply below_alloc | apply pw_below_drewN | apply below_drew1 | refine below_set ?_ GE185.out) | exact HB.out)) hb); clear HO_4; clear BK185; clear HB; have HO_4 := n0_; have BK185 := n1_; have HB := n2_; clear n0_ n1_ n2_; (try clear hb); (try clear hb2); (try clear hk); (try clear hi)) | ((with_reducible refine gate_callee (f := 40) rfl ?_); refine goesL_ (some 36) rfl rfl Try.func40 (by kernel_rfl) rfl #[.slice Ao8 t179.length co8] rfl (by (try simp only [List.map_toArray, List.map_cons, List.map_nil]); first | done | rfl | (simp only [List.length_drop, List.length_take]; rfl)) ?_; (with_reducible refine (qpa_Miss.calls kj4 _ _ t179 t188 t189 _ ?side1 ?side2 A20.out).mono ?_); (case side1 => repeat (first | exact (Kd.R_reads' HO_4.out).2.2 | (with_reducible refine Kd.C_alloc ?_ _) | (with_reducible refine Kd.C_drewN ?_ _) | (with_reducible refine Kd.C_drew ?_))); (case side2 => exact (Kd.R_reads' HO_4.out).2.1); rintro e w30 ⟨rfl, hb⟩; refine ⟨_, rfl, ?_⟩; have n0_ := Aside0.mk (Kd.R_below (by (with_reducible repeat (first | apply Kd.R_alloc | apply Kd.R_drewN | apply Kd.R_drew)); exact HO_4.out) hb); have n1_ := Aside0.mk (blk_below (g := gb185) (o := .cells #[.int .i64 t182, .int .i64 t183, .int .i64 t184] 36 (0, 0)) (by (with_reducible repeat (first | refine blk_drewN ?_ _ | refine blk_drew ?_ | refine blk_alloc ?_ _)); exact BK185.out) hb); have n2_ := Aside0.mk (below_step (by repeat (first | (with_reducible first | exact HB.out | apply below_alloc | apply pw_below_drewN | apply below_drew1 | refine below_set ?_ GE185.out) | exact HB.out)) hb); clear HO_4; clear BK185; clear HB; have HO_4 := n0_; have BK185 := n1_; have HB := n2_; clear n0_ n1_ n2_; (try clear hb); (try clear hb2); (try clear hk); (try clear hi); have hcz31_0 : w30.cell? ⟨gb185, 0, none⟩ = some (.int .i64 t182) := (blk_cell BK185.out 0).trans rfl; have hcz31_1 : w30.cell? ⟨gb185, 1, none⟩ = some (.int .i64 t183) := (blk_cell BK185.out 1).trans rfl; have hcz31_2 : w30.cell? ⟨gb185, 2, none⟩ = some (.int .i64 t184) := (blk_cell BK185.out 2).trans rfl; have hfz31_0 := blk_frozen BK185.out 0; have hfz31_1 := blk_frozen BK185.out 1; have hfz31_2 := blk_frozen BK185.out 2) | ((with_reducible refine gate_callee (f := 41) rfl ?_); refine goesL_ (some 42) rfl rfl Try.func41 (by kernel_rfl) rfl #[.slice Ao8 t179.length co8, .int .i64 t183] rfl (by (try simp only [List.map_toArray, List.map_cons, List.map_nil]); first | done | rfl | (simp only [List.length_drop, List.length_take]; rfl)) ?_; (with_reducible refine (horariumlaw12_run.calls _ _ t179 t183 t190 _ ?side1 ?side2 A21.out).mono ?_); (case side1 => repeat (first | exact (Kd.R_reads' HO_4.out).2.2 | (with_reducible refine Kd.C_alloc ?_ _) | (with_reducible refine Kd.C_drewN ?_ _) | (with_reducible refine Kd.C_drew ?_))); (case side2 => exact (Kd.R_reads' HO_4.out).2.1); rintro e w32 ⟨rfl, hb⟩; refine ⟨_, rfl, ?_⟩; have n0_ := Aside0.mk (Kd.R_below (by (with_reducible repeat (first | apply Kd.R_alloc | apply Kd.R_drewN | apply Kd.R_drew)); exact HO_4.out) hb); have n1_ := Aside0.mk (blk_below (g := gb185) (o := .cells #[.int .i64 t182, .int .i64 t183, .int .i64 t184] 36 (0, 0)) (by (with_reducible repeat (first | refine blk_drewN ?_ _ | refine blk_drew ?_ | refine blk_alloc ?_ _)); exact BK185.out) hb); have n2_ := Aside0.mk (below_step (by repeat (first | (with_reducible first | exact HB.out | apply below_alloc | apply pw_below_drewN | apply below_drew1 | refine below_set ?_ GE185.out) | exact HB.out)) hb); clear HO_4; clear BK185; clear HB; have HO_4 := n0_; have BK185 := n1_; have HB := n2_; clear n0_ n1_ n2_; (try clear hb); (try clear hb2); (try clear hk); (try clear hi)))
              go_ret
              exact ⟨by first | rfl | (simp [errW_none, errW_some] <;> rfl) | (simp [*, errW_none, errW_some] <;> rfl), by repeat (first | (with_reducible first | exact HB.out | apply below_alloc | apply pw_below_drewN | apply below_drew1 | refine below_set ?_ GE185.out) | exact HB.out)⟩
          · rw [if_neg c23] at H
            have c23b0 : (t189 == 0) = false := beq_eq_false_iff_ne.mpr c23
            have c23b1 : (t189 != 0) = true := bne_iff_ne.mpr c23
            obtain rfl := Option.some.inj H
            go_wp2_with (first | ((with_reducible refine gate_callee (f := 29) rfl ?_); refine goesL_ (some 32) rfl rfl Try.func29 (by kernel_rfl) rfl #[.slice Ao8 t179.length co8] rfl (by (try simp only [List.map_toArray, List.map_cons, List.map_nil]); first | done | rfl | (simp only [List.length_drop, List.length_take]; rfl)) ?_; (with_reducible refine (qpa_Test.calls kj4 _ _ t179 t187 _ ?side1 ?side2 A19.out).mono ?_); (case side1 => repeat (first | exact (Kd.R_reads' HO_4.out).2.2 | (with_reducible refine Kd.C_alloc ?_ _) | (with_reducible refine Kd.C_drewN ?_ _) | (with_reducible refine Kd.C_drew ?_))); (case side2 => exact (Kd.R_reads' HO_4.out).2.1); rintro e w33 ⟨rfl, hb⟩; refine ⟨_, rfl, ?_⟩; have n0_ := Aside0.mk (Kd.R_below (by (with_reducible repeat (first | apply Kd.R_alloc | apply Kd.R_drewN | apply Kd.R_drew)); exact HO_4.out) hb); have n1_ := Aside0.mk (blk_below (g := gb185) (o := .cells #[.int .i64 t182, .int .i64 t183, .int .i64 t184] 36 (0, 0)) (by (with_reducible repeat (first | refine blk_drewN ?_ _ | refine blk_drew ?_ | refine blk_alloc ?_ _)); exact BK185.out) hb); have n2_ := Aside0.mk (below_step (by repeat (first | (with_reducible first | exact HB.out | apply below_alloc | apply pw_below_drewN | apply below_drew1 | refine below_set ?_ GE185.out) | exact HB.out)) hb); clear HO_4; clear BK185; clear HB; have HO_4 := n0_; have BK185 := n1_; have HB := n2_; clear n0_ n1_ n2_; (try clear hb); (try clear hb2); (try clear hk); (try clear hi)) | ((with_reducible refine gate_callee (f := 40) rfl ?_); refine goesL_ (some 36) rfl rfl Try.func40 (by kernel_rfl) rfl #[.slice Ao8 t179.length co8] rfl (by (try simp only [List.map_toArray, List.map_cons, List.map_nil]); first | done | rfl | (simp only [List.length_drop, List.length_take]; rfl)) ?_; (with_reducible refine (qpa_Miss.calls kj4 _ _ t179 t188 t189 _ ?side1 ?side2 A20.out).mono ?_); (case side1 => repeat (first | exact (Kd.R_reads' HO_4.out).2.2 | (with_reducible refine Kd.C_alloc ?_ _) | (with_reducible refine Kd.C_drewN ?_ _) | (with_reducible refine Kd.C_drew ?_))); (case side2 => exact (Kd.R_reads' HO_4.out).2.1); rintro e w34 ⟨rfl, hb⟩; refine ⟨_, rfl, ?_⟩; have n0_ := Aside0.mk (Kd.R_below (by (with_reducible repeat (first | apply Kd.R_alloc | apply Kd.R_drewN | apply Kd.R_drew)); exact HO_4.out) hb); have n1_ := Aside0.mk (blk_below (g := gb185) (o := .cells #[.int .i64 t182, .int .i64 t183, .int .i64 t184] 36 (0, 0)) (by (with_reducible repeat (first | refine blk_drewN ?_ _ | refine blk_drew ?_ | refine blk_alloc ?_ _)); exact BK185.out) hb); have n2_ := Aside0.mk (below_step (by repeat (first | (with_reducible first | exact HB.out | apply below_alloc | apply pw_below_drewN | apply below_drew1 | refine below_set ?_ GE185.out) | exact HB.out)) hb); clear HO_4; clear BK185; clear HB; have HO_4 := n0_; have BK185 := n1_; have HB := n2_; clear n0_ n1_ n2_; (try clear hb); (try clear hb2); (try clear hk); (try clear hi); have hcz35_0 : w34.cell? ⟨gb185, 0, none⟩ = some (.int .i64 t182) := (blk_cell BK185.out 0).trans rfl; have hcz35_1 : w34.cell? ⟨gb185, 1, none⟩ = some (.int .i64 t183) := (blk_cell BK185.out 1).trans rfl; have hcz35_2 : w34.cell? ⟨gb185, 2, none⟩ = some (.int .i64 t184) := (blk_cell BK185.out 2).trans rfl; have hfz35_0 := blk_frozen BK185.out 0; have hfz35_1 := blk_frozen BK185.out 1; have hfz35_2 := blk_frozen BK185.out 2) | ((with_reducible refine gate_callee (f := 41) rfl ?_); refine goesL_ (some 42) rfl rfl Try.func41 (by kernel_rfl) rfl #[.slice Ao8 t179.length co8, .int .i64 t183] rfl (by (try simp only [List.map_toArray, List.map_cons, List.map_nil]); first | done | rfl | (simp only [List.length_drop, List.length_take]; rfl)) ?_; (with_reducible refine (horariumlaw12_run.calls _ _ t179 t183 t190 _ ?side1 ?side2 A21.out).mono ?_); (case side1 => repeat (first | exact (Kd.R_reads' HO_4.out).2.2 | (with_reducible refine Kd.C_alloc ?_ _) | (with_reducible refine Kd.C_drewN ?_ _) | (with_reducible refine Kd.C_drew ?_))); (case side2 => exact (Kd.R_reads' HO_4.out).2.1); rintro e w36 ⟨rfl, hb⟩; refine ⟨_, rfl, ?_⟩; have n0_ := Aside0.mk (Kd.R_below (by (with_reducible repeat (first | apply Kd.R_alloc | apply Kd.R_drewN | apply Kd.R_drew)); exact HO_4.out) hb); have n1_ := Aside0.mk (blk_below (g := gb185) (o := .cells #[.int .i64 t182, .int .i64 t183, .int .i64 t184] 36 (0, 0)) (by (with_reducible repeat (first | refine blk_drewN ?_ _ | refine blk_drew ?_ | refine blk_alloc ?_ _)); exact BK185.out) hb); have n2_ := Aside0.mk (below_step (by repeat (first | (with_reducible first | exact HB.out | apply below_alloc | apply pw_below_drewN | apply below_drew1 | refine below_set ?_ GE185.out) | exact HB.out)) hb); clear HO_4; clear BK185; clear HB; have HO_4 := n0_; have BK185 := n1_; have HB := n2_; clear n0_ n1_ n2_; (try clear hb); (try clear hb2); (try clear hk); (try clear hi)))
            go_ret
            exact ⟨by first | rfl | (simp [errW_none, errW_some] <;> rfl) | (simp [*, errW_none, errW_some] <;> rfl), by repeat (first | (with_reducible first | exact HB.out | apply below_alloc | apply pw_below_drewN | apply below_drew1 | refine below_set ?_ GE185.out) | exact HB.out)⟩
        · replace c22 := Bool.eq_false_iff.mpr c22
          subst c22
          have H1 : (some false) = some r := by rw [if_neg (show ¬ (false = true) by decide)] at H; exact H
          clear H
          have H := H1
          clear H1
          obtain rfl := Option.some.inj H
          go_wp2_with (first | ((with_reducible refine gate_callee (f := 29) rfl ?_); refine goesL_ (some 32) rfl rfl Try.func29 (by kernel_rfl) rfl #[.slice Ao8 t179.length co8] rfl (by (try simp only [List.map_toArray, List.map_cons, List.map_nil]); first | done | rfl | (simp only [List.length_drop, List.length_take]; rfl)) ?_; (with_reducible refine (qpa_Test.calls kj4 _ _ t179 t187 _ ?side1 ?side2 A19.out).mono ?_); (case side1 => repeat (first | exact (Kd.R_reads' HO_4.out).2.2 | (with_reducible refine Kd.C_alloc ?_ _) | (with_reducible refine Kd.C_drewN ?_ _) | (with_reducible refine Kd.C_drew ?_))); (case side2 => exact (Kd.R_reads' HO_4.out).2.1); rintro e w37 ⟨rfl, hb⟩; refine ⟨_, rfl, ?_⟩; have n0_ := Aside0.mk (Kd.R_below (by (with_reducible repeat (first | apply Kd.R_alloc | apply Kd.R_drewN | apply Kd.R_drew)); exact HO_4.out) hb); have n1_ := Aside0.mk (blk_below (g := gb185) (o := .cells #[.int .i64 t182, .int .i64 t183, .int .i64 t184] 36 (0, 0)) (by (with_reducible repeat (first | refine blk_drewN ?_ _ | refine blk_drew ?_ | refine blk_alloc ?_ _)); exact BK185.out) hb); have n2_ := Aside0.mk (below_step (by repeat (first | (with_reducible first | exact HB.out | apply below_alloc | apply pw_below_drewN | apply below_drew1 | refine below_set ?_ GE185.out) | exact HB.out)) hb); clear HO_4; clear BK185; clear HB; have HO_4 := n0_; have BK185 := n1_; have HB := n2_; clear n0_ n1_ n2_; (try clear hb); (try clear hb2); (try clear hk); (try clear hi)) | ((with_reducible refine gate_callee (f := 40) rfl ?_); refine goesL_ (some 36) rfl rfl Try.func40 (by kernel_rfl) rfl #[.slice Ao8 t179.length co8] rfl (by (try simp only [List.map_toArray, List.map_cons, List.map_nil]); first | done | rfl | (simp only [List.length_drop, List.length_take]; rfl)) ?_; (with_reducible refine (qpa_Miss.calls kj4 _ _ t179 t188 t189 _ ?side1 ?side2 A20.out).mono ?_); (case side1 => repeat (first | exact (Kd.R_reads' HO_4.out).2.2 | (with_reducible refine Kd.C_alloc ?_ _) | (with_reducible refine Kd.C_drewN ?_ _) | (with_reducible refine Kd.C_drew ?_))); (case side2 => exact (Kd.R_reads' HO_4.out).2.1); rintro e w38 ⟨rfl, hb⟩; refine ⟨_, rfl, ?_⟩; have n0_ := Aside0.mk (Kd.R_below (by (with_reducible repeat (first | apply Kd.R_alloc | apply Kd.R_drewN | apply Kd.R_drew)); exact HO_4.out) hb); have n1_ := Aside0.mk (blk_below (g := gb185) (o := .cells #[.int .i64 t182, .int .i64 t183, .int .i64 t184] 36 (0, 0)) (by (with_reducible repeat (first | refine blk_drewN ?_ _ | refine blk_drew ?_ | refine blk_alloc ?_ _)); exact BK185.out) hb); have n2_ := Aside0.mk (below_step (by repeat (first | (with_reducible first | exact HB.out | apply below_alloc | apply pw_below_drewN | apply below_drew1 | refine below_set ?_ GE185.out) | exact HB.out)) hb); clear HO_4; clear BK185; clear HB; have HO_4 := n0_; have BK185 := n1_; have HB := n2_; clear n0_ n1_ n2_; (try clear hb); (try clear hb2); (try clear hk); (try clear hi); have hcz39_0 : w38.cell? ⟨gb185, 0, none⟩ = some (.int .i64 t182) := (blk_cell BK185.out 0).trans rfl; have hcz39_1 : w38.cell? ⟨gb185, 1, none⟩ = some (.int .i64 t183) := (blk_cell BK185.out 1).trans rfl; have hcz39_2 : w38.cell? ⟨gb185, 2, none⟩ = some (.int .i64 t184) := (blk_cell BK185.out 2).trans rfl; have hfz39_0 := blk_frozen BK185.out 0; have hfz39_1 := blk_frozen BK185.out 1; have hfz39_2 := blk_frozen BK185.out 2) | ((with_reducible refine gate_callee (f := 41) rfl ?_); refine goesL_ (some 42) rfl rfl Try.func41 (by kernel_rfl) rfl #[.slice Ao8 t179.length co8, .int .i64 t183] rfl (by (try simp only [List.map_toArray, List.map_cons, List.map_nil]); first | done | rfl | (simp only [List.length_drop, List.length_take]; rfl)) ?_; (with_reducible refine (horariumlaw12_run.calls _ _ t179 t183 t190 _ ?side1 ?side2 A21.out).mono ?_); (case side1 => repeat (first | exact (Kd.R_reads' HO_4.out).2.2 | (with_reducible refine Kd.C_alloc ?_ _) | (with_reducible refine Kd.C_drewN ?_ _) | (with_reducible refine Kd.C_drew ?_))); (case side2 => exact (Kd.R_reads' HO_4.out).2.1); rintro e w40 ⟨rfl, hb⟩; refine ⟨_, rfl, ?_⟩; have n0_ := Aside0.mk (Kd.R_below (by (with_reducible repeat (first | apply Kd.R_alloc | apply Kd.R_drewN | apply Kd.R_drew)); exact HO_4.out) hb); have n1_ := Aside0.mk (blk_below (g := gb185) (o := .cells #[.int .i64 t182, .int .i64 t183, .int .i64 t184] 36 (0, 0)) (by (with_reducible repeat (first | refine blk_drewN ?_ _ | refine blk_drew ?_ | refine blk_alloc ?_ _)); exact BK185.out) hb); have n2_ := Aside0.mk (below_step (by repeat (first | (with_reducible first | exact HB.out | apply below_alloc | apply pw_below_drewN | apply below_drew1 | refine below_set ?_ GE185.out) | exact HB.out)) hb); clear HO_4; clear BK185; clear HB; have HO_4 := n0_; have BK185 := n1_; have HB := n2_; clear n0_ n1_ n2_; (try clear hb); (try clear hb2); (try clear hk); (try clear hi)))
          go_ret
          exact ⟨by first | rfl | (simp [errW_none, errW_some] <;> rfl) | (simp [*, errW_none, errW_some] <;> rfl), by repeat (first | (with_reducible first | exact HB.out | apply below_alloc | apply pw_below_drewN | apply below_drew1 | refine below_set ?_ GE185.out) | exact HB.out)⟩

def WF31 (x : S31) : Prop := (Lit.int .i64 x.f0).wf = true ∧ (Lit.int .i64 x.f1).wf = true ∧ (Lit.int .i64 x.f2).wf = true
set_option maxRecDepth 100000 in
theorem openk31 {H : Type} {enc : TypeId × Value → H} {W : World} {base : Nat} {spare : Nat → Bool} {held : Bool} {m : Nat} {cs : List Value} {x : DataW H × List MemPlace} (h : DataW.trod enc Try.prog W base spare held m 31 cs = some x) : ∃ y : S31, cs = [.int .i64 y.f0, .int .i64 y.f1, .int .i64 y.f2] ∧ WF31 y := by
  obtain ⟨xs, n, _, _, hl, hx, hf⟩ := DataW.trod_array Try.underlying31 h
  rw [show Try.prog.cellsOf 31 = 3 from by kernel_rfl] at hl
  obtain ⟨c0, c1, c2, rfl⟩ : ∃ c0 c1 c2, cs = [c0, c1, c2] := by clear h hf; match cs, hl with | [c0, c1, c2], _ => exact ⟨c0, c1, c2, rfl⟩
  obtain ⟨y0, y1, y2, rfl⟩ : ∃ y0 y1 y2, xs = [y0, y1, y2] := by clear hf; match xs, hx with | [y0, y1, y2], _ => exact ⟨y0, y1, y2, rfl⟩
  have g0 := hf 0 (by omega)
  rw [show Try.prog.cellsOf 3 = 1 from by kernel_rfl] at g0
  obtain ⟨v0, q0, _, w0⟩ := DataW.trod_int (cs := [c0]) (x := y0) Try.underlying3 g0
  simp only [List.cons.injEq, and_true] at q0
  subst q0
  have g1 := hf 1 (by omega)
  rw [show Try.prog.cellsOf 3 = 1 from by kernel_rfl] at g1
  obtain ⟨v1, q1, _, w1⟩ := DataW.trod_int (cs := [c1]) (x := y1) Try.underlying3 g1
  simp only [List.cons.injEq, and_true] at q1
  subst q1
  have g2 := hf 2 (by omega)
  rw [show Try.prog.cellsOf 3 = 1 from by kernel_rfl] at g2
  obtain ⟨v2, q2, _, w2⟩ := DataW.trod_int (cs := [c2]) (x := y2) Try.underlying3 g2
  simp only [List.cons.injEq, and_true] at q2
  subst q2
  refine ⟨⟨v0, v1, v2⟩, rfl, ?_⟩
  unfold WF31
  exact ⟨w0, w1, w2⟩
theorem addr_add_add (a : Addr) (i j : Nat) : (a.add i).add j = a.add (i + j) := by
  unfold Addr.add
  by_cases hi : i = 0 <;> by_cases hj : j = 0 <;> simp [hi, hj, Nat.add_assoc]
theorem rowsk31 {H : Type} {enc : TypeId × Value → H} {W : World} {base : Nat} {spare : Nat → Bool} {held : Bool} {t : Nat} {a : Option Addr} {len cap : Nat} {d : DataW H} {ps : List MemPlace} (hu : Try.prog.underlying t = some (.slice 31)) (h : DataW.Trod enc Try.prog W base spare held t (.slice a len cap) d ps) : ∃ l : List S31, l.length = len ∧ Kd.C k31 W a l.length l ∧ l.length ≤ cap ∧ ∀ x ∈ l, WF31 x := by
  obtain ⟨fuel, hf⟩ := h
  rcases Go.Deep.open_slice hu hf with ⟨hcs, _⟩ | ⟨x, l, c, m, n, D, Pl, hcs, hb, hl, hm, hmm, _, hel⟩
  · simp [Value.cells] at hcs
    obtain ⟨rfl, rfl, rfl⟩ := hcs
    exact ⟨[], rfl, Kd.C_nil _ _, Nat.le_refl _, by simp⟩
  · simp [Value.cells] at hcs
    obtain ⟨rfl, rfl, rfl⟩ := hcs
    have hle : len ≤ m := by rw [hmm]; split <;> omega
    rw [show Try.prog.cellsOf 31 = 3 from by kernel_rfl] at hel
    have hc : ∀ i, i < len → ∃ y : S31, W.cells? base (x.add (i * 3)) 3 = some [.int .i64 y.f0, .int .i64 y.f1, .int .i64 y.f2] ∧ WF31 y := by
      intro i hi
      obtain ⟨cs', h1, h2⟩ := hel i (by omega)
      obtain ⟨y, rfl, wy⟩ := openk31 h2
      exact ⟨y, h1, wy⟩
    haveI : Inhabited S31 := ⟨z31⟩
    obtain ⟨Y, hY⟩ := Go.Deep.choose_lt hc
    have hlen : ((List.range len).map Y).length = len := by simp
    refine ⟨(List.range len).map Y, hlen, ⟨rfl, by unfold maxLen at hm; omega, fun _ => ⟨x, rfl, fun j p hj => ?_⟩⟩, by omega, ?_⟩
    · obtain ⟨hj1, hj2⟩ := List.getElem?_eq_some_iff.1 hj
      have hj3 : j < len := by omega
      have hp : p = Y j := by rw [← hj2]; simp
      subst hp
      obtain ⟨h1, _⟩ := hY j hj3
      obtain ⟨_, _, h2⟩ := World.cells?_some h1
      refine ⟨[.int .i64 (Y j).f0, .int .i64 (Y j).f1, .int .i64 (Y j).f2], rfl, k31_mk _ _, fun i u hu => ?_⟩
      have hi : i < 3 := (List.getElem?_eq_some_iff.1 hu).1
      have h3 := h2 i hi
      rw [hu, addr_add_add] at h3
      exact h3
    · intro y hy
      obtain ⟨i, hi, rfl⟩ := List.mem_map.1 hy
      exact (hY i (by simpa using hi)).2
theorem sizedk31 {H : Type} {enc : TypeId × Value → H} {W : World} {base : Nat} {spare : Nat → Bool} {held : Bool} {t : Nat} {a : Option Addr} {len cap : Nat} {d : DataW H} {ps : List MemPlace} {ts : List TypeId} {ds : List (DataW H)} {j : Nat}
    (hsz : (DataW.weightsEach Try.prog ts ds).all (· ≤ reachBytes) = true) (ht : ts[j]? = some t) (hd : ds[j]? = some d) (hu : Try.prog.underlying t = some (.slice 31)) (h : DataW.Trod enc Try.prog W base spare held t (.slice a len cap) d ps) : len * 24 ≤ 140737488351232 := by
  obtain ⟨fuel, hf⟩ := h
  rcases Go.Deep.open_slice hu hf with ⟨hcs, _⟩ | ⟨x, l, c, m, n, D, Pl, hcs, hb, hl, hm, hmm, hx, hel⟩
  · simp [Value.cells] at hcs
    obtain ⟨rfl, rfl, rfl⟩ := hcs
    simp
  · simp [Value.cells] at hcs
    obtain ⟨rfl, rfl, rfl⟩ := hcs
    obtain ⟨rfl, _⟩ := Prod.mk.inj hx
    have z := sized_slice hsz ht hd hu
    rw [show Try.prog.bytesOf 31 = 24 from by kernel_rfl, List.length_map, List.length_range] at z
    exact Nat.le_trans (Nat.mul_le_mul_right _ (Nat.le_add_right _ _)) z
/-- THE ONE PURE STATEMENT of horariumlaw12_QpaRuns. -/
def horariumlaw12_QpaRuns.Pure : Prop := ∀ (l0 : List (S31)), l0.length * 24 ≤ 140737488351232 → (∀ x ∈ l0, WF31 x) → ∃ k, horariumlaw12_QpaRuns.f k l0 = some true
theorem horariumlaw12_QpaRuns.walk (P : horariumlaw12_QpaRuns.Pure) (A0 : Option Addr) (c0 : Nat) (l0 : List (S31)) (w : World) (hr0 : Kd.C k31 w A0 l0.length l0) (hc0 : l0.length ≤ c0) (y0 : l0.length * 24 ≤ 140737488351232) (w0 : (∀ x ∈ l0, WF31 x)) :
    Calls Try.prog 14 #[.slice A0 l0.length c0] w fun e w' => e = .returned (.bool true) ∧ Below w.heap.size w w' := by
  obtain ⟨k, h⟩ := P l0 y0 w0
  refine (horariumlaw12_QpaRuns.calls k A0 c0 l0 true w hr0 hc0 h).mono ?_
  rintro e w' ⟨rfl, hd⟩
  exact ⟨rfl, hd⟩

end Go.Proofs.Ythiepacmdlgajaa.PQpaRuns
