-- Made by px.py (a program of this session, over the kit's printer) out of the translation. Not trusted: Lean checks it.
import Derived.Test.YthiepacmdlgajaaPBusyLengthsx0
import Derived.Test.YthiepacmdlgajaaPBusyLengthsx2
namespace Go.Proofs.Ythiepacmdlgajaa.PBusyLengths
open Go.RowKit Go.Proofs.YthiepacmdlgajaaW.PrintWords Go.Proofs.YthiepacmdlgajaaW.PrintLast Go.Proofs.YthiepacmdlgajaaW.PrintMore
attribute [local go_sem] max2_int min2_int max_two min_two max_three min_three max_four min_four   -- for this text's walks alone
set_option linter.unusedVariables false
set_option linter.unusedSimpArgs false

/-! ### busy_Steps: function 25 (by hand) -/
-- busy_Work busy_right param_Row busy_may busy_Length
def busy_Steps.f (k : Nat) (l0 : List S28) : Option (List Int) := (busy_right.f k l0).bind fun e => if e = 0 then (if l0 = [] then some [] else (stepsL l0 k (sumF l0)).bind fun xs => if xs.length < 10000000000000 then some xs else none) else some []
theorem busy_Steps.mono : ∀ a0 k, LeO (busy_Steps.f k a0) (busy_Steps.f (k + 1) a0) := by
  intro a0 k
  unfold busy_Steps.f
  exact LeO.bind (busy_right.mono _ k) (fun e => LeO.ite (LeO.ite (LeO.refl _) (LeO.bind (stepsL_mono a0 k _) (fun _ => LeO.refl _))) (LeO.refl _))
theorem own_ne {W : World} {base e size n r : Nat} {v : Value} {xs : List Value} (h : W.ownsRow base e size v n xs) (hr : r < base ∨ ∃ o : Obj, W.heap[r]? = some o ∧ o.isCells = false) : v.ownBlock = none ∨ v.ownBlock ≠ some r := by
  rcases h.2 with ⟨rfl, _⟩ | ⟨g, cap, cur, rfl, hb, hg, _⟩
  · exact .inl rfl
  · refine .inr fun e' => ?_
    have : g = r := by simpa [Value.ownBlock] using e'
    subst this
    rcases hr with hr | ⟨o, ho, hc⟩
    · omega
    · rw [hg] at ho; cases ho; cases hc
theorem own_cells {W : World} {base e size n j : Nat} {v : Value} {xs : List Value} {o : Obj} (h : W.ownsRow base e size v n xs) (ej : v.ownBlock = some j) (hj : W.heap[j]? = some o) : o.isCells = true ∧ base ≤ j := by
  rcases h.2 with ⟨rfl, _⟩ | ⟨g, cap, cur, rfl, hb, hg, _⟩
  · simp [Value.ownBlock] at ej
  · have : g = j := by simpa [Value.ownBlock] using ej
    subst this; rw [hg] at hj; cases hj; exact ⟨rfl, hb⟩
theorem own_R {W : World} {base base' e : Nat} {v : Value} {xs : List Int} (h : W.ownsRow base e 1 v xs.length (xs.map (Value.int .i64))) (hb : base' ≤ base) : Kd.R (Kd.int .i64) e W base' (fun _ => True) v xs := by
  refine ⟨fun _ _ => trivial, xs.map (Value.int .i64), ⟨h.1, ?_⟩, by show (xs.map (Value.int .i64)).length = xs.length * 1; simp, fun j p hp => ?_⟩
  · rcases h.2 with h' | ⟨g, cap, cur, h1, h2, h3⟩
    · exact .inl h'
    · exact .inr ⟨g, cap, cur, h1, Nat.le_trans hb h2, h3⟩
  · obtain ⟨hj, rfl⟩ := List.getElem?_eq_some_iff.1 hp
    show List.take 1 (List.drop (j * 1) (xs.map (Value.int .i64))) = [Value.int .i64 xs[j]]
    rw [Nat.mul_one, List.drop_eq_getElem_cons (by simpa using hj)]; simp
set_option maxHeartbeats 4000000 in
set_option maxRecDepth 100000 in
theorem busy_Steps.calls (k : Nat) (A0 : Option Addr) (c0 : Nat) (l0 : List S28) (r : List Int) (w : World) (hr0 : Kd.C k28 w A0 l0.length l0) (hc0 : l0.length ≤ c0) (h : busy_Steps.f k l0 = some r) :
    Calls Try.prog 25 #[.slice A0 l0.length c0] w fun e w' => ∃ v0_ : Value, e = .returned (v0_) ∧ Kd.R (Kd.int .i64) 2 w' w.heap.size (fun _ => True) v0_ r ∧ Below w.heap.size w w' := by
  have hu := Try.underlying28
  have hmax : l0.length ≤ 9223372036854775807 := Kd.C_max hr0
  unfold busy_Steps.f at h
  obtain ⟨er, her, h⟩ := Option.bind_eq_some_iff.mp h
  have HR := Lib.hid (busy_right.calls k A0 c0 l0 er w hr0 hc0 her)
  have HR0 := Aside0.mk hr0
  have HC0 := Aside0.mk hc0
  clear hr0 hc0 her
  by_cases he : er = 0
  · subst he
    rw [if_pos rfl] at h
    by_cases hl : l0 = []
    · rw [if_pos hl] at h
      have HE := Lib.hid (Option.some.inj h)
      have hlz : ((l0.length : Int) == 0) = true := by rw [hl]; rfl
      clear h hl
      go_enter Try.func25, Try.ntmps25
      go_wp2_with (go_at_call 46; refine HR.out.mono ?_; rintro e w1 ⟨rfl, hb1⟩; have HB1 := Aside0.mk hb1; clear hb1)
      go_ret
      exact ⟨_, rfl, by rw [← HE.out]; exact Kd.R_nil _ _ _ _ _, HB1.out⟩
    · rw [if_neg hl] at h
      obtain ⟨xs, hxs, h⟩ := Option.bind_eq_some_iff.mp h
      by_cases hN : xs.length < 10000000000000
      · rw [if_pos hN] at h
        have HE := Lib.hid (Option.some.inj h)
        have hlz : ((l0.length : Int) == 0) = false := by have := List.length_pos_iff.2 hl; rw [beq_eq_false_iff_ne]; omega
        have HXS := Lib.hid hxs
        clear h hl hxs
        refine (callsIn_wide (n := 5)).1 ?_
        refine callsIn_of_wp_marks Try.func25 rfl trivial ?_ rfl
        simp only [Try.ntmps25, List.size_toArray, List.length_cons, List.length_nil, Nat.reduceAdd, Nat.reduceSub, Array.replicate_succ, Array.replicate_zero, List.push_toArray, List.append_toArray, List.nil_append, List.cons_append]
        gi_wp2
        refine ⟨trivial, (callsIn_wide.2 HR.out).mono ?_⟩
        rintro e w1 ⟨rfl, hb1⟩
        have HB1 := Aside0.mk hb1
        clear hb1
        gi_wp2
        refine ⟨trivial, (callsIn_wide.2 (stepsMake.calls A0 c0 l0 _ (Kd.C_alloc (Kd.C_below HR0.out HB1.out) _) HC0.out)).mono ?_⟩
        rintro e w2 ⟨Bl, Bx, Bn, rfl, hst⟩
        have HST := Lib.hid hst
        clear hst
        gi_wp2
        have hst := HST.out
        have hst2 := steps_rebase hst (below_alloc HB1.out _)
        have hbe : w2.heap[w1.heap.size]? = some (.cells #[.slice none 0 0] 44 (0, 0)) := (hst.hb.block _ (by simp)).trans (by simpa using heap_alloc_new w1 _)
        have hw1 : w.heap.size ≤ w1.heap.size := HB1.out.size
        have sl : w1.heap.size < Bl := by have := hst.gl; simp at this; omega
        have sx : w1.heap.size < Bx := by have := hst.gx; simp at this; omega
        have sn : w1.heap.size < Bn := by have := hst.gn; simp at this; omega
        have zl : Bl < w2.heap.size := (Array.getElem?_eq_some_iff.1 hst.hl).1
        have zx : Bx < w2.heap.size := (Array.getElem?_eq_some_iff.1 hst.hx).1
        have zn : Bn < w2.heap.size := (Array.getElem?_eq_some_iff.1 hst.hn).1
        clear hst HST
        obtain ⟨be, hbeq⟩ : ∃ be, w1.heap.size = be := ⟨_, rfl⟩
        rw [hbeq] at hbe hw1 sl sx sn ⊢
        clear hbeq
        obtain ⟨i0, hi0, hz0, hz1, hz2⟩ := info_parts info2
        refine PxR.rangeX rfl (by omega) (gf := 69) (lb := #[.pointer (some ⟨Bx, 0, none⟩), .pointer (some ⟨Bn, 0, none⟩)]) rfl trivial (enters_of Try.func69 (by kernel_rfl) rfl) (steps_seq A0 c0 l0 w w2 HR0.out HC0.out Bl Bx Bn (sumF l0) hst2 k xs HXS.out 4 (by omega)) ?kt ?kb (Below.refl _ _) (fun _ => rfl) ?ok (fun pre W => Below w.heap.size w W ∧ w2.heap.size ≤ W.heap.size ∧ ∃ v, W.heap[be]? = some (.cells #[v] 44 (0, 0)) ∧ W.ownsRow w2.heap.size 2 1 v pre.length (pre.map (Value.int .i64))) (fun _ _ _ => False) ?hI ?hIx ⟨hst2.hb, Nat.le_refl _, _, hbe, by simp, .inl ⟨rfl, rfl⟩⟩ (fun x => { tmps := #[.slice A0 l0.length c0, undef, .slice none 0 0, .pointer (some ⟨be, 0, none⟩), .int .i64 x, .slice A0 l0.length c0, .int .i64 0, .bool false, .bool false, .slice A0 l0.length c0, .int .i64 l0.length, .bool false, .bool false, .slice A0 l0.length c0, .func (.func 69) #[] #[.pointer (some ⟨Bx, 0, none⟩), .pointer (some ⟨Bn, 0, none⟩)], .int .i64 x, undef, undef, undef, undef, undef], defers := [] }) ?assign ?body ?done ?stop
        case kt => exact fun h k => ⟨h.1.trans k.1, k.2.1.trans h.2.1, k.2.2.1.trans h.2.2.1, k.2.2.2.trans h.2.2.2⟩
        case kb =>
          intro W o o' h _
          have hz := (Array.getElem?_eq_some_iff.1 h).1
          exact ⟨(Below.refl _ W).grown (grownBy_putObj' W _ o') (by omega) (fun k e => by cases e; omega), World.putObj_heap_other (by omega), World.putObj_heap_other (by omega), World.putObj_heap_other (by omega)⟩
        case ok => intro r hr; subst hr; omega
        case hI =>
          rintro s A B row ⟨h1, h2, v, hv, hown⟩ hgr hr
          have hz := (Array.getElem?_eq_some_iff.1 hv).1
          refine ⟨h1.grown hgr (by omega) (fun r e => ?_), Nat.le_trans h2 hgr.size, v, PxR.blk_other hgr hv (fun e => ?_), ?_⟩
          · rcases hr r e with h | ⟨h, _⟩
            · have h' : r = Bx := h
              omega
            · omega
          · rcases hr be e.symm with h | ⟨h, _⟩
            · have h' : be = Bx := h
              omega
            · omega
          · cases row with
            | none => exact hown.kept hgr (by cases v.ownBlock <;> simp)
            | some r =>
              refine hown.kept hgr (own_ne hown ?_)
              rcases hr r rfl with h | ⟨_, h⟩
              · have h' : r = Bx := h
                exact Or.inl (by omega)
              · exact Or.inr h
        case hIx => exact fun _ _ _ _ _ hs _ _ => hs
        case assign =>
          intro l x W K hK
          gi_wp2_with (rw [Oper.semAt_eq _ _ _ (fun c h => by cases h)]; go_simp; try go_bits)
          exact hK
        case body =>
          rintro l pre x W ⟨hb, h2, v, hc, hown⟩ hlen
          have c1 : W.cell? ⟨be, 0, none⟩ = some v := (blk_cell hc 0).trans rfl
          have f1 : W.frozen? ⟨be, 0, none⟩ = false := blk_frozen hc 0
          generalize Fence.wide = F0
          gi_wp2_with (first
            | (gi_at_builtin; refine wpListIn_append_own _ rfl _ _ 44 rfl w2.heap.size 2 i0 (.int .i64 0) 1 8 Try.underlying44 hi0 hz0 hz1 hz2 rfl (by decide) _ _ _ rfl (hown.alloc _) ⟨W.heap.size, 0, none⟩ 1 1 [.int .i64 x] rfl rfl (cell_one_new _ _ _) (by simp [Value.oneCell']) (by unfold maxLen; omega) (by omega) (by simp; omega) ?_; intro v' w3 hown' hg3 hnil3
               replace hg3 : (W.alloc (.cells #[.int .i64 x] 2)).grownBy w3 v.ownBlock := hg3
               have hbl : be < W.heap.size := by omega
               have ne3 : ∀ q, q < w2.heap.size → some q ≠ v.ownBlock := fun q hq e => by
                 rcases own_ne hown (Or.inl hq) with h | h
                 · rw [h] at e; cases e
                 · exact h e.symm
               have keep3 : ∀ q, q < w2.heap.size → w3.heap[q]? = W.heap[q]? := fun q hq => (hg3.block q (by simp; omega) (ne3 q hq)).trans (Below.heap_alloc _ _ q (by omega))
               have hc3 := (keep3 be (by omega)).trans hc
               have c3 : w3.cell? ⟨be, 0, none⟩ = some v := (blk_cell hc3 0).trans rfl
               have f3 : w3.frozen? ⟨be, 0, none⟩ = false := blk_frozen hc3 0
               have hb3 : Below w.heap.size W w3 := ((Below.refl w.heap.size W).alloc (by omega) _).grown hg3 (by simp; omega) (fun q e => by
                 obtain ⟨o, ho⟩ : ∃ o, (W.alloc (.cells #[.int .i64 x] 2)).heap[q]? = some o := by
                   rcases (hown.alloc (.cells #[.int .i64 x] 2)).2 with ⟨rfl, _⟩ | ⟨g, cap, cur, rfl, _, hg, _⟩
                   · simp [Value.ownBlock] at e
                   · have : g = q := by simpa [Value.ownBlock] using e
                     subst this; exact ⟨_, hg⟩
                 have := (own_cells (hown.alloc _) e ho).2
                 omega)
               have hk3 : KeepsOthers W w3 := (KeepsOthers.alloc W _).trans (KeepsOthers.of_grownBy hg3 (fun j o ej hj => (own_cells (hown.alloc _) ej hj).1))
               have HB3 := Lib.hid hb3
               have HK3 := Lib.hid hk3
               have KP3 := Lib.hid keep3
               obtain ⟨g', cap', rfl⟩ : ∃ g' cap', v' = .slice (some ⟨g', 0, none⟩) (pre.length + 1) cap' := by
                 rcases hown'.2 with ⟨_, h0⟩ | ⟨g', cap', _, h', _⟩
                 · exact absurd h0 (by omega)
                 · exact ⟨g', cap', h'⟩
               have HO3 := Lib.hid hown'
               have HC3 := Lib.hid hc3
               clear hb3 hk3 keep3 hown' hc3 ne3
               go_frame)
            | (rw [Oper.semAt_eq _ _ _ (fun c h => by cases h)]; go_simp; try go_bits))
          refine ⟨HK3.out.trans (KeepsOthers.setCell _ _ _), ⟨HB3.out.setCell (p := ⟨be, 0, none⟩) hw1 _, (Below.heap_setCell _ ⟨be, 0, none⟩ _ _ (by show _ ≠ be; omega)).trans (KP3.out _ (by omega)), (Below.heap_setCell _ ⟨be, 0, none⟩ _ _ (by show _ ≠ be; omega)).trans (KP3.out _ (by omega)), (Below.heap_setCell _ ⟨be, 0, none⟩ _ _ (by show _ ≠ be; omega)).trans (KP3.out _ (by omega))⟩, ((hb.trans HB3.out).setCell (p := ⟨be, 0, none⟩) hw1 _), by have := HB3.out.size; have := HK3.out.size; simp; omega, .slice (some ⟨g', 0, none⟩) (pre.length + 1) cap', by simpa using blk_set HC3.out 0 (.slice (some ⟨g', 0, none⟩) (pre.length + 1) cap'), ?_⟩
          have := HO3.out.kept (PxR.grown_set w3 ⟨be, 0, none⟩ (.slice (some ⟨g', 0, none⟩) (pre.length + 1) cap')) (own_ne HO3.out (Or.inl (show be < w2.heap.size by omega)))
          simpa using this
        case done =>
          rintro D ys W hD rfl ⟨hb, h2, v, hc, hown⟩ hK
          have c1 : W.cell? ⟨be, 0, none⟩ = some v := (blk_cell hc 0).trans rfl
          gi_wp2
          refine ⟨by simp, .inl ⟨_, _, rfl, run_takeDeferred hK, ?_⟩⟩
          have hz := (Array.getElem?_eq_some_iff.1 hK).1
          have hown2 := hown.kept (grownBy_putObj' W D (.deferred none)) (own_ne hown (Or.inr ⟨_, hK, rfl⟩))
          exact ⟨_, results_tmp rfl _ _ _, v, rfl, by rw [← HE.out]; exact own_R hown2 (by omega), hb.grown (grownBy_putObj' W D (.deferred none)) (by omega) (fun k e => by cases e; omega)⟩
        case stop =>
          rintro D c pre W _ _ h _
          exact h.elim
      · rw [if_neg hN] at h; cases h
  · rw [if_neg he] at h
    have HE := Lib.hid (Option.some.inj h)
    have hne : (er != 0) = true := by simpa using he
    clear h he
    go_enter Try.func25, Try.ntmps25
    go_wp2_with (go_at_call 46; refine HR.out.mono ?_; rintro e w1 ⟨rfl, hb1⟩; have HB1 := Aside0.mk hb1; clear hb1)
    go_ret
    exact ⟨_, rfl, by rw [← HE.out]; exact Kd.R_nil _ _ _ _ _, HB1.out⟩

/-! ### horariumref10_Same: function 30 -/
def horariumref10_Same.l0 : Nat → List Int → List Int → Int → Option (Bool)
  | 0, _, _, _ => none
  | k + 1, x0, x1, x5 => if x5 < (x0.length : Int) then (if 0 ≤ x5 then (if x5 < (x1.length : Int) then (if (rd x0 x5) = (rd x1 x5) then (horariumref10_Same.l0 k x0 x1 (wrap64 (x5 + 1))) else (some false)) else (none)) else (none)) else (some true)
def horariumref10_Same.f (k : Nat) (l0 : List Int) (l1 : List Int) : Option (Bool) := if (l0.length : Int) = (l1.length : Int) then (horariumref10_Same.l0 k l0 l1 0) else (some false)
theorem horariumref10_Same.mono_l : ∀ k, (∀ y0 y1 y2, LeO (horariumref10_Same.l0 k y0 y1 y2) (horariumref10_Same.l0 (k + 1) y0 y1 y2))
  | 0 => fun _ _ _ r h => by simp [horariumref10_Same.l0] at h
  | k + 1 => by
    have ih0 := horariumref10_Same.mono_l k
    · intro y0 y1 y2
      unfold horariumref10_Same.l0
      repeat' first
      | (with_reducible exact ih0 _ _ _)
      | (with_reducible exact LeO.refl _)
      | (with_reducible exact LeO.none _)
      | (with_reducible refine LeO.ite ?_ ?_)
      | (with_reducible refine LeO.bind ?_ (fun _ => ?_))
      | exact ih0 _ _ _
      | exact LeO.none _
      | refine LeO.ite ?_ ?_
      | refine LeO.bind ?_ (fun _ => ?_)
theorem horariumref10_Same.mono : ∀ a0 a1 k, LeO (horariumref10_Same.f k a0 a1) (horariumref10_Same.f (k + 1) a0 a1) := by
  intro a0 a1 k
  have ih0 := horariumref10_Same.mono_l k
  unfold horariumref10_Same.f
  repeat' first
      | (with_reducible exact ih0 _ _ _)
      | (with_reducible exact LeO.refl _)
      | (with_reducible exact LeO.none _)
      | (with_reducible refine LeO.ite ?_ ?_)
      | (with_reducible refine LeO.bind ?_ (fun _ => ?_))
      | exact ih0 _ _ _
      | exact LeO.none _
      | refine LeO.ite ?_ ?_
      | refine LeO.bind ?_ (fun _ => ?_)
set_option maxHeartbeats 8000000 in
set_option maxRecDepth 100000 in
theorem horariumref10_Same.calls (k : Nat) (A0 : Option Addr) (c0 : Nat) (l0 : List Int) (A1 : Option Addr) (c1 : Nat) (l1 : List Int) (r : Bool) (w : World) (hr0 : Kd.C (Kd.int .i64) w A0 l0.length l0) (hc0 : l0.length ≤ c0) (hr1 : Kd.C (Kd.int .i64) w A1 l1.length l1) (hc1 : l1.length ≤ c1) (h : horariumref10_Same.f k l0 l1 = some r) :
    Calls Try.prog 30 #[.slice A0 l0.length c0, .slice A1 l1.length c1] w fun e w' => e = .returned (.bool r) ∧ Drawn0 w w' := by
  have HR0 := Aside0.mk hr0
  have HC0 := Aside0.mk hc0
  clear hr0 hc0
  have HR1 := Aside0.mk hr1
  have HC1 := Aside0.mk hc1
  clear hr1 hc1
  have H : (if (l0.length : Int) = (l1.length : Int) then (horariumref10_Same.l0 k l0 l1 0) else (some false)) = some r := h
  clear h
  by_cases c3 : (l0.length : Int) = (l1.length : Int)
  · rw [if_pos c3] at H
    have c3b0 : ((l0.length : Int) == (l1.length : Int)) = true := beq_iff_eq.mpr c3
    have c3b1 : ((l0.length : Int) != (l1.length : Int)) = false := bne_eq_false_iff_eq.mpr c3
    have c3b2 : (l0.length == l1.length) = true := by first | simpa using c3 | (simp at c3 ⊢; omega)
    clear c3
    have H' := Aside0.mk H
    clear H
    go_enter Try.func30, Try.ntmps30
    go_wp2
    repeat (go_quiet (fail); try go_wp2)
    go_loopg [5] k (fun kq v5 w' => ∃ (x5_1 : Int), v5 = .int .i64 x5_1 ∧ Aside0 (horariumref10_Same.l0 kq l0 l1 x5_1 = some r) ∧ Aside0 (kq ≤ k) ∧ Drawn0 w w')
    case atStart => exact ⟨(0), (by first | rfl | (simp; done) | (simp [*]; done)), H', ⟨Nat.le_refl _⟩, by repeat (first | exact Drawn0.refl _ | apply Drawn0.step)⟩
    case round =>
      clear H'
      try clear c1
      try clear p2
      try clear c3
      try clear c3b0
      try clear c3b1
      try clear c3b2
      obtain ⟨x5_1, rfl, HA, HK1, ⟨m1, rfl⟩⟩ := hrel
      cases gk with
      | zero => exact absurd HA.out (by simp [horariumref10_Same.l0])
      | succ k1 =>
        have H := HA.out
        clear HA
        simp only [horariumref10_Same.l0] at H
        by_cases c4 : x5_1 < (l0.length : Int)
        · rw [if_pos c4] at H
          have c4b0 : decide (x5_1 < (l0.length : Int)) = true := decide_eq_true c4
          clear c4
          by_cases c5 : 0 ≤ x5_1
          · rw [if_pos c5] at H
            have c5b0 : decide (0 ≤ x5_1) = true := decide_eq_true c5
            clear c5
            by_cases c6 : x5_1 < (l1.length : Int)
            · rw [if_pos c6] at H
              have c6b0 : decide (x5_1 < (l1.length : Int)) = true := decide_eq_true c6
              clear c6
              by_cases c7 : (rd l0 x5_1) = (rd l1 x5_1)
              · rw [if_pos c7] at H
                have c7b0 : ((rd l0 x5_1) == (rd l1 x5_1)) = true := beq_iff_eq.mpr c7
                have c7b1 : ((rd l0 x5_1) != (rd l1 x5_1)) = false := bne_eq_false_iff_eq.mpr c7
                clear c7
                have H' := Aside0.mk H
                clear H
                have p134 : 0 ≤ (x5_1 : Int) := of_decide_eq_true (by first | (with_reducible assumption) | assumption)
                have q134 : x5_1 < (l0.length : Int) := of_decide_eq_true (by first | (with_reducible assumption) | assumption)
                obtain ⟨ad134, e134, hx134_0⟩ := Kd.at_int HR0.out x5_1 p134 q134
                cases e134
                replace p134 := eq_true p134
                replace q134 := eq_true q134
                have p135 : 0 ≤ (x5_1 : Int) := of_decide_eq_true (by first | (with_reducible assumption) | assumption)
                have q135 : x5_1 < (l1.length : Int) := of_decide_eq_true (by first | (with_reducible assumption) | assumption)
                obtain ⟨ad135, e135, hx135_0⟩ := Kd.at_int HR1.out x5_1 p135 q135
                cases e135
                replace p135 := eq_true p135
                replace q135 := eq_true q135
                go_wp2
                repeat (go_quiet (fail); try go_wp2)
                go_roundg k1
                case measure => have := HK1.out; omega
                case rel => exact ⟨(wrap64 (x5_1 + 1)), (by first | rfl | (simp; done) | (simp [*]; done)), H', ⟨by have := HK1.out; omega⟩, by repeat (first | exact Drawn0.refl _ | apply Drawn0.step)⟩
              · rw [if_neg c7] at H
                have c7b0 : ((rd l0 x5_1) == (rd l1 x5_1)) = false := beq_eq_false_iff_ne.mpr c7
                have c7b1 : ((rd l0 x5_1) != (rd l1 x5_1)) = true := bne_iff_ne.mpr c7
                obtain rfl := Option.some.inj H
                have p134 : 0 ≤ (x5_1 : Int) := of_decide_eq_true (by first | (with_reducible assumption) | assumption)
                have q134 : x5_1 < (l0.length : Int) := of_decide_eq_true (by first | (with_reducible assumption) | assumption)
                obtain ⟨ad134, e134, hx134_0⟩ := Kd.at_int HR0.out x5_1 p134 q134
                cases e134
                replace p134 := eq_true p134
                replace q134 := eq_true q134
                have p135 : 0 ≤ (x5_1 : Int) := of_decide_eq_true (by first | (with_reducible assumption) | assumption)
                have q135 : x5_1 < (l1.length : Int) := of_decide_eq_true (by first | (with_reducible assumption) | assumption)
                obtain ⟨ad135, e135, hx135_0⟩ := Kd.at_int HR1.out x5_1 p135 q135
                cases e135
                replace p135 := eq_true p135
                replace q135 := eq_true q135
                go_wp2
                repeat (go_quiet (fail); try go_wp2)
                go_ret
                exact ⟨by first | rfl | (simp; done) | (simp only [i64_w]; done) | (simp [*]; done), by repeat (first | exact Drawn0.refl _ | apply Drawn0.step)⟩
            · rw [if_neg c6] at H
              exact absurd H (by simp)
          · rw [if_neg c5] at H
            exact absurd H (by simp)
        · rw [if_neg c4] at H
          have c4b0 : decide (x5_1 < (l0.length : Int)) = false := decide_eq_false c4
          clear c4
          obtain rfl := Option.some.inj H
          go_wp2
          repeat (go_quiet (fail); try go_wp2)
          go_ret
          exact ⟨by first | rfl | (simp; done) | (simp only [i64_w]; done) | (simp [*]; done), by repeat (first | exact Drawn0.refl _ | apply Drawn0.step)⟩
  · rw [if_neg c3] at H
    have c3b0 : ((l0.length : Int) == (l1.length : Int)) = false := beq_eq_false_iff_ne.mpr c3
    have c3b1 : ((l0.length : Int) != (l1.length : Int)) = true := bne_iff_ne.mpr c3
    have c3b2 : (l0.length == l1.length) = false := by first | simpa using c3 | (simp at c3 ⊢; omega)
    obtain rfl := Option.some.inj H
    go_enter Try.func30, Try.ntmps30
    go_wp2
    repeat (go_quiet (fail); try go_wp2)
    go_ret
    exact ⟨by first | rfl | (simp; done) | (simp only [i64_w]; done) | (simp [*]; done), by repeat (first | exact Drawn0.refl _ | apply Drawn0.step)⟩

/-! ### horariumref09_Check: function 44 -/
def horariumref09_Check.f (a0_0 : Int) (a0_1 : Int) (a0_2 : Int) (a0_3 : Int) (a0_4 : Int) : Option (Bool) := if a0_0 ≥ 0 then (if a0_0 ≤ 1023 then (if a0_1 ≥ 1 then (if a0_1 ≤ a0_2 then (if a0_2 ≤ a0_3 then (if a0_3 ≤ 2147483648 then (if a0_4 ≥ 1 then (some (decide (a0_4 ≤ 15))) else (some false)) else (some false)) else (some false)) else (some false)) else (some false)) else (some false)) else (some false)
set_option maxHeartbeats 8000000 in
set_option maxRecDepth 100000 in
theorem horariumref09_Check.calls (a0_0 : Int) (a0_1 : Int) (a0_2 : Int) (a0_3 : Int) (a0_4 : Int) (r : Bool) (w : World) (h : horariumref09_Check.f a0_0 a0_1 a0_2 a0_3 a0_4 = some r) :
    Calls Try.prog 44 #[.agg #[.int .i64 a0_0, .int .i64 a0_1, .int .i64 a0_2, .int .i64 a0_3, .int .i64 a0_4]] w fun e w' => e = .returned (.bool r) ∧ Below w.heap.size w w' := by
  have hu28 := Try.underlying28
  have HB := Aside0.mk (Below.refl w.heap.size w)
  have H : (if a0_0 ≥ 0 then (if a0_0 ≤ 1023 then (if a0_1 ≥ 1 then (if a0_1 ≤ a0_2 then (if a0_2 ≤ a0_3 then (if a0_3 ≤ 2147483648 then (if a0_4 ≥ 1 then (some (decide (a0_4 ≤ 15))) else (some false)) else (some false)) else (some false)) else (some false)) else (some false)) else (some false)) else (some false)) = some r := h
  clear h
  by_cases c2 : a0_0 ≥ 0
  · rw [if_pos c2] at H
    have c2b0 : decide (0 ≤ a0_0) = true := decide_eq_true c2
    clear c2
    by_cases c3 : a0_0 ≤ 1023
    · rw [if_pos c3] at H
      have c3b0 : decide (a0_0 ≤ 1023) = true := decide_eq_true c3
      clear c3
      by_cases c4 : a0_1 ≥ 1
      · rw [if_pos c4] at H
        have c4b0 : decide (1 ≤ a0_1) = true := decide_eq_true c4
        clear c4
        by_cases c5 : a0_1 ≤ a0_2
        · rw [if_pos c5] at H
          have c5b0 : decide (a0_1 ≤ a0_2) = true := decide_eq_true c5
          clear c5
          by_cases c6 : a0_2 ≤ a0_3
          · rw [if_pos c6] at H
            have c6b0 : decide (a0_2 ≤ a0_3) = true := decide_eq_true c6
            clear c6
            by_cases c7 : a0_3 ≤ 2147483648
            · rw [if_pos c7] at H
              have c7b0 : decide (a0_3 ≤ 2147483648) = true := decide_eq_true c7
              clear c7
              by_cases c8 : a0_4 ≥ 1
              · rw [if_pos c8] at H
                have c8b0 : decide (1 ≤ a0_4) = true := decide_eq_true c8
                clear c8
                obtain rfl := Option.some.inj H
                go_enter Try.func44, Try.ntmps44
                go_wp2_with (first | ((with_reducible refine gate_dst (N := 1) rfl ?_); refine box_event ?hg (N := 1) ?hd (cs := #[.int .i64 a0_0, .int .i64 a0_1, .int .i64 a0_2, .int .i64 a0_3, .int .i64 a0_4]) (t := 28) ?hr ?_; (case hd => rfl); (case hg => rfl); (case hr => first | (go_simp; done) | (go_simp; rfl)); intro gb136 hg w9 hbox hb; have n0_ := Aside0.mk (below_step (by repeat (first | (with_reducible first | exact HB.out | apply below_alloc | apply pw_below_drewN | apply below_drew1) | exact HB.out)) hb); have n1_ := Aside0.mk (hbox); have n2_ := Aside0.mk ((by rw [hg]; exact (below_size (by repeat (first | (with_reducible first | exact HB.out | apply below_alloc | apply pw_below_drewN | apply below_drew1) | exact HB.out))) : w.heap.size ≤ gb136)); have n3_ := Aside0.mk ((by rw [hg]; exact (below_size (by repeat (first | (with_reducible first | exact HB.out | apply below_alloc | apply pw_below_drewN | apply below_drew1) | exact HB.out))) : w.heap.size ≤ gb136)); clear HB; have HB := n0_; have BK136 := n1_; have GW136 := n2_; have GE136 := n3_; clear n0_ n1_ n2_ n3_; clear hb hbox hg; have hcz10_0 : w9.cell? ⟨gb136, 0, none⟩ = some (.int .i64 a0_0) := (blk_cell BK136.out 0).trans rfl; have hcz10_1 : w9.cell? ⟨gb136, 1, none⟩ = some (.int .i64 a0_1) := (blk_cell BK136.out 1).trans rfl; have hcz10_2 : w9.cell? ⟨gb136, 2, none⟩ = some (.int .i64 a0_2) := (blk_cell BK136.out 2).trans rfl; have hcz10_3 : w9.cell? ⟨gb136, 3, none⟩ = some (.int .i64 a0_3) := (blk_cell BK136.out 3).trans rfl; have hcz10_4 : w9.cell? ⟨gb136, 4, none⟩ = some (.int .i64 a0_4) := (blk_cell BK136.out 4).trans rfl; have hfz10_0 := blk_frozen BK136.out 0; have hfz10_1 := blk_frozen BK136.out 1; have hfz10_2 := blk_frozen BK136.out 2; have hfz10_3 := blk_frozen BK136.out 3; have hfz10_4 := blk_frozen BK136.out 4))
                go_ret
                exact ⟨by first | rfl | (simp [errW_none, errW_some] <;> rfl) | (simp [*, errW_none, errW_some] <;> rfl), by repeat (first | (with_reducible first | exact HB.out | apply below_alloc | apply pw_below_drewN | apply below_drew1 | refine below_set ?_ GE136.out) | exact HB.out)⟩
              · rw [if_neg c8] at H
                have c8b0 : decide (1 ≤ a0_4) = false := decide_eq_false c8
                clear c8
                obtain rfl := Option.some.inj H
                go_enter Try.func44, Try.ntmps44
                go_wp2_with (first | ((with_reducible refine gate_dst (N := 1) rfl ?_); refine box_event ?hg (N := 1) ?hd (cs := #[.int .i64 a0_0, .int .i64 a0_1, .int .i64 a0_2, .int .i64 a0_3, .int .i64 a0_4]) (t := 28) ?hr ?_; (case hd => rfl); (case hg => rfl); (case hr => first | (go_simp; done) | (go_simp; rfl)); intro gb136 hg w11 hbox hb; have n0_ := Aside0.mk (below_step (by repeat (first | (with_reducible first | exact HB.out | apply below_alloc | apply pw_below_drewN | apply below_drew1) | exact HB.out)) hb); have n1_ := Aside0.mk (hbox); have n2_ := Aside0.mk ((by rw [hg]; exact (below_size (by repeat (first | (with_reducible first | exact HB.out | apply below_alloc | apply pw_below_drewN | apply below_drew1) | exact HB.out))) : w.heap.size ≤ gb136)); have n3_ := Aside0.mk ((by rw [hg]; exact (below_size (by repeat (first | (with_reducible first | exact HB.out | apply below_alloc | apply pw_below_drewN | apply below_drew1) | exact HB.out))) : w.heap.size ≤ gb136)); clear HB; have HB := n0_; have BK136 := n1_; have GW136 := n2_; have GE136 := n3_; clear n0_ n1_ n2_ n3_; clear hb hbox hg; have hcz12_0 : w11.cell? ⟨gb136, 0, none⟩ = some (.int .i64 a0_0) := (blk_cell BK136.out 0).trans rfl; have hcz12_1 : w11.cell? ⟨gb136, 1, none⟩ = some (.int .i64 a0_1) := (blk_cell BK136.out 1).trans rfl; have hcz12_2 : w11.cell? ⟨gb136, 2, none⟩ = some (.int .i64 a0_2) := (blk_cell BK136.out 2).trans rfl; have hcz12_3 : w11.cell? ⟨gb136, 3, none⟩ = some (.int .i64 a0_3) := (blk_cell BK136.out 3).trans rfl; have hcz12_4 : w11.cell? ⟨gb136, 4, none⟩ = some (.int .i64 a0_4) := (blk_cell BK136.out 4).trans rfl; have hfz12_0 := blk_frozen BK136.out 0; have hfz12_1 := blk_frozen BK136.out 1; have hfz12_2 := blk_frozen BK136.out 2; have hfz12_3 := blk_frozen BK136.out 3; have hfz12_4 := blk_frozen BK136.out 4))
                go_ret
                exact ⟨by first | rfl | (simp [errW_none, errW_some] <;> rfl) | (simp [*, errW_none, errW_some] <;> rfl), by repeat (first | (with_reducible first | exact HB.out | apply below_alloc | apply pw_below_drewN | apply below_drew1 | refine below_set ?_ GE136.out) | exact HB.out)⟩
            · rw [if_neg c7] at H
              have c7b0 : decide (a0_3 ≤ 2147483648) = false := decide_eq_false c7
              clear c7
              obtain rfl := Option.some.inj H
              go_enter Try.func44, Try.ntmps44
              go_wp2_with (first | ((with_reducible refine gate_dst (N := 1) rfl ?_); refine box_event ?hg (N := 1) ?hd (cs := #[.int .i64 a0_0, .int .i64 a0_1, .int .i64 a0_2, .int .i64 a0_3, .int .i64 a0_4]) (t := 28) ?hr ?_; (case hd => rfl); (case hg => rfl); (case hr => first | (go_simp; done) | (go_simp; rfl)); intro gb136 hg w13 hbox hb; have n0_ := Aside0.mk (below_step (by repeat (first | (with_reducible first | exact HB.out | apply below_alloc | apply pw_below_drewN | apply below_drew1) | exact HB.out)) hb); have n1_ := Aside0.mk (hbox); have n2_ := Aside0.mk ((by rw [hg]; exact (below_size (by repeat (first | (with_reducible first | exact HB.out | apply below_alloc | apply pw_below_drewN | apply below_drew1) | exact HB.out))) : w.heap.size ≤ gb136)); have n3_ := Aside0.mk ((by rw [hg]; exact (below_size (by repeat (first | (with_reducible first | exact HB.out | apply below_alloc | apply pw_below_drewN | apply below_drew1) | exact HB.out))) : w.heap.size ≤ gb136)); clear HB; have HB := n0_; have BK136 := n1_; have GW136 := n2_; have GE136 := n3_; clear n0_ n1_ n2_ n3_; clear hb hbox hg; have hcz14_0 : w13.cell? ⟨gb136, 0, none⟩ = some (.int .i64 a0_0) := (blk_cell BK136.out 0).trans rfl; have hcz14_1 : w13.cell? ⟨gb136, 1, none⟩ = some (.int .i64 a0_1) := (blk_cell BK136.out 1).trans rfl; have hcz14_2 : w13.cell? ⟨gb136, 2, none⟩ = some (.int .i64 a0_2) := (blk_cell BK136.out 2).trans rfl; have hcz14_3 : w13.cell? ⟨gb136, 3, none⟩ = some (.int .i64 a0_3) := (blk_cell BK136.out 3).trans rfl; have hcz14_4 : w13.cell? ⟨gb136, 4, none⟩ = some (.int .i64 a0_4) := (blk_cell BK136.out 4).trans rfl; have hfz14_0 := blk_frozen BK136.out 0; have hfz14_1 := blk_frozen BK136.out 1; have hfz14_2 := blk_frozen BK136.out 2; have hfz14_3 := blk_frozen BK136.out 3; have hfz14_4 := blk_frozen BK136.out 4))
              go_ret
              exact ⟨by first | rfl | (simp [errW_none, errW_some] <;> rfl) | (simp [*, errW_none, errW_some] <;> rfl), by repeat (first | (with_reducible first | exact HB.out | apply below_alloc | apply pw_below_drewN | apply below_drew1 | refine below_set ?_ GE136.out) | exact HB.out)⟩
          · rw [if_neg c6] at H
            have c6b0 : decide (a0_2 ≤ a0_3) = false := decide_eq_false c6
            clear c6
            obtain rfl := Option.some.inj H
            go_enter Try.func44, Try.ntmps44
            go_wp2_with (first | ((with_reducible refine gate_dst (N := 1) rfl ?_); refine box_event ?hg (N := 1) ?hd (cs := #[.int .i64 a0_0, .int .i64 a0_1, .int .i64 a0_2, .int .i64 a0_3, .int .i64 a0_4]) (t := 28) ?hr ?_; (case hd => rfl); (case hg => rfl); (case hr => first | (go_simp; done) | (go_simp; rfl)); intro gb136 hg w15 hbox hb; have n0_ := Aside0.mk (below_step (by repeat (first | (with_reducible first | exact HB.out | apply below_alloc | apply pw_below_drewN | apply below_drew1) | exact HB.out)) hb); have n1_ := Aside0.mk (hbox); have n2_ := Aside0.mk ((by rw [hg]; exact (below_size (by repeat (first | (with_reducible first | exact HB.out | apply below_alloc | apply pw_below_drewN | apply below_drew1) | exact HB.out))) : w.heap.size ≤ gb136)); have n3_ := Aside0.mk ((by rw [hg]; exact (below_size (by repeat (first | (with_reducible first | exact HB.out | apply below_alloc | apply pw_below_drewN | apply below_drew1) | exact HB.out))) : w.heap.size ≤ gb136)); clear HB; have HB := n0_; have BK136 := n1_; have GW136 := n2_; have GE136 := n3_; clear n0_ n1_ n2_ n3_; clear hb hbox hg; have hcz16_0 : w15.cell? ⟨gb136, 0, none⟩ = some (.int .i64 a0_0) := (blk_cell BK136.out 0).trans rfl; have hcz16_1 : w15.cell? ⟨gb136, 1, none⟩ = some (.int .i64 a0_1) := (blk_cell BK136.out 1).trans rfl; have hcz16_2 : w15.cell? ⟨gb136, 2, none⟩ = some (.int .i64 a0_2) := (blk_cell BK136.out 2).trans rfl; have hcz16_3 : w15.cell? ⟨gb136, 3, none⟩ = some (.int .i64 a0_3) := (blk_cell BK136.out 3).trans rfl; have hcz16_4 : w15.cell? ⟨gb136, 4, none⟩ = some (.int .i64 a0_4) := (blk_cell BK136.out 4).trans rfl; have hfz16_0 := blk_frozen BK136.out 0; have hfz16_1 := blk_frozen BK136.out 1; have hfz16_2 := blk_frozen BK136.out 2; have hfz16_3 := blk_frozen BK136.out 3; have hfz16_4 := blk_frozen BK136.out 4))
            go_ret
            exact ⟨by first | rfl | (simp [errW_none, errW_some] <;> rfl) | (simp [*, errW_none, errW_some] <;> rfl), by repeat (first | (with_reducible first | exact HB.out | apply below_alloc | apply pw_below_drewN | apply below_drew1 | refine below_set ?_ GE136.out) | exact HB.out)⟩
        · rw [if_neg c5] at H
          have c5b0 : decide (a0_1 ≤ a0_2) = false := decide_eq_false c5
          clear c5
          obtain rfl := Option.some.inj H
          go_enter Try.func44, Try.ntmps44
          go_wp2_with (first | ((with_reducible refine gate_dst (N := 1) rfl ?_); refine box_event ?hg (N := 1) ?hd (cs := #[.int .i64 a0_0, .int .i64 a0_1, .int .i64 a0_2, .int .i64 a0_3, .int .i64 a0_4]) (t := 28) ?hr ?_; (case hd => rfl); (case hg => rfl); (case hr => first | (go_simp; done) | (go_simp; rfl)); intro gb136 hg w17 hbox hb; have n0_ := Aside0.mk (below_step (by repeat (first | (with_reducible first | exact HB.out | apply below_alloc | apply pw_below_drewN | apply below_drew1) | exact HB.out)) hb); have n1_ := Aside0.mk (hbox); have n2_ := Aside0.mk ((by rw [hg]; exact (below_size (by repeat (first | (with_reducible first | exact HB.out | apply below_alloc | apply pw_below_drewN | apply below_drew1) | exact HB.out))) : w.heap.size ≤ gb136)); have n3_ := Aside0.mk ((by rw [hg]; exact (below_size (by repeat (first | (with_reducible first | exact HB.out | apply below_alloc | apply pw_below_drewN | apply below_drew1) | exact HB.out))) : w.heap.size ≤ gb136)); clear HB; have HB := n0_; have BK136 := n1_; have GW136 := n2_; have GE136 := n3_; clear n0_ n1_ n2_ n3_; clear hb hbox hg; have hcz18_0 : w17.cell? ⟨gb136, 0, none⟩ = some (.int .i64 a0_0) := (blk_cell BK136.out 0).trans rfl; have hcz18_1 : w17.cell? ⟨gb136, 1, none⟩ = some (.int .i64 a0_1) := (blk_cell BK136.out 1).trans rfl; have hcz18_2 : w17.cell? ⟨gb136, 2, none⟩ = some (.int .i64 a0_2) := (blk_cell BK136.out 2).trans rfl; have hcz18_3 : w17.cell? ⟨gb136, 3, none⟩ = some (.int .i64 a0_3) := (blk_cell BK136.out 3).trans rfl; have hcz18_4 : w17.cell? ⟨gb136, 4, none⟩ = some (.int .i64 a0_4) := (blk_cell BK136.out 4).trans rfl; have hfz18_0 := blk_frozen BK136.out 0; have hfz18_1 := blk_frozen BK136.out 1; have hfz18_2 := blk_frozen BK136.out 2; have hfz18_3 := blk_frozen BK136.out 3; have hfz18_4 := blk_frozen BK136.out 4))
          go_ret
          exact ⟨by first | rfl | (simp [errW_none, errW_some] <;> rfl) | (simp [*, errW_none, errW_some] <;> rfl), by repeat (first | (with_reducible first | exact HB.out | apply below_alloc | apply pw_below_drewN | apply below_drew1 | refine below_set ?_ GE136.out) | exact HB.out)⟩
      · rw [if_neg c4] at H
        have c4b0 : decide (1 ≤ a0_1) = false := decide_eq_false c4
        clear c4
        obtain rfl := Option.some.inj H
        go_enter Try.func44, Try.ntmps44
        go_wp2_with (first | ((with_reducible refine gate_dst (N := 1) rfl ?_); refine box_event ?hg (N := 1) ?hd (cs := #[.int .i64 a0_0, .int .i64 a0_1, .int .i64 a0_2, .int .i64 a0_3, .int .i64 a0_4]) (t := 28) ?hr ?_; (case hd => rfl); (case hg => rfl); (case hr => first | (go_simp; done) | (go_simp; rfl)); intro gb136 hg w19 hbox hb; have n0_ := Aside0.mk (below_step (by repeat (first | (with_reducible first | exact HB.out | apply below_alloc | apply pw_below_drewN | apply below_drew1) | exact HB.out)) hb); have n1_ := Aside0.mk (hbox); have n2_ := Aside0.mk ((by rw [hg]; exact (below_size (by repeat (first | (with_reducible first | exact HB.out | apply below_alloc | apply pw_below_drewN | apply below_drew1) | exact HB.out))) : w.heap.size ≤ gb136)); have n3_ := Aside0.mk ((by rw [hg]; exact (below_size (by repeat (first | (with_reducible first | exact HB.out | apply below_alloc | apply pw_below_drewN | apply below_drew1) | exact HB.out))) : w.heap.size ≤ gb136)); clear HB; have HB := n0_; have BK136 := n1_; have GW136 := n2_; have GE136 := n3_; clear n0_ n1_ n2_ n3_; clear hb hbox hg; have hcz20_0 : w19.cell? ⟨gb136, 0, none⟩ = some (.int .i64 a0_0) := (blk_cell BK136.out 0).trans rfl; have hcz20_1 : w19.cell? ⟨gb136, 1, none⟩ = some (.int .i64 a0_1) := (blk_cell BK136.out 1).trans rfl; have hcz20_2 : w19.cell? ⟨gb136, 2, none⟩ = some (.int .i64 a0_2) := (blk_cell BK136.out 2).trans rfl; have hcz20_3 : w19.cell? ⟨gb136, 3, none⟩ = some (.int .i64 a0_3) := (blk_cell BK136.out 3).trans rfl; have hcz20_4 : w19.cell? ⟨gb136, 4, none⟩ = some (.int .i64 a0_4) := (blk_cell BK136.out 4).trans rfl; have hfz20_0 := blk_frozen BK136.out 0; have hfz20_1 := blk_frozen BK136.out 1; have hfz20_2 := blk_frozen BK136.out 2; have hfz20_3 := blk_frozen BK136.out 3; have hfz20_4 := blk_frozen BK136.out 4))
        go_ret
        exact ⟨by first | rfl | (simp [errW_none, errW_some] <;> rfl) | (simp [*, errW_none, errW_some] <;> rfl), by repeat (first | (with_reducible first | exact HB.out | apply below_alloc | apply pw_below_drewN | apply below_drew1 | refine below_set ?_ GE136.out) | exact HB.out)⟩
    · rw [if_neg c3] at H
      have c3b0 : decide (a0_0 ≤ 1023) = false := decide_eq_false c3
      clear c3
      obtain rfl := Option.some.inj H
      go_enter Try.func44, Try.ntmps44
      go_wp2_with (first | ((with_reducible refine gate_dst (N := 1) rfl ?_); refine box_event ?hg (N := 1) ?hd (cs := #[.int .i64 a0_0, .int .i64 a0_1, .int .i64 a0_2, .int .i64 a0_3, .int .i64 a0_4]) (t := 28) ?hr ?_; (case hd => rfl); (case hg => rfl); (case hr => first | (go_simp; done) | (go_simp; rfl)); intro gb136 hg w21 hbox hb; have n0_ := Aside0.mk (below_step (by repeat (first | (with_reducible first | exact HB.out | apply below_alloc | apply pw_below_drewN | apply below_drew1) | exact HB.out)) hb); have n1_ := Aside0.mk (hbox); have n2_ := Aside0.mk ((by rw [hg]; exact (below_size (by repeat (first | (with_reducible first | exact HB.out | apply below_alloc | apply pw_below_drewN | apply below_drew1) | exact HB.out))) : w.heap.size ≤ gb136)); have n3_ := Aside0.mk ((by rw [hg]; exact (below_size (by repeat (first | (with_reducible first | exact HB.out | apply below_alloc | apply pw_below_drewN | apply below_drew1) | exact HB.out))) : w.heap.size ≤ gb136)); clear HB; have HB := n0_; have BK136 := n1_; have GW136 := n2_; have GE136 := n3_; clear n0_ n1_ n2_ n3_; clear hb hbox hg; have hcz22_0 : w21.cell? ⟨gb136, 0, none⟩ = some (.int .i64 a0_0) := (blk_cell BK136.out 0).trans rfl; have hcz22_1 : w21.cell? ⟨gb136, 1, none⟩ = some (.int .i64 a0_1) := (blk_cell BK136.out 1).trans rfl; have hcz22_2 : w21.cell? ⟨gb136, 2, none⟩ = some (.int .i64 a0_2) := (blk_cell BK136.out 2).trans rfl; have hcz22_3 : w21.cell? ⟨gb136, 3, none⟩ = some (.int .i64 a0_3) := (blk_cell BK136.out 3).trans rfl; have hcz22_4 : w21.cell? ⟨gb136, 4, none⟩ = some (.int .i64 a0_4) := (blk_cell BK136.out 4).trans rfl; have hfz22_0 := blk_frozen BK136.out 0; have hfz22_1 := blk_frozen BK136.out 1; have hfz22_2 := blk_frozen BK136.out 2; have hfz22_3 := blk_frozen BK136.out 3; have hfz22_4 := blk_frozen BK136.out 4))
      go_ret
      exact ⟨by first | rfl | (simp [errW_none, errW_some] <;> rfl) | (simp [*, errW_none, errW_some] <;> rfl), by repeat (first | (with_reducible first | exact HB.out | apply below_alloc | apply pw_below_drewN | apply below_drew1 | refine below_set ?_ GE136.out) | exact HB.out)⟩
  · rw [if_neg c2] at H
    have c2b0 : decide (0 ≤ a0_0) = false := decide_eq_false c2
    clear c2
    obtain rfl := Option.some.inj H
    go_enter Try.func44, Try.ntmps44
    go_wp2_with (first | ((with_reducible refine gate_dst (N := 1) rfl ?_); refine box_event ?hg (N := 1) ?hd (cs := #[.int .i64 a0_0, .int .i64 a0_1, .int .i64 a0_2, .int .i64 a0_3, .int .i64 a0_4]) (t := 28) ?hr ?_; (case hd => rfl); (case hg => rfl); (case hr => first | (go_simp; done) | (go_simp; rfl)); intro gb136 hg w23 hbox hb; have n0_ := Aside0.mk (below_step (by repeat (first | (with_reducible first | exact HB.out | apply below_alloc | apply pw_below_drewN | apply below_drew1) | exact HB.out)) hb); have n1_ := Aside0.mk (hbox); have n2_ := Aside0.mk ((by rw [hg]; exact (below_size (by repeat (first | (with_reducible first | exact HB.out | apply below_alloc | apply pw_below_drewN | apply below_drew1) | exact HB.out))) : w.heap.size ≤ gb136)); have n3_ := Aside0.mk ((by rw [hg]; exact (below_size (by repeat (first | (with_reducible first | exact HB.out | apply below_alloc | apply pw_below_drewN | apply below_drew1) | exact HB.out))) : w.heap.size ≤ gb136)); clear HB; have HB := n0_; have BK136 := n1_; have GW136 := n2_; have GE136 := n3_; clear n0_ n1_ n2_ n3_; clear hb hbox hg; have hcz24_0 : w23.cell? ⟨gb136, 0, none⟩ = some (.int .i64 a0_0) := (blk_cell BK136.out 0).trans rfl; have hcz24_1 : w23.cell? ⟨gb136, 1, none⟩ = some (.int .i64 a0_1) := (blk_cell BK136.out 1).trans rfl; have hcz24_2 : w23.cell? ⟨gb136, 2, none⟩ = some (.int .i64 a0_2) := (blk_cell BK136.out 2).trans rfl; have hcz24_3 : w23.cell? ⟨gb136, 3, none⟩ = some (.int .i64 a0_3) := (blk_cell BK136.out 3).trans rfl; have hcz24_4 : w23.cell? ⟨gb136, 4, none⟩ = some (.int .i64 a0_4) := (blk_cell BK136.out 4).trans rfl; have hfz24_0 := blk_frozen BK136.out 0; have hfz24_1 := blk_frozen BK136.out 1; have hfz24_2 := blk_frozen BK136.out 2; have hfz24_3 := blk_frozen BK136.out 3; have hfz24_4 := blk_frozen BK136.out 4))
    go_ret
    exact ⟨by first | rfl | (simp [errW_none, errW_some] <;> rfl) | (simp [*, errW_none, errW_some] <;> rfl), by repeat (first | (with_reducible first | exact HB.out | apply below_alloc | apply pw_below_drewN | apply below_drew1 | refine below_set ?_ GE136.out) | exact HB.out)⟩

/-! ### horariumref09_Row: function 57 -/
def horariumref09_Row.l0 : Nat → List (S28) → Int → Option (Bool)
  | 0, _, _ => none
  | k + 1, x0, x3 => if x3 < (x0.length : Int) then (if 0 ≤ x3 then ((horariumref09_Check.f ((rd_T28 x0 x3).f0) ((rd_T28 x0 x3).f1) ((rd_T28 x0 x3).f2) ((rd_T28 x0 x3).f3) ((rd_T28 x0 x3).f4)).bind fun t138 => (if t138 = true then (horariumref09_Row.l0 k x0 (wrap64 (x3 + 1))) else (some false))) else (none)) else (some (decide ((x0.length : Int) ≤ 16)))
def horariumref09_Row.f (k : Nat) (l0 : List (S28)) : Option (Bool) := horariumref09_Row.l0 k l0 0
theorem horariumref09_Row.mono_l : ∀ k, (∀ y0 y1, LeO (horariumref09_Row.l0 k y0 y1) (horariumref09_Row.l0 (k + 1) y0 y1))
  | 0 => fun _ _ r h => by simp [horariumref09_Row.l0] at h
  | k + 1 => by
    have ih0 := horariumref09_Row.mono_l k
    · intro y0 y1
      unfold horariumref09_Row.l0
      repeat' first
      | (with_reducible exact ih0 _ _)
      | (with_reducible exact LeO.refl _)
      | (with_reducible exact LeO.none _)
      | (with_reducible refine LeO.ite ?_ ?_)
      | (with_reducible refine LeO.bind ?_ (fun _ => ?_))
      | exact ih0 _ _
      | exact LeO.none _
      | refine LeO.ite ?_ ?_
      | refine LeO.bind ?_ (fun _ => ?_)
theorem horariumref09_Row.mono : ∀ a0 k, LeO (horariumref09_Row.f k a0) (horariumref09_Row.f (k + 1) a0) := by
  intro a0 k
  have ih0 := horariumref09_Row.mono_l k
  unfold horariumref09_Row.f
  repeat' first
      | (with_reducible exact ih0 _ _)
      | (with_reducible exact LeO.refl _)
      | (with_reducible exact LeO.none _)
      | (with_reducible refine LeO.ite ?_ ?_)
      | (with_reducible refine LeO.bind ?_ (fun _ => ?_))
      | exact ih0 _ _
      | exact LeO.none _
      | refine LeO.ite ?_ ?_
      | refine LeO.bind ?_ (fun _ => ?_)
set_option maxHeartbeats 8000000 in
set_option maxRecDepth 100000 in
theorem horariumref09_Row.calls (k : Nat) (A0 : Option Addr) (c0 : Nat) (l0 : List (S28)) (r : Bool) (w : World) (hr0 : Kd.C k28 w A0 l0.length l0) (hc0 : l0.length ≤ c0) (h : horariumref09_Row.f k l0 = some r) :
    Calls Try.prog 57 #[.slice A0 l0.length c0] w fun e w' => e = .returned (.bool r) ∧ Below w.heap.size w w' := by
  have hu28 := Try.underlying28
  have HR0 := Aside0.mk hr0
  have HC0 := Aside0.mk hc0
  clear hr0 hc0
  have HB := Aside0.mk (Below.refl w.heap.size w)
  have H : (horariumref09_Row.l0 k l0 0) = some r := h
  clear h
  have H' := Aside0.mk H
  clear H
  go_enter Try.func57, Try.ntmps57
  go_wp2
  go_loopg [3] k (fun kq v3 w' => ∃ (x3_1 : Int), v3 = .int .i64 x3_1 ∧ Aside0 (horariumref09_Row.l0 kq l0 x3_1 = some r) ∧ Aside0 (kq ≤ k) ∧ Aside0 (Below w.heap.size w w'))
  case atStart => exact ⟨(0), (by first | rfl | (simp; done) | (simp [*]; done)), H', ⟨Nat.le_refl _⟩, ⟨by repeat (first | (with_reducible first | exact HB.out | apply below_alloc | apply pw_below_drewN | apply below_drew1) | exact HB.out)⟩⟩
  case round =>
    clear H'
    obtain ⟨x3_1, rfl, HA, HK1, HB⟩ := hrel
    cases gk with
    | zero => exact absurd HA.out (by simp [horariumref09_Row.l0])
    | succ k1 =>
      have H := HA.out
      clear HA
      simp only [horariumref09_Row.l0] at H
      by_cases c2 : x3_1 < (l0.length : Int)
      · rw [if_pos c2] at H
        have c2b0 : decide (x3_1 < (l0.length : Int)) = true := decide_eq_true c2
        clear c2
        by_cases c3 : 0 ≤ x3_1
        · rw [if_pos c3] at H
          have c3b0 : decide (0 ≤ x3_1) = true := decide_eq_true c3
          clear c3
          replace H := Option.bind_eq_some_iff.mp H
          obtain ⟨t138, A40, H⟩ := H
          replace H : (if t138 = true then (horariumref09_Row.l0 k1 l0 (wrap64 (x3_1 + 1))) else (some false)) = some r := H
          have A4 := Aside0.mk A40
          clear A40
          by_cases c5 : t138 = true
          · subst c5
            have H1 : (horariumref09_Row.l0 k1 l0 (wrap64 (x3_1 + 1))) = some r := by rw [if_pos rfl] at H; exact H
            clear H
            have H := H1
            clear H1
            have H' := Aside0.mk H
            clear H
            have p137 : 0 ≤ (x3_1 : Int) := of_decide_eq_true (by first | (with_reducible assumption) | assumption)
            have q137 : x3_1 < (l0.length : Int) := of_decide_eq_true (by first | (with_reducible assumption) | assumption)
            obtain ⟨ad137, e137, hx137_0, hx137_1, hx137_2, hx137_3, hx137_4⟩ := at_T28 HR0.out x3_1 p137 q137
            cases e137
            replace hx137_0 := (HB.out.cell (World.block_lt_of_cell? w _ hx137_0)).trans hx137_0
            replace hx137_1 := (HB.out.cell (World.block_lt_of_cell? w _ hx137_1)).trans hx137_1
            replace hx137_2 := (HB.out.cell (World.block_lt_of_cell? w _ hx137_2)).trans hx137_2
            replace hx137_3 := (HB.out.cell (World.block_lt_of_cell? w _ hx137_3)).trans hx137_3
            replace hx137_4 := (HB.out.cell (World.block_lt_of_cell? w _ hx137_4)).trans hx137_4
            replace p137 := eq_true p137
            replace q137 := eq_true q137
            go_wp2_with (first | ((with_reducible refine gate_callee (f := 44) rfl ?_); refine goesL_ (some 15) rfl rfl Try.func44 (by kernel_rfl) rfl #[.agg #[.int .i64 ((rd_T28 l0 x3_1).f0), .int .i64 ((rd_T28 l0 x3_1).f1), .int .i64 ((rd_T28 l0 x3_1).f2), .int .i64 ((rd_T28 l0 x3_1).f3), .int .i64 ((rd_T28 l0 x3_1).f4)]] rfl (by (try simp only [List.map_toArray, List.map_cons, List.map_nil]); first | done | rfl | (simp only [List.length_drop, List.length_take]; rfl)) ?_; (with_reducible refine (horariumref09_Check.calls ((rd_T28 l0 x3_1).f0) ((rd_T28 l0 x3_1).f1) ((rd_T28 l0 x3_1).f2) ((rd_T28 l0 x3_1).f3) ((rd_T28 l0 x3_1).f4) true _ A4.out).mono ?_); rintro e w6 ⟨rfl, hb⟩; refine ⟨_, rfl, ?_⟩; have n0_ := Aside0.mk (below_step (by repeat (first | (with_reducible first | exact HB.out | apply below_alloc | apply pw_below_drewN | apply below_drew1) | exact HB.out)) hb); clear HB; have HB := n0_; clear n0_; (try clear hb); (try clear hb2); (try clear hk); (try clear hi)))
            go_roundg k1
            case measure => have := HK1.out; omega
            case rel => exact ⟨(wrap64 (x3_1 + 1)), (by first | rfl | (simp; done) | (simp [*]; done)), H', ⟨by have := HK1.out; omega⟩, ⟨by repeat (first | (with_reducible first | exact HB.out | apply below_alloc | apply pw_below_drewN | apply below_drew1) | exact HB.out)⟩⟩
          · replace c5 := Bool.eq_false_iff.mpr c5
            subst c5
            have H1 : (some false) = some r := by rw [if_neg (show ¬ (false = true) by decide)] at H; exact H
            clear H
            have H := H1
            clear H1
            obtain rfl := Option.some.inj H
            have p137 : 0 ≤ (x3_1 : Int) := of_decide_eq_true (by first | (with_reducible assumption) | assumption)
            have q137 : x3_1 < (l0.length : Int) := of_decide_eq_true (by first | (with_reducible assumption) | assumption)
            obtain ⟨ad137, e137, hx137_0, hx137_1, hx137_2, hx137_3, hx137_4⟩ := at_T28 HR0.out x3_1 p137 q137
            cases e137
            replace hx137_0 := (HB.out.cell (World.block_lt_of_cell? w _ hx137_0)).trans hx137_0
            replace hx137_1 := (HB.out.cell (World.block_lt_of_cell? w _ hx137_1)).trans hx137_1
            replace hx137_2 := (HB.out.cell (World.block_lt_of_cell? w _ hx137_2)).trans hx137_2
            replace hx137_3 := (HB.out.cell (World.block_lt_of_cell? w _ hx137_3)).trans hx137_3
            replace hx137_4 := (HB.out.cell (World.block_lt_of_cell? w _ hx137_4)).trans hx137_4
            replace p137 := eq_true p137
            replace q137 := eq_true q137
            go_wp2_with (first | ((with_reducible refine gate_callee (f := 44) rfl ?_); refine goesL_ (some 15) rfl rfl Try.func44 (by kernel_rfl) rfl #[.agg #[.int .i64 ((rd_T28 l0 x3_1).f0), .int .i64 ((rd_T28 l0 x3_1).f1), .int .i64 ((rd_T28 l0 x3_1).f2), .int .i64 ((rd_T28 l0 x3_1).f3), .int .i64 ((rd_T28 l0 x3_1).f4)]] rfl (by (try simp only [List.map_toArray, List.map_cons, List.map_nil]); first | done | rfl | (simp only [List.length_drop, List.length_take]; rfl)) ?_; (with_reducible refine (horariumref09_Check.calls ((rd_T28 l0 x3_1).f0) ((rd_T28 l0 x3_1).f1) ((rd_T28 l0 x3_1).f2) ((rd_T28 l0 x3_1).f3) ((rd_T28 l0 x3_1).f4) false _ A4.out).mono ?_); rintro e w7 ⟨rfl, hb⟩; refine ⟨_, rfl, ?_⟩; have n0_ := Aside0.mk (below_step (by repeat (first | (with_reducible first | exact HB.out | apply below_alloc | apply pw_below_drewN | apply below_drew1) | exact HB.out)) hb); clear HB; have HB := n0_; clear n0_; (try clear hb); (try clear hb2); (try clear hk); (try clear hi)))
            go_ret
            exact ⟨by first | rfl | (simp [errW_none, errW_some] <;> rfl) | (simp [*, errW_none, errW_some] <;> rfl), by repeat (first | (with_reducible first | exact HB.out | apply below_alloc | apply pw_below_drewN | apply below_drew1) | exact HB.out)⟩
        · rw [if_neg c3] at H
          exact absurd H (by simp)
      · rw [if_neg c2] at H
        have c2b0 : decide (x3_1 < (l0.length : Int)) = false := decide_eq_false c2
        clear c2
        obtain rfl := Option.some.inj H
        go_wp2
        go_ret
        exact ⟨by first | rfl | (simp [errW_none, errW_some] <;> rfl) | (simp [*, errW_none, errW_some] <;> rfl), by repeat (first | (with_reducible first | exact HB.out | apply below_alloc | apply pw_below_drewN | apply below_drew1) | exact HB.out)⟩

/-! ### horariumref09_Gcd: function 70 -/
def horariumref09_Gcd.f : Nat → Int → Int → Option (Int)
  | 0, _, _ => none
  | k + 1, a0, a1 => if a0 < 0 then ((horariumref09_Gcd.f k (wrap64 (-a0)) a1).bind fun t139 => (some t139)) else (if a1 < 0 then ((horariumref09_Gcd.f k a0 (wrap64 (-a1))).bind fun t140 => (some t140)) else (if a1 = 0 then (some a0) else ((horariumref09_Gcd.f k a1 (Int.tmod a0 a1)).bind fun t141 => (some t141))))
theorem horariumref09_Gcd.mono_l : ∀ k, (∀ y0 y1, LeO (horariumref09_Gcd.f k y0 y1) (horariumref09_Gcd.f (k + 1) y0 y1))
  | 0 => fun _ _ r h => by simp [horariumref09_Gcd.f] at h
  | k + 1 => by
    have ih0 := horariumref09_Gcd.mono_l k
    · intro y0 y1
      unfold horariumref09_Gcd.f
      repeat' first
      | (with_reducible exact ih0 _ _)
      | (with_reducible exact LeO.refl _)
      | (with_reducible exact LeO.none _)
      | (with_reducible refine LeO.ite ?_ ?_)
      | (with_reducible refine LeO.bind ?_ (fun _ => ?_))
      | exact ih0 _ _
      | exact LeO.none _
      | refine LeO.ite ?_ ?_
      | refine LeO.bind ?_ (fun _ => ?_)
theorem horariumref09_Gcd.mono : ∀ a0 a1 k, LeO (horariumref09_Gcd.f k a0 a1) (horariumref09_Gcd.f (k + 1) a0 a1) := by
  intro a0 a1 k
  have ih0 := horariumref09_Gcd.mono_l k
  exact ih0 a0 a1
set_option maxHeartbeats 8000000 in
set_option maxRecDepth 100000 in
theorem horariumref09_Gcd.calls (k : Nat) : ∀ (a0 : Int) (a1 : Int) (r : Int) (w : World) (h : horariumref09_Gcd.f k a0 a1 = some r),
    Calls Try.prog 70 #[.int .i64 a0, .int .i64 a1] w fun e w' => e = .returned (.int .i64 r) ∧ Drawn0 w w' := by
  induction k using Nat.strongRecOn with
  | _ k ih =>
  intro a0 a1 r w h
  cases k with
  | zero => exact absurd h (by simp [horariumref09_Gcd.f])
  | succ k =>
  simp only [horariumref09_Gcd.f] at h
  have H : (if a0 < 0 then ((horariumref09_Gcd.f k (wrap64 (-a0)) a1).bind fun t139 => (some t139)) else (if a1 < 0 then ((horariumref09_Gcd.f k a0 (wrap64 (-a1))).bind fun t140 => (some t140)) else (if a1 = 0 then (some a0) else ((horariumref09_Gcd.f k a1 (Int.tmod a0 a1)).bind fun t141 => (some t141))))) = some r := h
  clear h
  by_cases c3 : a0 < 0
  · rw [if_pos c3] at H
    have c3b0 : decide (a0 < 0) = true := decide_eq_true c3
    clear c3
    replace H := Option.bind_eq_some_iff.mp H
    obtain ⟨t139, A40, H⟩ := H
    replace H : (some t139) = some r := H
    have A4 := Aside0.mk A40
    clear A40
    obtain rfl := Option.some.inj H
    go_enter Try.func70, Try.ntmps70
    go_wp2_with (first | ((with_reducible refine gate_callee (f := 70) rfl ?_); refine goesL_ (some 10) rfl rfl Try.func70 (by kernel_rfl) rfl #[.int .i64 (wrap64 (-a0)), .int .i64 a1] rfl (by (try simp only [List.map_toArray, List.map_cons, List.map_nil]); first | done | rfl | (simp only [List.length_drop, List.length_take]; rfl)) ?_; (with_reducible refine (ih k (by omega) (wrap64 (-a0)) a1 t139 _ A4.out).mono ?_); rintro e w' ⟨rfl, ⟨nd, rfl⟩⟩; refine ⟨_, rfl, ?_⟩))
    go_ret
    exact ⟨by first | rfl | (simp; done) | (simp only [i64_w]; done) | (simp [*]; done), by repeat (first | exact Drawn0.refl _ | apply Drawn0.step)⟩
  · rw [if_neg c3] at H
    have c3b0 : decide (a0 < 0) = false := decide_eq_false c3
    clear c3
    by_cases c5 : a1 < 0
    · rw [if_pos c5] at H
      have c5b0 : decide (a1 < 0) = true := decide_eq_true c5
      clear c5
      replace H := Option.bind_eq_some_iff.mp H
      obtain ⟨t140, A60, H⟩ := H
      replace H : (some t140) = some r := H
      have A6 := Aside0.mk A60
      clear A60
      obtain rfl := Option.some.inj H
      go_enter Try.func70, Try.ntmps70
      go_wp2_with (first | ((with_reducible refine gate_callee (f := 70) rfl ?_); refine goesL_ (some 16) rfl rfl Try.func70 (by kernel_rfl) rfl #[.int .i64 a0, .int .i64 (wrap64 (-a1))] rfl (by (try simp only [List.map_toArray, List.map_cons, List.map_nil]); first | done | rfl | (simp only [List.length_drop, List.length_take]; rfl)) ?_; (with_reducible refine (ih k (by omega) a0 (wrap64 (-a1)) t140 _ A6.out).mono ?_); rintro e w' ⟨rfl, ⟨nd, rfl⟩⟩; refine ⟨_, rfl, ?_⟩))
      go_ret
      exact ⟨by first | rfl | (simp; done) | (simp only [i64_w]; done) | (simp [*]; done), by repeat (first | exact Drawn0.refl _ | apply Drawn0.step)⟩
    · rw [if_neg c5] at H
      have c5b0 : decide (a1 < 0) = false := decide_eq_false c5
      clear c5
      by_cases c7 : a1 = 0
      · rw [if_pos c7] at H
        have c7b0 : (a1 == 0) = true := beq_iff_eq.mpr c7
        have c7b1 : (a1 != 0) = false := bne_eq_false_iff_eq.mpr c7
        clear c7
        obtain rfl := Option.some.inj H
        go_enter Try.func70, Try.ntmps70
        go_wp2
        go_ret
        exact ⟨by first | rfl | (simp; done) | (simp only [i64_w]; done) | (simp [*]; done), by repeat (first | exact Drawn0.refl _ | apply Drawn0.step)⟩
      · rw [if_neg c7] at H
        have c7b0 : (a1 == 0) = false := beq_eq_false_iff_ne.mpr c7
        have c7b1 : (a1 != 0) = true := bne_iff_ne.mpr c7
        replace H := Option.bind_eq_some_iff.mp H
        obtain ⟨t141, A80, H⟩ := H
        replace H : (some t141) = some r := H
        have A8 := Aside0.mk A80
        clear A80
        obtain rfl := Option.some.inj H
        go_enter Try.func70, Try.ntmps70
        go_wp2_with (first | ((with_reducible refine gate_callee (f := 70) rfl ?_); refine goesL_ (some 24) rfl rfl Try.func70 (by kernel_rfl) rfl #[.int .i64 a1, .int .i64 (Int.tmod a0 a1)] rfl (by (try simp only [List.map_toArray, List.map_cons, List.map_nil]); first | done | rfl | (simp only [List.length_drop, List.length_take]; rfl)) ?_; (with_reducible refine (ih k (by omega) a1 (Int.tmod a0 a1) t141 _ A8.out).mono ?_); rintro e w' ⟨rfl, ⟨nd, rfl⟩⟩; refine ⟨_, rfl, ?_⟩))
        go_ret
        exact ⟨by first | rfl | (simp; done) | (simp only [i64_w]; done) | (simp [*]; done), by repeat (first | exact Drawn0.refl _ | apply Drawn0.step)⟩

/-! ### horariumref09_Period: function 48 -/
def horariumref09_Period.l0 : Nat → List (S28) → Int → Int → Option (Int × Int)
  | 0, _, _, _ => none
  | k + 1, x0, x5, x6 => if x6 < (x0.length : Int) then (if 0 ≤ x6 then ((horariumref09_Gcd.f k x5 ((rd_T28 x0 x6).f3)).bind fun t144 => (if t144 = 0 then (none) else (if (wrap64 ((wrap64 (Int.tdiv x5 t144)) * ((rd_T28 x0 x6).f3))) > 1048576 then (some (0, 16)) else (horariumref09_Period.l0 k x0 (wrap64 ((wrap64 (Int.tdiv x5 t144)) * ((rd_T28 x0 x6).f3))) (wrap64 (x6 + 1)))))) else (none)) else (some (x5, 0))
def horariumref09_Period.f (k : Nat) (l0 : List (S28)) : Option (Int × Int) := (horariumref09_Row.f k l0).bind fun t142 => (if t142 = true then (horariumref09_Period.l0 k l0 1 0) else (some (0, 1)))
theorem horariumref09_Period.mono_l : ∀ k, (∀ y0 y1 y2, LeO (horariumref09_Period.l0 k y0 y1 y2) (horariumref09_Period.l0 (k + 1) y0 y1 y2))
  | 0 => fun _ _ _ r h => by simp [horariumref09_Period.l0] at h
  | k + 1 => by
    have ih0 := horariumref09_Period.mono_l k
    · intro y0 y1 y2
      unfold horariumref09_Period.l0
      repeat' first
      | (with_reducible exact ih0 _ _ _)
      | (with_reducible exact horariumref09_Gcd.mono _ _ _)
      | (with_reducible exact horariumref09_Row.mono _ _)
      | (with_reducible exact LeO.refl _)
      | (with_reducible exact LeO.none _)
      | (with_reducible refine LeO.ite ?_ ?_)
      | (with_reducible refine LeO.bind ?_ (fun _ => ?_))
      | exact ih0 _ _ _
      | exact horariumref09_Gcd.mono _ _ _
      | exact horariumref09_Row.mono _ _
      | exact LeO.none _
      | refine LeO.ite ?_ ?_
      | refine LeO.bind ?_ (fun _ => ?_)
theorem horariumref09_Period.mono : ∀ a0 k, LeO (horariumref09_Period.f k a0) (horariumref09_Period.f (k + 1) a0) := by
  intro a0 k
  have ih0 := horariumref09_Period.mono_l k
  unfold horariumref09_Period.f
  repeat' first
      | (with_reducible exact ih0 _ _ _)
      | (with_reducible exact horariumref09_Gcd.mono _ _ _)
      | (with_reducible exact horariumref09_Row.mono _ _)
      | (with_reducible exact LeO.refl _)
      | (with_reducible exact LeO.none _)
      | (with_reducible refine LeO.ite ?_ ?_)
      | (with_reducible refine LeO.bind ?_ (fun _ => ?_))
      | exact ih0 _ _ _
      | exact horariumref09_Gcd.mono _ _ _
      | exact horariumref09_Row.mono _ _
      | exact LeO.none _
      | refine LeO.ite ?_ ?_
      | refine LeO.bind ?_ (fun _ => ?_)
set_option maxHeartbeats 8000000 in
set_option maxRecDepth 100000 in
theorem horariumref09_Period.calls (k : Nat) (A0 : Option Addr) (c0 : Nat) (l0 : List (S28)) (r1 : Int) (r2 : Int) (w : World) (hr0 : Kd.C k28 w A0 l0.length l0) (hc0 : l0.length ≤ c0) (h : horariumref09_Period.f k l0 = some (r1, r2)) :
    Calls Try.prog 48 #[.slice A0 l0.length c0] w fun e w' => e = .returned (.tuple #[.int .i64 r1, .int .i64 r2]) ∧ Below w.heap.size w w' := by
  have HR0 := Aside0.mk hr0
  have HC0 := Aside0.mk hc0
  clear hr0 hc0
  have HB := Aside0.mk (Below.refl w.heap.size w)
  have H : ((horariumref09_Row.f k l0).bind fun t142 => (if t142 = true then (horariumref09_Period.l0 k l0 1 0) else (some (0, 1)))) = some (r1, r2) := h
  clear h
  replace H := Option.bind_eq_some_iff.mp H
  obtain ⟨t142, A20, H⟩ := H
  replace H : (if t142 = true then (horariumref09_Period.l0 k l0 1 0) else (some (0, 1))) = some (r1, r2) := H
  have A2 := Aside0.mk A20
  clear A20
  by_cases c3 : t142 = true
  · subst c3
    have H1 : (horariumref09_Period.l0 k l0 1 0) = some (r1, r2) := by rw [if_pos rfl] at H; exact H
    clear H
    have H := H1
    clear H1
    have H' := Aside0.mk H
    clear H
    go_enter Try.func48, Try.ntmps48
    go_wp2_with (first | (go_at_call 57; (with_reducible refine (horariumref09_Row.calls k _ _ l0 true _ ?side1 ?side2 A2.out).mono ?_); (case side1 => repeat (first | exact HR0.out | (with_reducible refine Kd.C_alloc ?_ _) | (with_reducible refine Kd.C_drewN ?_ _) | (with_reducible refine Kd.C_drew ?_))); (case side2 => exact HC0.out); rintro e w4 ⟨rfl, hb⟩; have n0_ := Aside0.mk (below_step (by repeat (first | (with_reducible first | exact HB.out | apply below_alloc | apply pw_below_drewN | apply below_drew1) | exact HB.out)) hb); clear HB; have HB := n0_; clear n0_; (try clear hb); (try clear hb2); (try clear hk); (try clear hi)))
    repeat (go_quiet (first | (go_at_call 57; (with_reducible refine (horariumref09_Row.calls k _ _ l0 true _ ?side1 ?side2 A2.out).mono ?_); (case side1 => repeat (first | exact HR0.out | (with_reducible refine Kd.C_alloc ?_ _) | (with_reducible refine Kd.C_drewN ?_ _) | (with_reducible refine Kd.C_drew ?_))); (case side2 => exact HC0.out); rintro e w4 ⟨rfl, hb⟩; have n0_ := Aside0.mk (below_step (by repeat (first | (with_reducible first | exact HB.out | apply below_alloc | apply pw_below_drewN | apply below_drew1) | exact HB.out)) hb); clear HB; have HB := n0_; clear n0_; (try clear hb); (try clear hb2); (try clear hk); (try clear hi))); try go_wp2_with (first | (go_at_call 57; (with_reducible refine (horariumref09_Row.calls k _ _ l0 true _ ?side1 ?side2 A2.out).mono ?_); (case side1 => repeat (first | exact HR0.out | (with_reducible refine Kd.C_alloc ?_ _) | (with_reducible refine Kd.C_drewN ?_ _) | (with_reducible refine Kd.C_drew ?_))); (case side2 => exact HC0.out); rintro e w4 ⟨rfl, hb⟩; have n0_ := Aside0.mk (below_step (by repeat (first | (with_reducible first | exact HB.out | apply below_alloc | apply pw_below_drewN | apply below_drew1) | exact HB.out)) hb); clear HB; have HB := n0_; clear n0_; (try clear hb); (try clear hb2); (try clear hk); (try clear hi))))
    go_loopg [5, 6] k (fun kq v5 v6 w' => ∃ (x5_1 : Int) (x6_1 : Int), v5 = .int .i64 x5_1 ∧ v6 = .int .i64 x6_1 ∧ Aside0 (horariumref09_Period.l0 kq l0 x5_1 x6_1 = some (r1, r2)) ∧ Aside0 (kq ≤ k) ∧ Aside0 (Below w.heap.size w w'))
    case atStart => exact ⟨(1), (0), (by first | rfl | (simp; done) | (simp [*]; done)), (by first | rfl | (simp; done) | (simp [*]; done)), H', ⟨Nat.le_refl _⟩, ⟨by repeat (first | (with_reducible first | exact HB.out | apply below_alloc | apply pw_below_drewN | apply below_drew1) | exact HB.out)⟩⟩
    case round =>
      clear H'
      try clear p2
      try clear c3
      try clear c4
      obtain ⟨x5_1, x6_1, rfl, rfl, HA, HK1, HB⟩ := hrel
      cases gk with
      | zero => exact absurd HA.out (by simp [horariumref09_Period.l0])
      | succ k1 =>
        have H := HA.out
        clear HA
        simp only [horariumref09_Period.l0] at H
        by_cases c5 : x6_1 < (l0.length : Int)
        · rw [if_pos c5] at H
          have c5b0 : decide (x6_1 < (l0.length : Int)) = true := decide_eq_true c5
          clear c5
          by_cases c6 : 0 ≤ x6_1
          · rw [if_pos c6] at H
            have c6b0 : decide (0 ≤ x6_1) = true := decide_eq_true c6
            clear c6
            replace H := Option.bind_eq_some_iff.mp H
            obtain ⟨t144, A70, H⟩ := H
            replace H : (if t144 = 0 then (none) else (if (wrap64 ((wrap64 (Int.tdiv x5_1 t144)) * ((rd_T28 l0 x6_1).f3))) > 1048576 then (some (0, 16)) else (horariumref09_Period.l0 k1 l0 (wrap64 ((wrap64 (Int.tdiv x5_1 t144)) * ((rd_T28 l0 x6_1).f3))) (wrap64 (x6_1 + 1))))) = some (r1, r2) := H
            have A7 := Aside0.mk A70
            clear A70
            by_cases c8 : t144 = 0
            · rw [if_pos c8] at H
              exact absurd H (by simp)
            · rw [if_neg c8] at H
              have c8b0 : (t144 == 0) = false := beq_eq_false_iff_ne.mpr c8
              have c8b1 : (t144 != 0) = true := bne_iff_ne.mpr c8
              by_cases c9 : (wrap64 ((wrap64 (Int.tdiv x5_1 t144)) * ((rd_T28 l0 x6_1).f3))) > 1048576
              · rw [if_pos c9] at H
                have c9b0 : decide (1048576 < (wrap64 ((wrap64 (Int.tdiv x5_1 t144)) * ((rd_T28 l0 x6_1).f3)))) = true := decide_eq_true c9
                (try (have c9b1 : decide (1048576 < (IntKind.i64.wrap ((IntKind.i64.wrap (Int.tdiv x5_1 t144)) * ((rd_T28 l0 x6_1).f3)))) = true := by first | (simp only [i64_w]; exact (show decide (1048576 < (wrap64 ((wrap64 (Int.tdiv x5_1 t144)) * ((rd_T28 l0 x6_1).f3)))) = true from decide_eq_true c9)) | (rw [i64_w, i64_w]; exact (show decide (1048576 < (wrap64 ((wrap64 (Int.tdiv x5_1 t144)) * ((rd_T28 l0 x6_1).f3)))) = true from decide_eq_true c9))))
                clear c9
                simp only [Option.some.injEq, Prod.mk.injEq] at H
                obtain ⟨rfl, rfl⟩ := H
                have p143 : 0 ≤ (x6_1 : Int) := of_decide_eq_true (by first | (with_reducible assumption) | assumption)
                have q143 : x6_1 < (l0.length : Int) := of_decide_eq_true (by first | (with_reducible assumption) | assumption)
                obtain ⟨ad143, e143, hx143_0, hx143_1, hx143_2, hx143_3, hx143_4⟩ := at_T28 HR0.out x6_1 p143 q143
                cases e143
                replace hx143_0 := (HB.out.cell (World.block_lt_of_cell? w _ hx143_0)).trans hx143_0
                replace hx143_1 := (HB.out.cell (World.block_lt_of_cell? w _ hx143_1)).trans hx143_1
                replace hx143_2 := (HB.out.cell (World.block_lt_of_cell? w _ hx143_2)).trans hx143_2
                replace hx143_3 := (HB.out.cell (World.block_lt_of_cell? w _ hx143_3)).trans hx143_3
                replace hx143_4 := (HB.out.cell (World.block_lt_of_cell? w _ hx143_4)).trans hx143_4
                replace p143 := eq_true p143
                replace q143 := eq_true q143
                go_wp2_with (first | (go_at_call 70; (with_reducible refine (horariumref09_Gcd.calls k1 x5_1 ((rd_T28 l0 x6_1).f3) t144 _ A7.out).mono ?_); rintro e w' ⟨rfl, ⟨nd, rfl⟩⟩; (try first | exact ⟨rfl, _, World.drewN_drewN _ _ _⟩ | exact ⟨rfl, _, Eq.trans (World.drewN_drewN _ _ _) (congrArg (World.drewN _) (Nat.add_assoc _ _ _))⟩); have p145 : 0 ≤ (x6_1 : Int) := of_decide_eq_true (by first | (with_reducible assumption) | assumption); have q145 : x6_1 < (l0.length : Int) := of_decide_eq_true (by first | (with_reducible assumption) | assumption); obtain ⟨ad145, e145, hx145_0, hx145_1, hx145_2, hx145_3, hx145_4⟩ := at_T28 HR0.out x6_1 p145 q145; obtain rfl : ad143 = ad145 := (by injection e145); replace hx145_0 := (HB.out.cell (World.block_lt_of_cell? w _ hx145_0)).trans hx145_0; replace hx145_1 := (HB.out.cell (World.block_lt_of_cell? w _ hx145_1)).trans hx145_1; replace hx145_2 := (HB.out.cell (World.block_lt_of_cell? w _ hx145_2)).trans hx145_2; replace hx145_3 := (HB.out.cell (World.block_lt_of_cell? w _ hx145_3)).trans hx145_3; replace hx145_4 := (HB.out.cell (World.block_lt_of_cell? w _ hx145_4)).trans hx145_4; replace p145 := eq_true p145; replace q145 := eq_true q145))
                repeat (go_quiet (first | (go_at_call 70; (with_reducible refine (horariumref09_Gcd.calls k1 x5_1 ((rd_T28 l0 x6_1).f3) t144 _ A7.out).mono ?_); rintro e w' ⟨rfl, ⟨nd, rfl⟩⟩; (try first | exact ⟨rfl, _, World.drewN_drewN _ _ _⟩ | exact ⟨rfl, _, Eq.trans (World.drewN_drewN _ _ _) (congrArg (World.drewN _) (Nat.add_assoc _ _ _))⟩); have p145 : 0 ≤ (x6_1 : Int) := of_decide_eq_true (by first | (with_reducible assumption) | assumption); have q145 : x6_1 < (l0.length : Int) := of_decide_eq_true (by first | (with_reducible assumption) | assumption); obtain ⟨ad145, e145, hx145_0, hx145_1, hx145_2, hx145_3, hx145_4⟩ := at_T28 HR0.out x6_1 p145 q145; obtain rfl : ad143 = ad145 := (by injection e145); replace hx145_0 := (HB.out.cell (World.block_lt_of_cell? w _ hx145_0)).trans hx145_0; replace hx145_1 := (HB.out.cell (World.block_lt_of_cell? w _ hx145_1)).trans hx145_1; replace hx145_2 := (HB.out.cell (World.block_lt_of_cell? w _ hx145_2)).trans hx145_2; replace hx145_3 := (HB.out.cell (World.block_lt_of_cell? w _ hx145_3)).trans hx145_3; replace hx145_4 := (HB.out.cell (World.block_lt_of_cell? w _ hx145_4)).trans hx145_4; replace p145 := eq_true p145; replace q145 := eq_true q145)); try go_wp2_with (first | (go_at_call 70; (with_reducible refine (horariumref09_Gcd.calls k1 x5_1 ((rd_T28 l0 x6_1).f3) t144 _ A7.out).mono ?_); rintro e w' ⟨rfl, ⟨nd, rfl⟩⟩; (try first | exact ⟨rfl, _, World.drewN_drewN _ _ _⟩ | exact ⟨rfl, _, Eq.trans (World.drewN_drewN _ _ _) (congrArg (World.drewN _) (Nat.add_assoc _ _ _))⟩); have p145 : 0 ≤ (x6_1 : Int) := of_decide_eq_true (by first | (with_reducible assumption) | assumption); have q145 : x6_1 < (l0.length : Int) := of_decide_eq_true (by first | (with_reducible assumption) | assumption); obtain ⟨ad145, e145, hx145_0, hx145_1, hx145_2, hx145_3, hx145_4⟩ := at_T28 HR0.out x6_1 p145 q145; obtain rfl : ad143 = ad145 := (by injection e145); replace hx145_0 := (HB.out.cell (World.block_lt_of_cell? w _ hx145_0)).trans hx145_0; replace hx145_1 := (HB.out.cell (World.block_lt_of_cell? w _ hx145_1)).trans hx145_1; replace hx145_2 := (HB.out.cell (World.block_lt_of_cell? w _ hx145_2)).trans hx145_2; replace hx145_3 := (HB.out.cell (World.block_lt_of_cell? w _ hx145_3)).trans hx145_3; replace hx145_4 := (HB.out.cell (World.block_lt_of_cell? w _ hx145_4)).trans hx145_4; replace p145 := eq_true p145; replace q145 := eq_true q145)))
                go_ret2
                exact ⟨by first | rfl | (simp [errW_none, errW_some] <;> rfl) | (simp [*, errW_none, errW_some] <;> rfl), by repeat (first | (with_reducible first | exact HB.out | apply below_alloc | apply pw_below_drewN | apply below_drew1) | exact HB.out)⟩
              · rw [if_neg c9] at H
                have c9b0 : decide (1048576 < (wrap64 ((wrap64 (Int.tdiv x5_1 t144)) * ((rd_T28 l0 x6_1).f3)))) = false := decide_eq_false c9
                (try (have c9b1 : decide (1048576 < (IntKind.i64.wrap ((IntKind.i64.wrap (Int.tdiv x5_1 t144)) * ((rd_T28 l0 x6_1).f3)))) = false := by first | (simp only [i64_w]; exact (show decide (1048576 < (wrap64 ((wrap64 (Int.tdiv x5_1 t144)) * ((rd_T28 l0 x6_1).f3)))) = false from decide_eq_false c9)) | (rw [i64_w, i64_w]; exact (show decide (1048576 < (wrap64 ((wrap64 (Int.tdiv x5_1 t144)) * ((rd_T28 l0 x6_1).f3)))) = false from decide_eq_false c9))))
                clear c9
                have H' := Aside0.mk H
                clear H
                have p143 : 0 ≤ (x6_1 : Int) := of_decide_eq_true (by first | (with_reducible assumption) | assumption)
                have q143 : x6_1 < (l0.length : Int) := of_decide_eq_true (by first | (with_reducible assumption) | assumption)
                obtain ⟨ad143, e143, hx143_0, hx143_1, hx143_2, hx143_3, hx143_4⟩ := at_T28 HR0.out x6_1 p143 q143
                cases e143
                replace hx143_0 := (HB.out.cell (World.block_lt_of_cell? w _ hx143_0)).trans hx143_0
                replace hx143_1 := (HB.out.cell (World.block_lt_of_cell? w _ hx143_1)).trans hx143_1
                replace hx143_2 := (HB.out.cell (World.block_lt_of_cell? w _ hx143_2)).trans hx143_2
                replace hx143_3 := (HB.out.cell (World.block_lt_of_cell? w _ hx143_3)).trans hx143_3
                replace hx143_4 := (HB.out.cell (World.block_lt_of_cell? w _ hx143_4)).trans hx143_4
                replace p143 := eq_true p143
                replace q143 := eq_true q143
                go_wp2_with (first | (go_at_call 70; (with_reducible refine (horariumref09_Gcd.calls k1 x5_1 ((rd_T28 l0 x6_1).f3) t144 _ A7.out).mono ?_); rintro e w' ⟨rfl, ⟨nd, rfl⟩⟩; (try first | exact ⟨rfl, _, World.drewN_drewN _ _ _⟩ | exact ⟨rfl, _, Eq.trans (World.drewN_drewN _ _ _) (congrArg (World.drewN _) (Nat.add_assoc _ _ _))⟩); have p145 : 0 ≤ (x6_1 : Int) := of_decide_eq_true (by first | (with_reducible assumption) | assumption); have q145 : x6_1 < (l0.length : Int) := of_decide_eq_true (by first | (with_reducible assumption) | assumption); obtain ⟨ad145, e145, hx145_0, hx145_1, hx145_2, hx145_3, hx145_4⟩ := at_T28 HR0.out x6_1 p145 q145; obtain rfl : ad143 = ad145 := (by injection e145); replace hx145_0 := (HB.out.cell (World.block_lt_of_cell? w _ hx145_0)).trans hx145_0; replace hx145_1 := (HB.out.cell (World.block_lt_of_cell? w _ hx145_1)).trans hx145_1; replace hx145_2 := (HB.out.cell (World.block_lt_of_cell? w _ hx145_2)).trans hx145_2; replace hx145_3 := (HB.out.cell (World.block_lt_of_cell? w _ hx145_3)).trans hx145_3; replace hx145_4 := (HB.out.cell (World.block_lt_of_cell? w _ hx145_4)).trans hx145_4; replace p145 := eq_true p145; replace q145 := eq_true q145))
                repeat (go_quiet (first | (go_at_call 70; (with_reducible refine (horariumref09_Gcd.calls k1 x5_1 ((rd_T28 l0 x6_1).f3) t144 _ A7.out).mono ?_); rintro e w' ⟨rfl, ⟨nd, rfl⟩⟩; (try first | exact ⟨rfl, _, World.drewN_drewN _ _ _⟩ | exact ⟨rfl, _, Eq.trans (World.drewN_drewN _ _ _) (congrArg (World.drewN _) (Nat.add_assoc _ _ _))⟩); have p145 : 0 ≤ (x6_1 : Int) := of_decide_eq_true (by first | (with_reducible assumption) | assumption); have q145 : x6_1 < (l0.length : Int) := of_decide_eq_true (by first | (with_reducible assumption) | assumption); obtain ⟨ad145, e145, hx145_0, hx145_1, hx145_2, hx145_3, hx145_4⟩ := at_T28 HR0.out x6_1 p145 q145; obtain rfl : ad143 = ad145 := (by injection e145); replace hx145_0 := (HB.out.cell (World.block_lt_of_cell? w _ hx145_0)).trans hx145_0; replace hx145_1 := (HB.out.cell (World.block_lt_of_cell? w _ hx145_1)).trans hx145_1; replace hx145_2 := (HB.out.cell (World.block_lt_of_cell? w _ hx145_2)).trans hx145_2; replace hx145_3 := (HB.out.cell (World.block_lt_of_cell? w _ hx145_3)).trans hx145_3; replace hx145_4 := (HB.out.cell (World.block_lt_of_cell? w _ hx145_4)).trans hx145_4; replace p145 := eq_true p145; replace q145 := eq_true q145)); try go_wp2_with (first | (go_at_call 70; (with_reducible refine (horariumref09_Gcd.calls k1 x5_1 ((rd_T28 l0 x6_1).f3) t144 _ A7.out).mono ?_); rintro e w' ⟨rfl, ⟨nd, rfl⟩⟩; (try first | exact ⟨rfl, _, World.drewN_drewN _ _ _⟩ | exact ⟨rfl, _, Eq.trans (World.drewN_drewN _ _ _) (congrArg (World.drewN _) (Nat.add_assoc _ _ _))⟩); have p145 : 0 ≤ (x6_1 : Int) := of_decide_eq_true (by first | (with_reducible assumption) | assumption); have q145 : x6_1 < (l0.length : Int) := of_decide_eq_true (by first | (with_reducible assumption) | assumption); obtain ⟨ad145, e145, hx145_0, hx145_1, hx145_2, hx145_3, hx145_4⟩ := at_T28 HR0.out x6_1 p145 q145; obtain rfl : ad143 = ad145 := (by injection e145); replace hx145_0 := (HB.out.cell (World.block_lt_of_cell? w _ hx145_0)).trans hx145_0; replace hx145_1 := (HB.out.cell (World.block_lt_of_cell? w _ hx145_1)).trans hx145_1; replace hx145_2 := (HB.out.cell (World.block_lt_of_cell? w _ hx145_2)).trans hx145_2; replace hx145_3 := (HB.out.cell (World.block_lt_of_cell? w _ hx145_3)).trans hx145_3; replace hx145_4 := (HB.out.cell (World.block_lt_of_cell? w _ hx145_4)).trans hx145_4; replace p145 := eq_true p145; replace q145 := eq_true q145)))
                go_roundg k1
                case measure => have := HK1.out; omega
                case rel => exact ⟨(wrap64 ((wrap64 (Int.tdiv x5_1 t144)) * ((rd_T28 l0 x6_1).f3))), (wrap64 (x6_1 + 1)), (by first | rfl | (simp; done) | (simp only [i64_w]; done) | (simp [*]; done)), (by first | rfl | (simp; done) | (simp [*]; done)), H', ⟨by have := HK1.out; omega⟩, ⟨by repeat (first | (with_reducible first | exact HB.out | apply below_alloc | apply pw_below_drewN | apply below_drew1) | exact HB.out)⟩⟩
          · rw [if_neg c6] at H
            exact absurd H (by simp)
        · rw [if_neg c5] at H
          have c5b0 : decide (x6_1 < (l0.length : Int)) = false := decide_eq_false c5
          clear c5
          simp only [Option.some.injEq, Prod.mk.injEq] at H
          obtain ⟨rfl, rfl⟩ := H
          go_wp2
          repeat (go_quiet (fail); try go_wp2)
          go_ret2
          exact ⟨by first | rfl | (simp [errW_none, errW_some] <;> rfl) | (simp [*, errW_none, errW_some] <;> rfl), by repeat (first | (with_reducible first | exact HB.out | apply below_alloc | apply pw_below_drewN | apply below_drew1) | exact HB.out)⟩
  · replace c3 := Bool.eq_false_iff.mpr c3
    subst c3
    have H1 : (some (0, 1)) = some (r1, r2) := by rw [if_neg (show ¬ (false = true) by decide)] at H; exact H
    clear H
    have H := H1
    clear H1
    simp only [Option.some.injEq, Prod.mk.injEq] at H
    obtain ⟨rfl, rfl⟩ := H
    go_enter Try.func48, Try.ntmps48
    go_wp2_with (first | (go_at_call 57; (with_reducible refine (horariumref09_Row.calls k _ _ l0 false _ ?side1 ?side2 A2.out).mono ?_); (case side1 => repeat (first | exact HR0.out | (with_reducible refine Kd.C_alloc ?_ _) | (with_reducible refine Kd.C_drewN ?_ _) | (with_reducible refine Kd.C_drew ?_))); (case side2 => exact HC0.out); rintro e w10 ⟨rfl, hb⟩; have n0_ := Aside0.mk (below_step (by repeat (first | (with_reducible first | exact HB.out | apply below_alloc | apply pw_below_drewN | apply below_drew1) | exact HB.out)) hb); clear HB; have HB := n0_; clear n0_; (try clear hb); (try clear hb2); (try clear hk); (try clear hi)))
    repeat (go_quiet (first | (go_at_call 57; (with_reducible refine (horariumref09_Row.calls k _ _ l0 false _ ?side1 ?side2 A2.out).mono ?_); (case side1 => repeat (first | exact HR0.out | (with_reducible refine Kd.C_alloc ?_ _) | (with_reducible refine Kd.C_drewN ?_ _) | (with_reducible refine Kd.C_drew ?_))); (case side2 => exact HC0.out); rintro e w10 ⟨rfl, hb⟩; have n0_ := Aside0.mk (below_step (by repeat (first | (with_reducible first | exact HB.out | apply below_alloc | apply pw_below_drewN | apply below_drew1) | exact HB.out)) hb); clear HB; have HB := n0_; clear n0_; (try clear hb); (try clear hb2); (try clear hk); (try clear hi))); try go_wp2_with (first | (go_at_call 57; (with_reducible refine (horariumref09_Row.calls k _ _ l0 false _ ?side1 ?side2 A2.out).mono ?_); (case side1 => repeat (first | exact HR0.out | (with_reducible refine Kd.C_alloc ?_ _) | (with_reducible refine Kd.C_drewN ?_ _) | (with_reducible refine Kd.C_drew ?_))); (case side2 => exact HC0.out); rintro e w10 ⟨rfl, hb⟩; have n0_ := Aside0.mk (below_step (by repeat (first | (with_reducible first | exact HB.out | apply below_alloc | apply pw_below_drewN | apply below_drew1) | exact HB.out)) hb); clear HB; have HB := n0_; clear n0_; (try clear hb); (try clear hb2); (try clear hk); (try clear hi))))
    go_ret2
    exact ⟨by first | rfl | (simp [errW_none, errW_some] <;> rfl) | (simp [*, errW_none, errW_some] <;> rfl), by repeat (first | (with_reducible first | exact HB.out | apply below_alloc | apply pw_below_drewN | apply below_drew1) | exact HB.out)⟩

end Go.Proofs.Ythiepacmdlgajaa.PBusyLengths
