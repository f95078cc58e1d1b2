-- Made by px.py (a program of this session, over the kit's printer) out of the translation. Not trusted: Lean checks it.
import Derived.Test.YthiepacmdlgajaaPBusyStepsx0
import Derived.Test.YthiepacmdlgajaaPBusyStepsx2
namespace Go.Proofs.Ythiepacmdlgajaa.PBusySteps
open Go.RowKit Go.Proofs.YthiepacmdlgajaaW.PrintWords Go.Proofs.YthiepacmdlgajaaW.PrintLast Go.Proofs.YthiepacmdlgajaaW.PrintMore
attribute [local go_sem] max2_int min2_int max_two min_two max_three min_three max_four min_four   -- for this text's walks alone
set_option linter.unusedVariables false
set_option linter.unusedSimpArgs false

/-! ### busy_Steps: function 25 (by hand) -/
-- busy_Work busy_right param_Row busy_may busy_Length
def busy_Steps.f (k : Nat) (l0 : List S28) : Option (List Int) := (busy_right.f k l0).bind fun e => if e = 0 then (if l0 = [] then some [] else (stepsL l0 k (sumF l0)).bind fun xs => if xs.length < 10000000000000 then some xs else none) else some []
theorem busy_Steps.mono : ∀ a0 k, LeO (busy_Steps.f k a0) (busy_Steps.f (k + 1) a0) := by
  intro a0 k
  unfold busy_Steps.f
  exact LeO.bind (busy_right.mono _ k) (fun e => LeO.ite (LeO.ite (LeO.refl _) (LeO.bind (stepsL_mono a0 k _) (fun _ => LeO.refl _))) (LeO.refl _))
theorem own_ne {W : World} {base e size n r : Nat} {v : Value} {xs : List Value} (h : W.ownsRow base e size v n xs) (hr : r < base ∨ ∃ o : Obj, W.heap[r]? = some o ∧ o.isCells = false) : v.ownBlock = none ∨ v.ownBlock ≠ some r := by
  rcases h.2 with ⟨rfl, _⟩ | ⟨g, cap, cur, rfl, hb, hg, _⟩
  · exact .inl rfl
  · refine .inr fun e' => ?_
    have : g = r := by simpa [Value.ownBlock] using e'
    subst this
    rcases hr with hr | ⟨o, ho, hc⟩
    · omega
    · rw [hg] at ho; cases ho; cases hc
theorem own_cells {W : World} {base e size n j : Nat} {v : Value} {xs : List Value} {o : Obj} (h : W.ownsRow base e size v n xs) (ej : v.ownBlock = some j) (hj : W.heap[j]? = some o) : o.isCells = true ∧ base ≤ j := by
  rcases h.2 with ⟨rfl, _⟩ | ⟨g, cap, cur, rfl, hb, hg, _⟩
  · simp [Value.ownBlock] at ej
  · have : g = j := by simpa [Value.ownBlock] using ej
    subst this; rw [hg] at hj; cases hj; exact ⟨rfl, hb⟩
theorem own_R {W : World} {base base' e : Nat} {v : Value} {xs : List Int} (h : W.ownsRow base e 1 v xs.length (xs.map (Value.int .i64))) (hb : base' ≤ base) : Kd.R (Kd.int .i64) e W base' (fun _ => True) v xs := by
  refine ⟨fun _ _ => trivial, xs.map (Value.int .i64), ⟨h.1, ?_⟩, by show (xs.map (Value.int .i64)).length = xs.length * 1; simp, fun j p hp => ?_⟩
  · rcases h.2 with h' | ⟨g, cap, cur, h1, h2, h3⟩
    · exact .inl h'
    · exact .inr ⟨g, cap, cur, h1, Nat.le_trans hb h2, h3⟩
  · obtain ⟨hj, rfl⟩ := List.getElem?_eq_some_iff.1 hp
    show List.take 1 (List.drop (j * 1) (xs.map (Value.int .i64))) = [Value.int .i64 xs[j]]
    rw [Nat.mul_one, List.drop_eq_getElem_cons (by simpa using hj)]; simp
set_option maxHeartbeats 4000000 in
set_option maxRecDepth 100000 in
theorem busy_Steps.calls (k : Nat) (A0 : Option Addr) (c0 : Nat) (l0 : List S28) (r : List Int) (w : World) (hr0 : Kd.C k28 w A0 l0.length l0) (hc0 : l0.length ≤ c0) (h : busy_Steps.f k l0 = some r) :
    Calls Try.prog 25 #[.slice A0 l0.length c0] w fun e w' => ∃ v0_ : Value, e = .returned (v0_) ∧ Kd.R (Kd.int .i64) 2 w' w.heap.size (fun _ => True) v0_ r ∧ Below w.heap.size w w' := by
  have hu := Try.underlying28
  have hmax : l0.length ≤ 9223372036854775807 := Kd.C_max hr0
  unfold busy_Steps.f at h
  obtain ⟨er, her, h⟩ := Option.bind_eq_some_iff.mp h
  have HR := Lib.hid (busy_right.calls k A0 c0 l0 er w hr0 hc0 her)
  have HR0 := Aside0.mk hr0
  have HC0 := Aside0.mk hc0
  clear hr0 hc0 her
  by_cases he : er = 0
  · subst he
    rw [if_pos rfl] at h
    by_cases hl : l0 = []
    · rw [if_pos hl] at h
      have HE := Lib.hid (Option.some.inj h)
      have hlz : ((l0.length : Int) == 0) = true := by rw [hl]; rfl
      clear h hl
      go_enter Try.func25, Try.ntmps25
      go_wp2_with (go_at_call 46; refine HR.out.mono ?_; rintro e w1 ⟨rfl, hb1⟩; have HB1 := Aside0.mk hb1; clear hb1)
      go_ret
      exact ⟨_, rfl, by rw [← HE.out]; exact Kd.R_nil _ _ _ _ _, HB1.out⟩
    · rw [if_neg hl] at h
      obtain ⟨xs, hxs, h⟩ := Option.bind_eq_some_iff.mp h
      by_cases hN : xs.length < 10000000000000
      · rw [if_pos hN] at h
        have HE := Lib.hid (Option.some.inj h)
        have hlz : ((l0.length : Int) == 0) = false := by have := List.length_pos_iff.2 hl; rw [beq_eq_false_iff_ne]; omega
        have HXS := Lib.hid hxs
        clear h hl hxs
        refine (callsIn_wide (n := 5)).1 ?_
        refine callsIn_of_wp_marks Try.func25 rfl trivial ?_ rfl
        simp only [Try.ntmps25, List.size_toArray, List.length_cons, List.length_nil, Nat.reduceAdd, Nat.reduceSub, Array.replicate_succ, Array.replicate_zero, List.push_toArray, List.append_toArray, List.nil_append, List.cons_append]
        gi_wp2
        refine ⟨trivial, (callsIn_wide.2 HR.out).mono ?_⟩
        rintro e w1 ⟨rfl, hb1⟩
        have HB1 := Aside0.mk hb1
        clear hb1
        gi_wp2
        refine ⟨trivial, (callsIn_wide.2 (stepsMake.calls A0 c0 l0 _ (Kd.C_alloc (Kd.C_below HR0.out HB1.out) _) HC0.out)).mono ?_⟩
        rintro e w2 ⟨Bl, Bx, Bn, rfl, hst⟩
        have HST := Lib.hid hst
        clear hst
        gi_wp2
        have hst := HST.out
        have hst2 := steps_rebase hst (below_alloc HB1.out _)
        have hbe : w2.heap[w1.heap.size]? = some (.cells #[.slice none 0 0] 44 (0, 0)) := (hst.hb.block _ (by simp)).trans (by simpa using heap_alloc_new w1 _)
        have hw1 : w.heap.size ≤ w1.heap.size := HB1.out.size
        have sl : w1.heap.size < Bl := by have := hst.gl; simp at this; omega
        have sx : w1.heap.size < Bx := by have := hst.gx; simp at this; omega
        have sn : w1.heap.size < Bn := by have := hst.gn; simp at this; omega
        have zl : Bl < w2.heap.size := (Array.getElem?_eq_some_iff.1 hst.hl).1
        have zx : Bx < w2.heap.size := (Array.getElem?_eq_some_iff.1 hst.hx).1
        have zn : Bn < w2.heap.size := (Array.getElem?_eq_some_iff.1 hst.hn).1
        clear hst HST
        obtain ⟨be, hbeq⟩ : ∃ be, w1.heap.size = be := ⟨_, rfl⟩
        rw [hbeq] at hbe hw1 sl sx sn ⊢
        clear hbeq
        obtain ⟨i0, hi0, hz0, hz1, hz2⟩ := info_parts info2
        refine PxR.rangeX rfl (by omega) (gf := 69) (lb := #[.pointer (some ⟨Bx, 0, none⟩), .pointer (some ⟨Bn, 0, none⟩)]) rfl trivial (enters_of Try.func69 (by kernel_rfl) rfl) (steps_seq A0 c0 l0 w w2 HR0.out HC0.out Bl Bx Bn (sumF l0) hst2 k xs HXS.out 4 (by omega)) ?kt ?kb (Below.refl _ _) (fun _ => rfl) ?ok (fun pre W => Below w.heap.size w W ∧ w2.heap.size ≤ W.heap.size ∧ ∃ v, W.heap[be]? = some (.cells #[v] 44 (0, 0)) ∧ W.ownsRow w2.heap.size 2 1 v pre.length (pre.map (Value.int .i64))) (fun _ _ _ => False) ?hI ?hIx ⟨hst2.hb, Nat.le_refl _, _, hbe, by simp, .inl ⟨rfl, rfl⟩⟩ (fun x => { tmps := #[.slice A0 l0.length c0, undef, .slice none 0 0, .pointer (some ⟨be, 0, none⟩), .int .i64 x, .slice A0 l0.length c0, .int .i64 0, .bool false, .bool false, .slice A0 l0.length c0, .int .i64 l0.length, .bool false, .bool false, .slice A0 l0.length c0, .func (.func 69) #[] #[.pointer (some ⟨Bx, 0, none⟩), .pointer (some ⟨Bn, 0, none⟩)], .int .i64 x, undef, undef, undef, undef, undef], defers := [] }) ?assign ?body ?done ?stop
        case kt => exact fun h k => ⟨h.1.trans k.1, k.2.1.trans h.2.1, k.2.2.1.trans h.2.2.1, k.2.2.2.trans h.2.2.2⟩
        case kb =>
          intro W o o' h _
          have hz := (Array.getElem?_eq_some_iff.1 h).1
          exact ⟨(Below.refl _ W).grown (grownBy_putObj' W _ o') (by omega) (fun k e => by cases e; omega), World.putObj_heap_other (by omega), World.putObj_heap_other (by omega), World.putObj_heap_other (by omega)⟩
        case ok => intro r hr; subst hr; omega
        case hI =>
          rintro s A B row ⟨h1, h2, v, hv, hown⟩ hgr hr
          have hz := (Array.getElem?_eq_some_iff.1 hv).1
          refine ⟨h1.grown hgr (by omega) (fun r e => ?_), Nat.le_trans h2 hgr.size, v, PxR.blk_other hgr hv (fun e => ?_), ?_⟩
          · rcases hr r e with h | ⟨h, _⟩
            · have h' : r = Bx := h
              omega
            · omega
          · rcases hr be e.symm with h | ⟨h, _⟩
            · have h' : be = Bx := h
              omega
            · omega
          · cases row with
            | none => exact hown.kept hgr (by cases v.ownBlock <;> simp)
            | some r =>
              refine hown.kept hgr (own_ne hown ?_)
              rcases hr r rfl with h | ⟨_, h⟩
              · have h' : r = Bx := h
                exact Or.inl (by omega)
              · exact Or.inr h
        case hIx => exact fun _ _ _ _ _ hs _ _ => hs
        case assign =>
          intro l x W K hK
          gi_wp2_with (rw [Oper.semAt_eq _ _ _ (fun c h => by cases h)]; go_simp; try go_bits)
          exact hK
        case body =>
          rintro l pre x W ⟨hb, h2, v, hc, hown⟩ hlen
          have c1 : W.cell? ⟨be, 0, none⟩ = some v := (blk_cell hc 0).trans rfl
          have f1 : W.frozen? ⟨be, 0, none⟩ = false := blk_frozen hc 0
          generalize Fence.wide = F0
          gi_wp2_with (first
            | (gi_at_builtin; refine wpListIn_append_own _ rfl _ _ 44 rfl w2.heap.size 2 i0 (.int .i64 0) 1 8 Try.underlying44 hi0 hz0 hz1 hz2 rfl (by decide) _ _ _ rfl (hown.alloc _) ⟨W.heap.size, 0, none⟩ 1 1 [.int .i64 x] rfl rfl (cell_one_new _ _ _) (by simp [Value.oneCell']) (by unfold maxLen; omega) (by omega) (by simp; omega) ?_; intro v' w3 hown' hg3 hnil3
               replace hg3 : (W.alloc (.cells #[.int .i64 x] 2)).grownBy w3 v.ownBlock := hg3
               have hbl : be < W.heap.size := by omega
               have ne3 : ∀ q, q < w2.heap.size → some q ≠ v.ownBlock := fun q hq e => by
                 rcases own_ne hown (Or.inl hq) with h | h
                 · rw [h] at e; cases e
                 · exact h e.symm
               have keep3 : ∀ q, q < w2.heap.size → w3.heap[q]? = W.heap[q]? := fun q hq => (hg3.block q (by simp; omega) (ne3 q hq)).trans (Below.heap_alloc _ _ q (by omega))
               have hc3 := (keep3 be (by omega)).trans hc
               have c3 : w3.cell? ⟨be, 0, none⟩ = some v := (blk_cell hc3 0).trans rfl
               have f3 : w3.frozen? ⟨be, 0, none⟩ = false := blk_frozen hc3 0
               have hb3 : Below w.heap.size W w3 := ((Below.refl w.heap.size W).alloc (by omega) _).grown hg3 (by simp; omega) (fun q e => by
                 obtain ⟨o, ho⟩ : ∃ o, (W.alloc (.cells #[.int .i64 x] 2)).heap[q]? = some o := by
                   rcases (hown.alloc (.cells #[.int .i64 x] 2)).2 with ⟨rfl, _⟩ | ⟨g, cap, cur, rfl, _, hg, _⟩
                   · simp [Value.ownBlock] at e
                   · have : g = q := by simpa [Value.ownBlock] using e
                     subst this; exact ⟨_, hg⟩
                 have := (own_cells (hown.alloc _) e ho).2
                 omega)
               have hk3 : KeepsOthers W w3 := (KeepsOthers.alloc W _).trans (KeepsOthers.of_grownBy hg3 (fun j o ej hj => (own_cells (hown.alloc _) ej hj).1))
               have HB3 := Lib.hid hb3
               have HK3 := Lib.hid hk3
               have KP3 := Lib.hid keep3
               obtain ⟨g', cap', rfl⟩ : ∃ g' cap', v' = .slice (some ⟨g', 0, none⟩) (pre.length + 1) cap' := by
                 rcases hown'.2 with ⟨_, h0⟩ | ⟨g', cap', _, h', _⟩
                 · exact absurd h0 (by omega)
                 · exact ⟨g', cap', h'⟩
               have HO3 := Lib.hid hown'
               have HC3 := Lib.hid hc3
               clear hb3 hk3 keep3 hown' hc3 ne3
               go_frame)
            | (rw [Oper.semAt_eq _ _ _ (fun c h => by cases h)]; go_simp; try go_bits))
          refine ⟨HK3.out.trans (KeepsOthers.setCell _ _ _), ⟨HB3.out.setCell (p := ⟨be, 0, none⟩) hw1 _, (Below.heap_setCell _ ⟨be, 0, none⟩ _ _ (by show _ ≠ be; omega)).trans (KP3.out _ (by omega)), (Below.heap_setCell _ ⟨be, 0, none⟩ _ _ (by show _ ≠ be; omega)).trans (KP3.out _ (by omega)), (Below.heap_setCell _ ⟨be, 0, none⟩ _ _ (by show _ ≠ be; omega)).trans (KP3.out _ (by omega))⟩, ((hb.trans HB3.out).setCell (p := ⟨be, 0, none⟩) hw1 _), by have := HB3.out.size; have := HK3.out.size; simp; omega, .slice (some ⟨g', 0, none⟩) (pre.length + 1) cap', by simpa using blk_set HC3.out 0 (.slice (some ⟨g', 0, none⟩) (pre.length + 1) cap'), ?_⟩
          have := HO3.out.kept (PxR.grown_set w3 ⟨be, 0, none⟩ (.slice (some ⟨g', 0, none⟩) (pre.length + 1) cap')) (own_ne HO3.out (Or.inl (show be < w2.heap.size by omega)))
          simpa using this
        case done =>
          rintro D ys W hD rfl ⟨hb, h2, v, hc, hown⟩ hK
          have c1 : W.cell? ⟨be, 0, none⟩ = some v := (blk_cell hc 0).trans rfl
          gi_wp2
          refine ⟨by simp, .inl ⟨_, _, rfl, run_takeDeferred hK, ?_⟩⟩
          have hz := (Array.getElem?_eq_some_iff.1 hK).1
          have hown2 := hown.kept (grownBy_putObj' W D (.deferred none)) (own_ne hown (Or.inr ⟨_, hK, rfl⟩))
          exact ⟨_, results_tmp rfl _ _ _, v, rfl, by rw [← HE.out]; exact own_R hown2 (by omega), hb.grown (grownBy_putObj' W D (.deferred none)) (by omega) (fun k e => by cases e; omega)⟩
        case stop =>
          rintro D c pre W _ _ h _
          exact h.elim
      · rw [if_neg hN] at h; cases h
  · rw [if_neg he] at h
    have HE := Lib.hid (Option.some.inj h)
    have hne : (er != 0) = true := by simpa using he
    clear h he
    go_enter Try.func25, Try.ntmps25
    go_wp2_with (go_at_call 46; refine HR.out.mono ?_; rintro e w1 ⟨rfl, hb1⟩; have HB1 := Aside0.mk hb1; clear hb1)
    go_ret
    exact ⟨_, rfl, by rw [← HE.out]; exact Kd.R_nil _ _ _ _ _, HB1.out⟩

end Go.Proofs.Ythiepacmdlgajaa.PBusySteps
