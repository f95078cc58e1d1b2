-- Made by px.py (a program of this session, over the kit's printer) out of the translation. Not trusted: Lean checks it.
import Derived.Test.YtmgmpifbhjoijaaPProbeSlackx0
import Derived.Test.YtmgmpifbhjoijaaPProbeSlackx1
import Derived.Test.YtmgmpifbhjoijaaPProbeSlackx3
import Derived.Test.YtmgmpifbhjoijaaPProbeSlackx4
import Derived.Test.YtmgmpifbhjoijaaPProbeSlackx6
namespace Go.Proofs.Ytmgmpifbhjoijaa.PProbeSlack
open Go.RowKit Go.Proofs.YtmgmpifbhjoijaaW.PrintWords Go.Proofs.YtmgmpifbhjoijaaW.PrintLast Go.Proofs.YtmgmpifbhjoijaaW.PrintMore
attribute [local go_sem] max2_int min2_int max_two min_two max_three min_three max_four min_four   -- for this text's walks alone
set_option linter.unusedVariables false
set_option linter.unusedSimpArgs false

/-! ### probe_Tight: function 24 (by hand) -/
set_option maxHeartbeats 8000000 in
set_option maxRecDepth 100000 in
theorem tightApp.calls (bs base : Nat) (x s : Int) (out : List Int) (v : Value) (w : World) (hb : w.heap[bs]? = some (.cells #[v] 43 (0, 0))) (hown : w.ownsRow base 2 1 v out.length (out.map (Value.int .i64))) (l2 : bs < base) (l3 : base ≤ w.heap.size) (hlen : out.length < 10000000000000) (hs : s = 0) :
    Calls Try.prog 57 #[.int .i64 x, .int .i64 s, .pointer (some ⟨bs, 0, none⟩)] w fun e w' => e = .returned (.bool (decide (out.length + 1 < 4096))) ∧ (∃ v', w'.heap[bs]? = some (.cells #[v'] 43 (0, 0)) ∧ w'.ownsRow base 2 1 v' (out.length + 1) ((out ++ [x]).map (Value.int .i64))) ∧ ∀ B, B ≤ bs → Below B w w' := by
  subst hs
  have HB := Lib.hid hb
  have HO := Lib.hid hown
  have c0 : w.cell? ⟨bs, 0, none⟩ = some v := (blk_cell hb 0).trans rfl
  have hlt := blk_lt hb
  have m1 : ¬ bs = w.heap.size := by omega
  have m2 : ¬ w.heap.size = bs := by omega
  clear hb hown
  go_enter Try.func57, Try.ntmps57
  obtain ⟨i0, hi0, hz0, hz1, hz2⟩ := info_parts info2
  go_wp2_with (at_builtin; (
       refine wpList_append_own _ rfl _ _ 43 rfl base 2 i0 (.int .i64 0) 1 8 Try.underlying43 hi0 hz0 hz1 hz2 rfl (by decide) _ _ _ rfl (HO.out.alloc _) ⟨w.heap.size, 0, none⟩ 1 1 [.int .i64 x] rfl rfl (cell_one_new w (.int .i64 x) 2) (by simp [Value.oneCell']) (by unfold maxLen; omega) (by omega) (by simp; omega) ?_; intro v' w3 hown' hg3 hnil3
       replace hg3 : (w.alloc (.cells #[.int .i64 x] 2)).grownBy w3 v.ownBlock := hg3
       have hq3 : w3.heap[bs]? = some (.cells #[v] 43 (0, 0)) := (hg3.block bs (by simp; omega) (PxR.own_far HO.out (Or.inl l2))).trans ((Below.heap_alloc _ _ bs hlt).trans HB.out)
       have f3 : w3.frozen? ⟨bs, 0, none⟩ = false := blk_frozen hq3 0
       have c3 : w3.cell? ⟨bs, 0, none⟩ = some v := (blk_cell hq3 0).trans rfl
       obtain ⟨g', cap', rfl⟩ : ∃ g' cap', v' = .slice (some ⟨g', 0, none⟩) (out.length + 1) cap' := by
         rcases hown'.2 with ⟨_, h0⟩ | ⟨g', cap', _, h', _⟩
         · exact absurd h0 (by omega)
         · exact ⟨g', cap', h'⟩
       have HG3 := Lib.hid hg3
       have HW3 := Lib.hid hown'
       have HQ3 := Lib.hid hq3
       clear hg3 hown' hq3 hnil3
       go_frame))
  go_ret
  have hO := HW3.out.kept (PxR.grown_set w3 ⟨bs, 0, none⟩ (.slice (some ⟨g', 0, none⟩) (out.length + 1) cap')) (PxR.own_ne HW3.out (Or.inl l2))
  refine ⟨by simp; omega, ⟨_, by have := blk_set HQ3.out 0 (.slice (some ⟨g', 0, none⟩) (out.length + 1) cap'); simpa using this, by simpa using hO⟩, fun B h1 => ?_⟩
  have k1 : Below B w w3 := ((Below.refl B w).alloc (by omega) _).grown HG3.out (by simp; omega) (fun k e => by have := PxR.own_lt HO.out e; omega)
  exact k1.setCell (p := ⟨bs, 0, none⟩) h1 _
set_option maxHeartbeats 8000000 in
set_option maxRecDepth 100000 in
theorem tightPass.calls (bs base : Nat) (x s : Int) (out : List Int) (v : Value) (w : World) (hb : w.heap[bs]? = some (.cells #[v] 43 (0, 0))) (hown : w.ownsRow base 2 1 v out.length (out.map (Value.int .i64))) (hs : ¬ s = 0) :
    Calls Try.prog 57 #[.int .i64 x, .int .i64 s, .pointer (some ⟨bs, 0, none⟩)] w fun e w' => e = .returned (.bool (decide (out.length < 4096))) ∧ w' = w := by
  obtain ⟨A1, c1, rfl⟩ := own_slice hown
  have c0 : w.cell? ⟨bs, 0, none⟩ = some (.slice A1 out.length c1) := (blk_cell hb 0).trans rfl
  have hsb : (s == 0) = false := by simp [hs]
  clear hb hown
  go_enter Try.func57, Try.ntmps57
  go_wp2
  go_ret
  exact ⟨by simp; omega, rfl⟩
/-- The full deadlines up to the period, to 4096. -/
def tightGo (k : Nat) (l : List S28) (p : Int) : Nat → Int → Bool → List Int → Option (List Int)
  | 0, _, _, _ => none
  | j + 1, x, is, acc => if is = true then (if x ≤ p then (demand_Of.f k l x).bind fun n => if acc.length < 10000000000000 then (if wrap64 (x - n) = 0 then (if acc.length + 1 < 4096 then (demand_Next.f k l x).bind fun t => tightGo k l p j t.1 t.2 (acc ++ [x]) else some (acc ++ [x])) else (if acc.length < 4096 then (demand_Next.f k l x).bind fun t => tightGo k l p j t.1 t.2 acc else some acc)) else none else some acc) else some acc
theorem tightGo_mono (k : Nat) (l : List S28) (p : Int) : ∀ j x is acc, LeO (tightGo k l p j x is acc) (tightGo (k + 1) l p (j + 1) x is acc)
  | 0, x, is, acc => fun r h => by simp [tightGo] at h
  | j + 1, x, is, acc => by
    unfold tightGo
    exact LeO.ite (LeO.ite (LeO.bind (demand_Of.mono _ _ k) (fun n => LeO.ite (LeO.ite (LeO.ite (LeO.bind (demand_Next.mono _ _ k) (fun t => tightGo_mono k l p j _ _ _)) (LeO.refl _)) (LeO.ite (LeO.bind (demand_Next.mono _ _ k) (fun t => tightGo_mono k l p j _ _ _)) (LeO.refl _))) (LeO.refl _))) (LeO.refl _)) (LeO.refl _)
set_option maxHeartbeats 8000000 in
set_option maxRecDepth 100000 in
theorem eachT.calls (k j0 : Nat) (A0 : Option Addr) (c0 : Nat) (l0 : List S28) (p e0 x0 : Int) (is0 : Bool) (all : List Int) (bs base : Nat) (v0 : Value) (w wb : World) (hr0 : Kd.C k28 wb A0 l0.length l0) (hc0 : l0.length ≤ c0) (hwb : Below wb.heap.size wb w) (hbs : wb.heap.size ≤ bs) (hb : w.heap[bs]? = some (.cells #[v0] 43 (0, 0))) (hown : w.ownsRow base 2 1 v0 0 []) (l2 : bs < base) (l3 : base ≤ w.heap.size)
    (hP : param_Period.f k l0 = some (p, e0)) (hN : demand_Next.f k l0 0 = some (x0, is0)) (hG : tightGo k l0 p j0 x0 is0 [] = some all) :
    Calls Try.prog 54 #[.slice A0 l0.length c0, .func (.func 57) #[] #[.pointer (some ⟨bs, 0, none⟩)]] w fun e w' => e = .returned (.int .i64 p) ∧ (∃ v', w'.heap[bs]? = some (.cells #[v'] 43 (0, 0)) ∧ w'.ownsRow base 2 1 v' all.length (all.map (Value.int .i64))) ∧ Below wb.heap.size wb w' := by
  have HR0 := Lib.hid hr0
  have HC0 := Lib.hid hc0
  have HB := Lib.hid hwb
  have HQ := Lib.hid hb
  have HO := Lib.hid hown
  have HP := Lib.hid hP
  have HN := Lib.hid hN
  have HG := Lib.hid hG
  have HBS := Lib.hid hbs
  have HL2 := Lib.hid l2
  have HL3 := Lib.hid l3
  clear hr0 hc0 hwb hb hown hP hN hG hbs l2 l3
  go_enter Try.func54, Try.ntmps54
  go_wp2_with (first
    | (go_at_call 37; refine (param_Period.calls k A0 c0 l0 p e0 _ (Kd.C_below HR0.out HB.out) HC0.out HP.out).mono ?_; rintro e w1 ⟨rfl, q1⟩; replace HQ := Lib.hid (blk_below HQ.out q1); replace HO := Lib.hid (PxR.own_below HO.out q1); replace HL3 := Lib.hid (Nat.le_trans HL3.out q1.size); replace HB := Lib.hid (below_step HB.out q1); clear q1)
    | (go_at_call 83; refine (demand_Next.calls k A0 c0 l0 0 x0 is0 _ (Kd.C_below HR0.out HB.out) HC0.out HN.out).mono ?_; rintro e w2 ⟨rfl, q1⟩; replace HQ := Lib.hid (blk_below HQ.out q1); replace HO := Lib.hid (PxR.own_below HO.out q1); replace HL3 := Lib.hid (Nat.le_trans HL3.out q1.size); replace HB := Lib.hid (below_step HB.out q1); clear q1))
  go_loopg [7, 8] (j0 + 1) (fun gk v7 v8 wr => ∃ (j : Nat) (x : Int) (is : Bool) (acc : List Int) (v : Value), v7 = .int .i64 x ∧ v8 = .bool is ∧ j < gk ∧ Hid (tightGo k l0 p j x is acc = some all) ∧ Hid (wr.heap[bs]? = some (.cells #[v] 43 (0, 0))) ∧ Hid (wr.ownsRow base 2 1 v acc.length (acc.map (Value.int .i64))) ∧ Hid (base ≤ wr.heap.size) ∧ Hid (Below wb.heap.size wb wr))
  case atStart => exact ⟨j0, x0, is0, [], v0, rfl, rfl, by omega, HG, HQ, HO, HL3, HB⟩
  case round =>
    clear HG HQ HO HL3 HB
    obtain ⟨j, x, is, acc, v, rfl, rfl, hk, HG, HQ, HO, HL3, HB⟩ := hrel
    cases j with
    | zero => exact absurd HG.out (by simp [tightGo])
    | succ j =>
      have hg := HG.out
      unfold tightGo at hg
      cases is with
      | false =>
        rw [if_neg (by decide)] at hg
        obtain rfl := Option.some.inj hg
        clear hg HG
        go_wp2
        try rw [Exit.noGoto_ret]
        go_ret
        exact ⟨rfl, ⟨v, HQ.out, HO.out⟩, HB.out⟩
      | true =>
        rw [if_pos rfl] at hg
        by_cases c : x ≤ p
        · rw [if_pos c] at hg
          have cb : decide (x ≤ p) = true := decide_eq_true c
          obtain ⟨n, hn, hg2⟩ := Option.bind_eq_some_iff.mp hg
          have HOF := Lib.hid hn
          by_cases hl : acc.length < 10000000000000
          case neg => rw [if_neg hl] at hg2; cases hg2
          rw [if_pos hl] at hg2
          have HLN := Lib.hid hl
          by_cases hz : wrap64 (x - n) = 0
          · rw [if_pos hz] at hg2
            have HZ := Lib.hid hz
            clear hz
            obtain c2 | c2 := Classical.em (acc.length + 1 < 4096)
            · rw [if_pos c2] at hg2
              have cl : decide (acc.length + 1 < 4096) = true := decide_eq_true c2
              obtain ⟨⟨x', is'⟩, ht, hg3⟩ := Option.bind_eq_some_iff.mp hg2
              have HNX := Lib.hid ht
              have HG3 := Lib.hid hg3
              clear hg HG hg2 hg3 hn ht hl c2
              go_wp2_with (first
                | (go_at_call 84; refine (demand_Of.calls k A0 c0 l0 x n _ (Kd.C_below HR0.out HB.out) HC0.out HOF.out).mono ?_; rintro e w4 ⟨rfl, q1⟩; replace HQ := Lib.hid (blk_below HQ.out q1); replace HO := Lib.hid (PxR.own_below HO.out q1); replace HL3 := Lib.hid (Nat.le_trans HL3.out q1.size); replace HB := Lib.hid (below_step HB.out q1); clear q1)
                | (go_at_call 57; refine (tightApp.calls bs base x (wrap64 (x - n)) acc v _ HQ.out HO.out HL2.out HL3.out HLN.out HZ.out).mono ?_; rintro e w5 ⟨rfl, ⟨v', q2, q3⟩, q4⟩; have HQ5 := Lib.hid q2; have HO5 := Lib.hid (show w5.ownsRow base 2 1 v' (acc ++ [x]).length ((acc ++ [x]).map (Value.int .i64)) from (by rw [List.length_append]; exact q3)); replace HL3 := Lib.hid (Nat.le_trans HL3.out (q4 _ HBS.out).size); replace HB := Lib.hid (HB.out.trans (q4 _ HBS.out)); clear q2 q3 q4)
                | (go_at_call 83; refine (demand_Next.calls k A0 c0 l0 x x' is' _ (Kd.C_below HR0.out HB.out) HC0.out HNX.out).mono ?_; rintro e w6 ⟨rfl, q1⟩; have HQ6 := Lib.hid (blk_below HQ5.out q1); have HO6 := Lib.hid (PxR.own_below HO5.out q1); replace HL3 := Lib.hid (Nat.le_trans HL3.out q1.size); replace HB := Lib.hid (below_step HB.out q1); clear q1))
              go_roundg (j + 1)
              case measure => omega
              case rel => exact ⟨j, x', is', acc ++ [x], v', rfl, rfl, by omega, HG3, HQ6, HO6, HL3, HB⟩
            · rw [if_neg c2] at hg2
              have cl : decide (acc.length + 1 < 4096) = false := decide_eq_false c2
              obtain rfl := Option.some.inj hg2
              clear hg HG hg2 hn hl c2
              go_wp2_with (first
                | (go_at_call 84; refine (demand_Of.calls k A0 c0 l0 x n _ (Kd.C_below HR0.out HB.out) HC0.out HOF.out).mono ?_; rintro e w4 ⟨rfl, q1⟩; replace HQ := Lib.hid (blk_below HQ.out q1); replace HO := Lib.hid (PxR.own_below HO.out q1); replace HL3 := Lib.hid (Nat.le_trans HL3.out q1.size); replace HB := Lib.hid (below_step HB.out q1); clear q1)
                | (go_at_call 57; refine (tightApp.calls bs base x (wrap64 (x - n)) acc v _ HQ.out HO.out HL2.out HL3.out HLN.out HZ.out).mono ?_; rintro e w5 ⟨rfl, ⟨v', q2, q3⟩, q4⟩; have HQ5 := Lib.hid q2; have HO5 := Lib.hid (show w5.ownsRow base 2 1 v' (acc ++ [x]).length ((acc ++ [x]).map (Value.int .i64)) from (by rw [List.length_append]; exact q3)); replace HL3 := Lib.hid (Nat.le_trans HL3.out (q4 _ HBS.out).size); replace HB := Lib.hid (HB.out.trans (q4 _ HBS.out)); clear q2 q3 q4))
              try rw [Exit.noGoto_ret]
              go_ret
              exact ⟨rfl, ⟨v', HQ5.out, HO5.out⟩, HB.out⟩
          · rw [if_neg hz] at hg2
            have HZ := Lib.hid hz
            clear hz
            obtain c2 | c2 := Classical.em (acc.length < 4096)
            · rw [if_pos c2] at hg2
              have cl : decide (acc.length < 4096) = true := decide_eq_true c2
              obtain ⟨⟨x', is'⟩, ht, hg3⟩ := Option.bind_eq_some_iff.mp hg2
              have HNX := Lib.hid ht
              have HG3 := Lib.hid hg3
              clear hg HG hg2 hg3 hn ht hl c2
              go_wp2_with (first
                | (go_at_call 84; refine (demand_Of.calls k A0 c0 l0 x n _ (Kd.C_below HR0.out HB.out) HC0.out HOF.out).mono ?_; rintro e w4 ⟨rfl, q1⟩; replace HQ := Lib.hid (blk_below HQ.out q1); replace HO := Lib.hid (PxR.own_below HO.out q1); replace HL3 := Lib.hid (Nat.le_trans HL3.out q1.size); replace HB := Lib.hid (below_step HB.out q1); clear q1)
                | (go_at_call 57; refine (tightPass.calls bs base x (wrap64 (x - n)) acc v _ HQ.out HO.out HZ.out).mono ?_; rintro e w5 ⟨rfl, rfl⟩; have HQ5 := HQ; have HO5 := HO)
                | (go_at_call 83; refine (demand_Next.calls k A0 c0 l0 x x' is' _ (Kd.C_below HR0.out HB.out) HC0.out HNX.out).mono ?_; rintro e w6 ⟨rfl, q1⟩; have HQ6 := Lib.hid (blk_below HQ5.out q1); have HO6 := Lib.hid (PxR.own_below HO5.out q1); replace HL3 := Lib.hid (Nat.le_trans HL3.out q1.size); replace HB := Lib.hid (below_step HB.out q1); clear q1))
              go_roundg (j + 1)
              case measure => omega
              case rel => exact ⟨j, x', is', acc, v, rfl, rfl, by omega, HG3, HQ6, HO6, HL3, HB⟩
            · rw [if_neg c2] at hg2
              have cl : decide (acc.length < 4096) = false := decide_eq_false c2
              obtain rfl := Option.some.inj hg2
              clear hg HG hg2 hn hl c2
              go_wp2_with (first
                | (go_at_call 84; refine (demand_Of.calls k A0 c0 l0 x n _ (Kd.C_below HR0.out HB.out) HC0.out HOF.out).mono ?_; rintro e w4 ⟨rfl, q1⟩; replace HQ := Lib.hid (blk_below HQ.out q1); replace HO := Lib.hid (PxR.own_below HO.out q1); replace HL3 := Lib.hid (Nat.le_trans HL3.out q1.size); replace HB := Lib.hid (below_step HB.out q1); clear q1)
                | (go_at_call 57; refine (tightPass.calls bs base x (wrap64 (x - n)) acc v _ HQ.out HO.out HZ.out).mono ?_; rintro e w5 ⟨rfl, rfl⟩; have HQ5 := HQ; have HO5 := HO))
              try rw [Exit.noGoto_ret]
              go_ret
              exact ⟨rfl, ⟨v, HQ5.out, HO5.out⟩, HB.out⟩
        · rw [if_neg c] at hg
          have cb : decide (x ≤ p) = false := decide_eq_false c
          obtain rfl := Option.some.inj hg
          clear hg HG
          go_wp2
          try rw [Exit.noGoto_ret]
          go_ret
          exact ⟨rfl, ⟨v, HQ.out, HO.out⟩, HB.out⟩
-- probe_may probe_fits slices_Clone_api_Task param_Period demand_Next demand_Of
def probe_Tight.f (k : Nat) (l0 : List S28) : Option (List Int) := (probe_fits.f k l0).bind fun b => if b = true then (param_Period.f k l0).bind fun t => (demand_Next.f k l0 0).bind fun u => tightGo k l0 t.1 k u.1 u.2 [] else some []
theorem probe_Tight.mono : ∀ a0 k, LeO (probe_Tight.f k a0) (probe_Tight.f (k + 1) a0) := by
  intro a0 k
  unfold probe_Tight.f
  exact LeO.bind (probe_fits.mono _ k) (fun b => LeO.ite (LeO.bind (param_Period.mono _ k) (fun t => LeO.bind (demand_Next.mono _ _ k) (fun u => tightGo_mono k _ _ k _ _ _))) (LeO.refl _))
set_option maxHeartbeats 8000000 in
set_option maxRecDepth 100000 in
theorem probe_Tight.calls (k : Nat) (A0 : Option Addr) (c0 : Nat) (l0 : List S28) (r : List Int) (w : World) (hr0 : Kd.C k28 w A0 l0.length l0) (hc0 : l0.length ≤ c0) (h : probe_Tight.f k l0 = some r) :
    Calls Try.prog 24 #[.slice A0 l0.length c0] w fun e w' => ∃ v0_ : Value, e = .returned (v0_) ∧ Kd.R (Kd.int .i64) 2 w' w.heap.size (fun _ => True) v0_ r ∧ Below w.heap.size w w' := by
  unfold probe_Tight.f at h
  obtain ⟨b, hb, h1⟩ := Option.bind_eq_some_iff.mp h
  have HFT := Lib.hid hb
  have HR0 := Lib.hid hr0
  have HC0 := Lib.hid hc0
  cases b with
  | false =>
    rw [if_neg (by decide)] at h1
    obtain rfl := Option.some.inj h1
    clear h h1 hb hr0 hc0
    go_enter Try.func24, Try.ntmps24
    go_wp2_with (go_at_call 53; refine (probe_fits.calls k A0 c0 l0 false _ HR0.out HC0.out HFT.out).mono ?_; rintro e w1 ⟨rfl, q1⟩; have HB1 := Lib.hid q1; clear q1)
    go_ret
    exact ⟨_, rfl, Kd.R_nil _ _ _ _ _, HB1.out⟩
  | true =>
    rw [if_pos rfl] at h1
    obtain ⟨⟨p, e0⟩, hp, h2⟩ := Option.bind_eq_some_iff.mp h1
    obtain ⟨⟨x0, is0⟩, hn, hg⟩ := Option.bind_eq_some_iff.mp h2
    have HP := Lib.hid hp
    have HN := Lib.hid hn
    have HG := Lib.hid (show tightGo k l0 p k x0 is0 [] = some r from hg)
    clear h h1 h2 hb hr0 hc0 hp hn hg
    go_enter Try.func24, Try.ntmps24
    go_wp2_with (go_at_call 53; refine (probe_fits.calls k A0 c0 l0 true _ HR0.out HC0.out HFT.out).mono ?_; rintro e w1 ⟨rfl, q1⟩; have HB1 := Lib.hid q1; clear q1)
    obtain ⟨W, hW⟩ : ∃ W, w1.alloc (.cells #[.slice none 0 0] 43) = W := ⟨_, rfl⟩
    obtain ⟨bs, hbs⟩ : ∃ b, w1.heap.size = b := ⟨_, rfl⟩
    have HQ : Hid (W.heap[bs]? = some (.cells #[.slice none 0 0] 43 (0, 0))) := by rw [← hW, ← hbs]; exact heap_alloc_new w1 _
    have HB : Hid (Below w.heap.size w W) := by rw [← hW]; exact below_alloc HB1.out _
    have HSZ : Hid (bs + 1 ≤ W.heap.size) := by rw [← hW, World.size_alloc, hbs]; exact Nat.le_refl _
    have HWB : Hid (w.heap.size ≤ bs) := by rw [← hbs]; exact HB1.out.size
    rw [hW, hbs]
    clear hW hbs HB1
    go_wp2_with (go_at_call 54; refine (eachT.calls k k A0 c0 l0 p e0 x0 is0 r bs (bs + 1) (.slice none 0 0) W w HR0.out HC0.out HB.out HWB.out HQ.out (own_nil _ _ _ _) (Nat.lt_succ_self _) HSZ.out HP.out HN.out HG.out).mono ?_; rintro e w2 ⟨rfl, ⟨v', q2, q3⟩, q4⟩; have HO2 := Lib.hid q3; have cq := (blk_cell q2 0).trans rfl; have HB2 := Lib.hid q4; clear q2 q3 q4)
    go_ret
    exact ⟨v', rfl, Kd.R_lower (Kd.R_of_own HO2.out (fun _ _ => trivial)) (Nat.le_succ_of_le HWB.out), HB2.out⟩

end Go.Proofs.Ytmgmpifbhjoijaa.PProbeSlack
