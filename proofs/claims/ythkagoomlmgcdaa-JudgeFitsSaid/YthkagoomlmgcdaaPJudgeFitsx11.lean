-- Made by px.py (a program of this session, over the kit's printer) out of the translation. Not trusted: Lean checks it.
import Derived.Test.YthkagoomlmgcdaaPJudgeFitsx0
import Derived.Test.YthkagoomlmgcdaaPJudgeFitsx4
import Derived.Test.YthkagoomlmgcdaaPJudgeFitsx6
import Derived.Test.YthkagoomlmgcdaaPJudgeFitsx9
import Derived.Test.YthkagoomlmgcdaaPJudgeFitsx10
namespace Go.Proofs.Ythkagoomlmgcdaa.PJudgeFits
open Go.RowKit Go.Proofs.YthkagoomlmgcdaaW.PrintWords Go.Proofs.YthkagoomlmgcdaaW.PrintLast Go.Proofs.YthkagoomlmgcdaaW.PrintMore
attribute [local go_sem] max2_int min2_int max_two min_two max_three min_three max_four min_four   -- for this text's walks alone
set_option linter.unusedVariables false
set_option linter.unusedSimpArgs false

/-! ### judge_all: function 63 (by hand) -/
set_option maxHeartbeats 4000000 in
set_option maxRecDepth 100000 in
theorem ctGrow.calls (n : Nat) (w : World) (hn : n ≤ 1000000) : Calls Try.prog 115 #[.slice none 0 0, .int .i64 (n : Int)] w fun e w' => ∃ v : Value, e = .returned v ∧ Kd.R k31 31 w' w.heap.size (fun _ => True) v [] ∧ Below w.heap.size w w' := by
  rcases Nat.eq_zero_or_pos n with h0 | h0
  · subst h0
    go_enter Try.func115, Try.ntmps115
    go_wp2
    go_ret
    exact ⟨_, rfl, Kd.R_nil _ _ _ _ _, Below.refl _ _⟩
  · obtain ⟨i0, hi0, hz0, hz1, hz2⟩ := info_parts info31
    have hrz : ∀ ty, ∃ G, n ≤ G ∧ G ≤ maxLen ∧ (Builtin.append_ #[24, 3] ty #[.slice none 0 0, .int .i64 (n : Int)]).run Try.prog w = .ok (.slice (some ⟨w.heap.size, 0, none⟩) n G) (w.drew.alloc (.cells (Builtin.zeroCells (zTask : Value).cells n ++ Builtin.zeroCells (zTask : Value).cells (G - n)) 31)) := fun ty =>
      PxG.grow_run w 24 3 ty 31 i0 _ .i64 Try.underlying24 Try.underlying3 hi0 hz0 n h0 (by rw [hz1]; decide) (by rw [hz2]; omega) (by omega)
    obtain ⟨G, hG1, hG2, hrun⟩ := hrz 24
    have hsz : (Builtin.zeroCells (zTask : Value).cells n ++ Builtin.zeroCells (zTask : Value).cells (G - n)).size = G * 5 := by
      simp [Builtin.zeroCells, Value.cells]
      omega
    obtain ⟨cs, hcs⟩ : ∃ cs, Builtin.zeroCells (zTask : Value).cells n ++ Builtin.zeroCells (zTask : Value).cells (G - n) = cs := ⟨_, rfl⟩
    rw [hcs] at hrun hsz
    clear hcs hrz hi0 hz0 hz1 hz2
    have HSZ := Aside0.mk hsz
    clear hsz
    have HG2 := Aside0.mk hG2
    clear hG2
    have hG63 : G ≤ 9223372036854775807 := by have := HG2.out; unfold maxLen at this; omega
    have hp : (0 : Int) < (n : Int) := by omega
    go_enter Try.func115, Try.ntmps115
    go_wp2_with (at_builtin; refine Lib.wpList_append_run _ rfl _ _ _ _ rfl _ _ rfl rfl _ _ hrun ?_)
    all_goals (go_ret; exact ⟨_, rfl, R_empty k31 (Nat.le_refl _) trivial (heap_alloc_new w.drew _) HG2.out HSZ.out, below_alloc (below_drew1 (Below.refl _ _)) _⟩)
/-- Slices of a row of slices: what each of them holds. -/
def ctSrcs (w : World) (vs : List Value) (ls : List (List S31)) : Prop := vs.length = ls.length ∧ ∀ (i : Nat) l, ls[i]? = some l → ∃ A c, vs[i]? = some (.slice A l.length c) ∧ l.length ≤ c ∧ Kd.C k31 w A l.length l
theorem ct_step (ls : List (List S31)) (i : Nat) (l : List S31) (h : ls[i]? = some l) : (ls.take (i + 1)).flatten = (ls.take i).flatten ++ l := by
  obtain ⟨hi, rfl⟩ := List.getElem?_eq_some_iff.1 h
  rw [List.take_succ_eq_append_getElem hi, List.flatten_append]
  simp
theorem ct_len (ls : List (List S31)) (i : Nat) : (ls.take i).flatten.length ≤ ls.flatten.length := by
  have : ls.flatten.length = (ls.take i).flatten.length + (ls.drop i).flatten.length := by
    rw [← List.length_append, ← List.flatten_append, List.take_append_drop]
  omega
set_option maxHeartbeats 8000000 in
set_option maxRecDepth 100000 in
theorem ctConcat.calls (g cap : Nat) (vs : List Value) (ls : List (List S31)) (w : World) (hg : w.heap[g]? = some (.cells vs.toArray 24 (0, 0))) (hv : ctSrcs w vs ls) (ht : ls.flatten.length ≤ 1000000) (hm : ls.length ≤ 1000) :
    Calls Try.prog 91 #[.slice (some ⟨g, 0, none⟩) ls.length cap] w fun e w' => ∃ v : Value, e = .returned v ∧ Kd.R k31 31 w' w.heap.size (fun _ => True) v ls.flatten ∧ Below w.heap.size w w' := by
  have hu44 := Try.underlying24
  have HG := Aside0.mk hg
  have HV := Aside0.mk hv
  have HT := Aside0.mk ht
  clear hg hv ht
  go_enter Try.func91, Try.ntmps91
  go_wp2
  go_loopw [3, 5, 11] (fun v3 _ v11 wr => ∃ i : Nat, i ≤ ls.length ∧ v11 = .int .i64 i ∧ v3 = .int .i64 ((ls.take i).flatten.length : Nat) ∧ Aside0 (Below w.heap.size w wr)) (fun _ _ v11 _ => ls.length - (intOf v11).toNat)
  case atStart => exact ⟨0, Nat.zero_le _, rfl, by simp, ⟨Below.refl _ _⟩⟩
  case round =>
    obtain ⟨i, hi, rfl, rfl, HB⟩ := hrel
    by_cases hlt : i < ls.length
    · obtain ⟨l, hl⟩ : ∃ l, ls[i]? = some l := ⟨_, List.getElem?_eq_getElem hlt⟩
      obtain ⟨A, c, h1, h2, h3⟩ := HV.out.2 i l hl
      have hst := ct_step ls i l hl
      have hle := ct_len ls (i + 1)
      rw [hst, List.length_append] at hle
      have htt := HT.out
      have p0 : (0 : Int) ≤ (i : Int) := by omega
      have q0 : (i : Int) < (ls.length : Int) := by omega
      have c0 : wr.cell? ⟨g, i, none⟩ = some (.slice A l.length c) := (HB.out.cell (World.block_lt_of_cell? w _ ((blk_cell HG.out i).trans (by rw [List.getElem?_toArray]; exact h1)))).trans ((blk_cell HG.out i).trans (by rw [List.getElem?_toArray]; exact h1))
      obtain ⟨s, hs⟩ : ∃ s, (ls.take i).flatten.length = s := ⟨_, rfl⟩
      obtain ⟨m, hm1⟩ : ∃ m, l.length = m := ⟨_, rfl⟩
      rw [hs, hm1] at hle
      rw [hs]
      rw [hm1] at c0
      have HST := Aside0.mk (show (ls.take (i + 1)).flatten.length = s + m by rw [hst, List.length_append, hs, hm1])
      have hsm : s + m ≤ 1000000 := by omega
      clear hl h1 h2 h3 hst hle htt hs hm1
      go_wp2
      go_roundw
      case rel => exact ⟨i + 1, by omega, by go_num, by rw [HST.out]; go_num, HB⟩
      case measure => simp [intOf]; omega
    · obtain rfl : i = ls.length := by omega
      obtain ⟨tot, htot⟩ : ∃ t, (ls.take ls.length).flatten.length = t := ⟨_, rfl⟩
      rw [htot]
      have hle : tot ≤ 1000000 := by have := ct_len ls ls.length; have := HT.out; omega
      clear htot hlt hi
      go_wp2_with (go_at_call 115; refine (ctGrow.calls tot wr hle).mono ?_; rintro e w1 ⟨v6, rfl, hr, hb⟩; have HR := Aside0.mk (Kd.R_lower hr (below_size HB.out)); have HB1 := Aside0.mk (below_step HB.out hb); clear hr hb HB)
      go_loopw [6, 8, 27] (fun v6 _ v27 wr => ∃ i : Nat, i ≤ ls.length ∧ v27 = .int .i64 i ∧ Aside0 (Kd.R k31 31 wr w.heap.size (fun _ => True) v6 (ls.take i).flatten) ∧ Aside0 (Below w.heap.size w wr)) (fun _ _ v27 _ => ls.length - (intOf v27).toNat)
      case atStart => exact ⟨0, Nat.zero_le _, rfl, ⟨by simpa using HR.out⟩, HB1⟩
      case round =>
        clear HR HB1
        obtain ⟨i, hi, rfl, HR, HB⟩ := hrel
        by_cases hlt : i < ls.length
        · obtain ⟨l, hl⟩ : ∃ l, ls[i]? = some l := ⟨_, List.getElem?_eq_getElem hlt⟩
          obtain ⟨A, c, h1, h2, h3⟩ := HV.out.2 i l hl
          have hst := ct_step ls i l hl
          have hle := ct_len ls (i + 1)
          rw [hst, List.length_append] at hle
          have htt := HT.out
          have p0 : (0 : Int) ≤ (i : Int) := by omega
          have q0 : (i : Int) < (ls.length : Int) := by omega
          have c0 : wr.cell? ⟨g, i, none⟩ = some (.slice A l.length c) := (HB.out.cell (World.block_lt_of_cell? w _ ((blk_cell HG.out i).trans (by rw [List.getElem?_toArray]; exact h1)))).trans ((blk_cell HG.out i).trans (by rw [List.getElem?_toArray]; exact h1))
          have HST := Aside0.mk hst
          have HLE := Aside0.mk (show (ls.take i).flatten.length + l.length ≤ 1000000 by omega)
          have H3 := Aside0.mk h3
          clear hl h1 h2 h3 hst hle htt
          obtain ⟨P, hP⟩ : ∃ P, (ls.take i).flatten = P := ⟨_, rfl⟩
          rw [hP] at HR HLE HST
          clear hP
          go_wp2_with ((with_reducible refine gate_builtin (b := .append) (xs := #[.tmp 31, .tmp 32]) rfl ?_); at_builtin; refine Kd.R_append_rows k31 (w0 := w) w.heap.size rfl (.tmp 31) (.tmp 32) 24 31 zTask (5 * 8) rfl Try.underlying24 info31 rfl (by decide) (by omega) _ P l _ _ _ (fun _ => True) (fun _ => False) rfl rfl ?aO ?aR (fun _ _ h => h) (fun _ h => h.elim) ?aF ?aB ?aS ?aL ?_; (case aR => exact Kd.C_below H3.out HB.out); (case aB => exact HB.out); (case aF => exact (fun _ _ => trivial)); (case aO => exact HR.out); (case aS => exact below_size HB.out); (case aL => have := HLE.out; omega); intro v33 w5 ho hb hg hat; have HR5 := Aside0.mk ho; have HB5 := Aside0.mk hb; clear ho hb hg hat)
          go_roundw
          case rel => exact ⟨i + 1, by omega, by go_num, ⟨by rw [HST.out]; exact HR5.out⟩, HB5⟩
          case measure => simp [intOf]; omega
        · obtain rfl : i = ls.length := by omega
          go_wp2
          go_ret
          exact ⟨_, rfl, by have := HR.out; rwa [List.take_length] at this, HB.out⟩
-- qpa_Test
def judge_all.f (k : Nat) (l0 l1 : List S31) : Option Int := if l0.length + l1.length ≤ 1000000 then (if l0.length + l1.length > 16 then some 15 else qpa_Test.f k (l0 ++ l1)) else none
theorem judge_all.mono : ∀ a0 a1 k, LeO (judge_all.f k a0 a1) (judge_all.f (k + 1) a0 a1) := fun a0 a1 k => LeO.ite (LeO.ite (LeO.refl _) (qpa_Test.mono _ k)) (LeO.refl _)
set_option maxHeartbeats 8000000 in
set_option maxRecDepth 100000 in
theorem judge_all.calls (k : Nat) (A0 : Option Addr) (c0 : Nat) (l0 : List S31) (A1 : Option Addr) (c1 : Nat) (l1 : List S31) (r : Int) (w : World) (hr0 : Kd.C k31 w A0 l0.length l0) (hc0 : l0.length ≤ c0) (hr1 : Kd.C k31 w A1 l1.length l1) (hc1 : l1.length ≤ c1) (h : judge_all.f k l0 l1 = some r) :
    Calls Try.prog 63 #[.slice A0 l0.length c0, .slice A1 l1.length c1] w fun e w' => e = .returned (.int .i64 r) ∧ Below w.heap.size w w' := by
  have hu24 := Try.underlying24
  unfold judge_all.f at h
  by_cases hm : l0.length + l1.length ≤ 1000000
  case neg => rw [if_neg hm] at h; cases h
  rw [if_pos hm] at h
  obtain ⟨W, hW⟩ : ∃ W, w.alloc (.cells #[.slice A0 l0.length c0, .slice A1 l1.length c1] 24) = W := ⟨_, rfl⟩
  have hbw : Below w.heap.size w W := by rw [← hW]; exact below_alloc (Below.refl _ _) _
  have HG : Aside0 (W.heap[w.heap.size]? = some (.cells #[.slice A0 l0.length c0, .slice A1 l1.length c1] 24 (0, 0))) := ⟨by rw [← hW]; exact heap_alloc_new w _⟩
  have HSRC : Aside0 (ctSrcs W [.slice A0 l0.length c0, .slice A1 l1.length c1] [l0, l1]) := ⟨⟨rfl, fun q l hq => by
    match q, hq with
    | 0, hq => obtain rfl : l0 = l := by simpa using hq
               exact ⟨_, _, rfl, hc0, Kd.C_below hr0 hbw⟩
    | 1, hq => obtain rfl : l1 = l := by simpa using hq
               exact ⟨_, _, rfl, hc1, Kd.C_below hr1 hbw⟩
    | q + 2, hq => simp at hq⟩⟩
  obtain ⟨Y, hY⟩ : ∃ Y, l0 ++ l1 = Y := ⟨_, rfl⟩
  have hYl : l0.length + l1.length = Y.length := by rw [← hY]; simp
  have HTOT : Aside0 (([l0, l1] : List (List S31)).flatten.length ≤ 1000000) := ⟨by simp; omega⟩
  have HRES : Aside0 ([l0, l1].flatten = Y) := ⟨by rw [← hY]; simp⟩
  have HB := Aside0.mk hbw
  rw [hYl, hY] at h
  rw [hYl] at hm
  have HW := Aside0.mk hW
  clear hbw hr0 hr1 hc0 hc1 hY hYl hW
  by_cases h16 : Y.length > 16
  · rw [if_pos h16] at h
    obtain rfl := Option.some.inj h
    have h16b : (16 : Int) < (Y.length : Int) := by omega
    clear h
    go_enter Try.func63, Try.ntmps63
    go_wp2_with (go_at_call 91; rw [HW.out]; refine (ctConcat.calls w.heap.size 2 [.slice A0 l0.length c0, .slice A1 l1.length c1] [l0, l1] W HG.out HSRC.out HTOT.out (by simp)).mono ?_; rintro e w1 ⟨v, rfl, hr, hb⟩; rw [HRES.out] at hr; obtain ⟨A2, c2, rfl⟩ := Kd.R_slice hr; have HB1 := Aside0.mk (below_step HB.out hb); clear hr hb)
    go_ret
    exact ⟨rfl, HB1.out⟩
  · rw [if_neg h16] at h
    have h16b : (Y.length : Int) ≤ 16 := by omega
    have HT := Aside0.mk h
    clear h
    go_enter Try.func63, Try.ntmps63
    go_wp2_with (first
      | (go_at_call 91; rw [HW.out]; refine (ctConcat.calls w.heap.size 2 [.slice A0 l0.length c0, .slice A1 l1.length c1] [l0, l1] W HG.out HSRC.out HTOT.out (by simp)).mono ?_; rintro e w1 ⟨v, rfl, hr, hb⟩; rw [HRES.out] at hr; obtain ⟨A2, c2, rfl⟩ := Kd.R_slice hr; have HR2 := Aside0.mk (Kd.R_reads' hr).2.2; have HC2 := Aside0.mk (Kd.R_reads' hr).2.1; have HB1 := Aside0.mk (below_step HB.out hb); clear hr hb)
      | (go_at_call 44; refine (qpa_Test.calls k A2 c2 Y r w1 HR2.out HC2.out HT.out).mono ?_; rintro e w2 ⟨rfl, hb⟩; have HB2 := Aside0.mk (below_step HB1.out hb); clear hb))
    go_ret
    exact ⟨rfl, HB2.out⟩

/-! ### table_In: function 64 (by hand) -/
def tiIdx (p : S31 → Bool) (l0 : List S31) : Int := match l0.findIdx? p with | some i => (i : Int) | none => -1
theorem tiIdx_some {p : S31 → Bool} {l0 : List S31} {k : Nat} (hk : k < l0.length) (hb : ∀ j, j < k → p (rd_T31 l0 j) = false) (h : p (rd_T31 l0 k) = true) : tiIdx p l0 = k := by
  have e : l0.findIdx? p = some k := by
    rw [List.findIdx?_eq_some_iff_getElem]
    refine ⟨hk, by simpa [rd_T31, hk] using h, fun j hj => ?_⟩
    have := hb j hj
    simpa [rd_T31, Nat.lt_trans hj hk] using this
  unfold tiIdx; rw [e]
theorem tiIdx_none {p : S31 → Bool} {l0 : List S31} (hb : ∀ j, j < l0.length → p (rd_T31 l0 j) = false) : tiIdx p l0 = -1 := by
  have e : l0.findIdx? p = none := by
    rw [List.findIdx?_eq_none_iff]
    intro x hx
    obtain ⟨j, hj, rfl⟩ := List.getElem_of_mem hx
    have := hb j hj
    simpa [rd_T31, hj] using this
  unfold tiIdx; rw [e]
set_option maxHeartbeats 4000000 in
set_option maxRecDepth 100000 in
theorem tiIndex.calls (capv : Value) (p : S31 → Bool) (A0 : Option Addr) (c0 : Nat) (l0 : List S31) (w : World) (hr0 : Kd.C k31 w A0 l0.length l0)
    (hF : ∀ (W : World) (x : S31), Below w.heap.size w W → Calls Try.prog 93 #[.agg #[.int .i64 x.f0, .int .i64 x.f1, .int .i64 x.f2, .int .i64 x.f3, .int .i64 x.f4], capv] W fun e W' => e = .returned (.bool (p x)) ∧ Below W.heap.size W W') :
    Calls Try.prog 75 #[.slice A0 l0.length c0, .func (.func 93) #[] #[capv]] w fun e w' => e = .returned (.int .i64 (tiIdx p l0)) ∧ Below w.heap.size w w' := by
  have hu := Try.underlying31
  have hmax : l0.length ≤ 9223372036854775807 := Kd.C_max hr0
  have HR0 := Aside0.mk hr0
  have HF := Aside0.mk hF
  clear hr0 hF
  go_enter Try.func75, Try.ntmps75
  go_wp2
  go_loopw [5, 8] (fun _ v8 wr => ∃ k : Nat, k ≤ l0.length ∧ v8 = .int .i64 k ∧ Aside0 (∀ j, j < k → p (rd_T31 l0 j) = false) ∧ Aside0 (Below w.heap.size w wr)) (fun _ v8 _ => l0.length - (intOf v8).toNat)
  case atStart => exact ⟨0, Nat.zero_le _, rfl, ⟨fun j hj => absurd hj (Nat.not_lt_zero _)⟩, ⟨Below.refl _ _⟩⟩
  case round =>
    obtain ⟨k, hk, rfl, HP, HB⟩ := hrel
    by_cases hlt : k < l0.length
    · have p0 : (0 : Int) ≤ (k : Int) := by omega
      have q0 : (k : Int) < (l0.length : Int) := by omega
      obtain ⟨ad, e0, hx0, hx1, hx2, hx3, hx4⟩ := at_T31 HR0.out k p0 q0
      cases e0
      replace hx0 := (HB.out.cell (World.block_lt_of_cell? w _ hx0)).trans hx0
      replace hx1 := (HB.out.cell (World.block_lt_of_cell? w _ hx1)).trans hx1
      replace hx2 := (HB.out.cell (World.block_lt_of_cell? w _ hx2)).trans hx2
      replace hx3 := (HB.out.cell (World.block_lt_of_cell? w _ hx3)).trans hx3
      replace hx4 := (HB.out.cell (World.block_lt_of_cell? w _ hx4)).trans hx4
      simp only [Int.toNat_natCast] at hx0 hx1 hx2 hx3 hx4
      have HC := Lib.hid (HF.out wr (rd_T31 l0 k) HB.out)
      cases hb : p (rd_T31 l0 k) with
      | false =>
        rw [hb] at HC
        have HT := Lib.hid hb
        clear hb
        go_wp2_with (go_at_call 93; refine HC.out.mono ?_; rintro e w1 ⟨rfl, hb1⟩; have HB1 := Aside0.mk (below_step HB.out hb1); clear hb1)
        go_roundw
        case rel => exact ⟨k + 1, by omega, by go_num, ⟨fun j hj => by rcases Nat.lt_succ_iff_lt_or_eq.1 hj with h | rfl; exact HP.out j h; exact HT.out⟩, HB1⟩
        case measure => simp [intOf]; omega
      | true =>
        rw [hb] at HC
        have HT := Lib.hid hb
        clear hb
        go_wp2_with (go_at_call 93; refine HC.out.mono ?_; rintro e w1 ⟨rfl, hb1⟩; have HB1 := Aside0.mk (below_step HB.out hb1); clear hb1)
        go_ret
        exact ⟨by rw [tiIdx_some hlt HP.out HT.out]; rfl, HB1.out⟩
    · go_wp2
      go_ret
      exact ⟨by rw [tiIdx_none (fun j hj => HP.out j (by omega))]; rfl, HB.out⟩
set_option maxHeartbeats 8000000 in
set_option maxRecDepth 100000 in
theorem tiDelete.calls (capv : Value) (p : S31 → Bool) (g c0 : Nat) (cur0 : Array Value) (l0 : List S31) (w : World) (hg : w.heap[g]? = some (.cells cur0 31 (0, 0))) (ht : TR cur0 l0) (hs : cur0.size = c0 * 5) (hl : l0.length ≤ c0) (hm : c0 ≤ maxLen)
    (hF : ∀ (W : World) (x : S31), w.grownBy W (some g) → Calls Try.prog 93 #[.agg #[.int .i64 x.f0, .int .i64 x.f1, .int .i64 x.f2, .int .i64 x.f3, .int .i64 x.f4], capv] W fun e W' => e = .returned (.bool (p x)) ∧ Below W.heap.size W W') :
    Calls Try.prog 92 #[.slice (some ⟨g, 0, none⟩) l0.length c0, .func (.func 93) #[] #[capv]] w fun e w' => e = .returned (.slice (some ⟨g, 0, none⟩) (l0.filter fun x => !p x).length c0) ∧ w.grownBy w' (some g) ∧ ∃ cur, w'.heap[g]? = some (.cells cur 31 (0, 0)) ∧ cur.size = c0 * 5 ∧ TR cur (l0.filter fun x => !p x) := by
  have hu := Try.underlying31
  have hR : Kd.R k31 31 w 0 (fun _ => True) (.slice (some ⟨g, 0, none⟩) l0.length c0) l0 := R_of_TR (Nat.zero_le _) trivial hg hl hm hs ht
  have hr0 := (Kd.R_reads' hR).2.2
  have hmax : l0.length ≤ 9223372036854775807 := Kd.C_max hr0
  have HI := Lib.hid (tiIndex.calls capv p (some ⟨g, 0, none⟩) c0 l0 w hr0 (fun W x hW => hF W x (grown_of_below hW _)))
  clear hR hr0
  have HF := Lib.hid hF
  have HT := Lib.hid ht
  have HS := Lib.hid hs
  have HG := Lib.hid hg
  have HL := Lib.hid hl
  clear hF ht hs hg hl hm
  cases hx : l0.findIdx? p with
  | none =>
    have e1 : tiIdx p l0 = -1 := by unfold tiIdx; rw [hx]
    have e2 : (l0.filter fun x => !p x) = l0 := by
      rw [List.filter_eq_self]; intro a ha
      have := List.findIdx?_eq_none_iff.1 hx a ha
      simp [this]
    rw [e2]
    rw [e1] at HI
    clear e1 e2 hx
    go_enter Try.func92, Try.ntmps92
    go_wp2_with (go_at_call 75; refine HI.out.mono ?_; rintro e w1 ⟨rfl, hb1⟩; have HB1 := Lib.hid hb1; clear hb1)
    go_ret
    exact ⟨rfl, grown_of_below HB1.out _, cur0, blk_below HG.out HB1.out, HS.out, HT.out⟩
  | some k0 =>
    obtain ⟨hk, hpk, hall⟩ := List.findIdx?_eq_some_iff_getElem.1 hx
    have e1 : tiIdx p l0 = (k0 : Int) := by unfold tiIdx; rw [hx]
    rw [e1] at HI
    clear e1 hx
    obtain ⟨pre, y, suf, rfl, rfl⟩ : ∃ pre y suf, l0 = pre ++ y :: suf ∧ pre.length = k0 := ⟨l0.take k0, l0[k0], l0.drop (k0 + 1), by rw [← List.drop_eq_getElem_cons hk, List.take_append_drop], by simp; omega⟩
    have hpy : p y = true := by simpa using hpk
    have hpre : ∀ x ∈ pre, p x = false := fun x hx => by
      obtain ⟨j, hj, rfl⟩ := List.getElem_of_mem hx
      have := hall j hj
      rw [List.getElem_append_left hj] at this
      simpa using this
    have hfil : (pre ++ y :: suf).filter (fun x => !p x) = pre ++ suf.filter (fun x => !p x) := by
      rw [List.filter_append, List.filter_cons_of_neg (by simp [hpy])]
      rw [List.filter_eq_self.2 (fun x hx => by simp [hpre x hx])]
    have hlen : (pre ++ y :: suf).length = pre.length + 1 + suf.length := by simp; omega
    clear hk hpk hall hpy hpre
    obtain ⟨fl, hfl⟩ : ∃ fl, (pre ++ y :: suf).filter (fun x => !p x) = fl := ⟨_, rfl⟩
    rw [hfl] at hfil
    rw [hfl]
    clear hfl
    have HFIL := Lib.hid hfil
    have hne : ((pre.length : Int) == -1) = false := beq_eq_false_iff_ne.2 (by omega)
    clear hfil
    generalize hn : (pre ++ y :: suf).length = n at *
    have HN := Lib.hid hn
    have HLEN := Lib.hid hlen
    have H0 : Hid (TR cur0 (pre ++ (y :: ([] : List S31)) ++ suf)) := Lib.hid (by simpa using HT.out)
    have hpl : pre.length + 1 ≤ n := by omega
    clear hn hlen
    go_enter Try.func92, Try.ntmps92
    go_wp2_with (go_at_call 75; refine HI.out.mono ?_; rintro e w1 ⟨rfl, hb1⟩; have HB1 := Lib.hid hb1; clear hb1)
    go_loopg [5, 6, 7] n (fun gg s5 s6 _ wr => ∃ (kept junk rest : List S31) (z : S31) (cur : Array Value), s5 = .int .i64 kept.length ∧ s6 = .int .i64 ((kept.length + 1 + junk.length : Nat) : Int) ∧ rest.length ≤ gg ∧ Aside0 (fl = kept ++ rest.filter (fun x => !p x) ∧ n = kept.length + 1 + junk.length + rest.length) ∧ Aside0 (wr.heap[g]? = some (.cells cur 31 (0, 0)) ∧ cur.size = c0 * 5 ∧ TR cur (kept ++ (z :: junk) ++ rest)) ∧ Aside0 (w.grownBy wr (some g)))
    case atStart => exact ⟨pre, [], suf, y, cur0, rfl, by go_num, by have := HLEN.out; omega, ⟨HFIL.out, by have := HLEN.out; simpa using this⟩, ⟨blk_below HG.out HB1.out, HS.out, H0.out⟩, ⟨grown_of_below HB1.out _⟩⟩
    case round =>
      obtain ⟨kept, junk, rest, z, cur, rfl, rfl, hgg, HA, HC, HW⟩ := hrel
      have hA := HA.out.2
      have hj0 : (0 : Int) ≤ ((kept.length + 1 + junk.length : Nat) : Int) := by omega
      have hi0 : (0 : Int) ≤ ((kept.length : Nat) : Int) := by omega
      cases rest with
      | cons x rest =>
        have hjn : ((kept.length + 1 + junk.length : Nat) : Int) < (n : Int) := by simp at hA; omega
        have hin : ((kept.length : Nat) : Int) < (n : Int) := by omega
        obtain ⟨t0, t1, t2, t3, t4⟩ := HC.out.2.2 (kept.length + 1 + junk.length) x (by
          rw [List.getElem?_append_right (by simp; omega)]
          simp only [List.length_append, List.length_cons]
          rw [show kept.length + 1 + junk.length - (kept.length + (junk.length + 1)) = 0 by omega]; rfl)
        have hb0 := HC.out.1
        have c0' : wr.cell? ⟨g, (kept.length + 1 + junk.length) * 5, none⟩ = some (.int .i64 x.f0) := (blk_cell hb0 _).trans t0
        have c1' : wr.cell? ⟨g, (kept.length + 1 + junk.length) * 5 + 1, none⟩ = some (.int .i64 x.f1) := (blk_cell hb0 _).trans t1
        have c2' : wr.cell? ⟨g, (kept.length + 1 + junk.length) * 5 + 2, none⟩ = some (.int .i64 x.f2) := (blk_cell hb0 _).trans t2
        have c3' : wr.cell? ⟨g, (kept.length + 1 + junk.length) * 5 + 3, none⟩ = some (.int .i64 x.f3) := (blk_cell hb0 _).trans t3
        have c4' : wr.cell? ⟨g, (kept.length + 1 + junk.length) * 5 + 4, none⟩ = some (.int .i64 x.f4) := (blk_cell hb0 _).trans t4
        clear t0 t1 t2 t3 t4 hA hb0
        generalize hj : kept.length + 1 + junk.length = j at *
        have HJ := Lib.hid hj
        clear hj
        have HP := Lib.hid (fun (W : World) (hW : wr.grownBy W (some g)) => HF.out W x (HW.out.trans hW))
        obtain ⟨z0, z1, z2, z3, z4⟩ := HC.out.2.2 kept.length z (by rw [List.append_assoc, List.getElem?_append_right (Nat.le_refl _), Nat.sub_self]; rfl)
        have HZ := Lib.hid z0
        have HZ1 := Lib.hid z1
        have HZ2 := Lib.hid z2
        have HZ3 := Lib.hid z3
        have HZ4 := Lib.hid z4
        clear z0 z1 z2 z3 z4
        cases hb : p x with
        | false =>
          rw [hb] at HP
          have HPX := Lib.hid hb
          clear hb
          go_wp2_with (go_at_call 93; refine (HP.out _ (World.grownBy_alloc wr _ _)).mono ?_; rintro e w2 ⟨rfl, hb2⟩; have hg2 := blk_below (blk_alloc HC.out.1 _) hb2; have hx2 := blk_below (blk_new wr _) hb2; have d0 : w2.cell? ⟨wr.heap.size, 0, none⟩ = some (.int .i64 x.f0) := (blk_cell hx2 0).trans rfl; have d1 : w2.cell? ⟨wr.heap.size, 1, none⟩ = some (.int .i64 x.f1) := (blk_cell hx2 1).trans rfl; have d2 : w2.cell? ⟨wr.heap.size, 2, none⟩ = some (.int .i64 x.f2) := (blk_cell hx2 2).trans rfl; have d3 : w2.cell? ⟨wr.heap.size, 3, none⟩ = some (.int .i64 x.f3) := (blk_cell hx2 3).trans rfl; have d4 : w2.cell? ⟨wr.heap.size, 4, none⟩ = some (.int .i64 x.f4) := (blk_cell hx2 4).trans rfl; have e0 : w2.cell? ⟨g, kept.length * 5, none⟩ = some (.int .i64 z.f0) := (blk_cell hg2 _).trans HZ.out; have e1 : w2.cell? ⟨g, kept.length * 5 + 1, none⟩ = some (.int .i64 z.f1) := (blk_cell hg2 _).trans HZ1.out; have e2 : w2.cell? ⟨g, kept.length * 5 + 2, none⟩ = some (.int .i64 z.f2) := (blk_cell hg2 _).trans HZ2.out; have e3 : w2.cell? ⟨g, kept.length * 5 + 3, none⟩ = some (.int .i64 z.f3) := (blk_cell hg2 _).trans HZ3.out; have e4 : w2.cell? ⟨g, kept.length * 5 + 4, none⟩ = some (.int .i64 z.f4) := (blk_cell hg2 _).trans HZ4.out; have f0 : w2.frozen? ⟨g, kept.length * 5, none⟩ = false := blk_frozen hg2 _; have f1 : w2.frozen? ⟨g, kept.length * 5 + 1, none⟩ = false := blk_frozen hg2 _; have f2 : w2.frozen? ⟨g, kept.length * 5 + 2, none⟩ = false := blk_frozen hg2 _; have f3 : w2.frozen? ⟨g, kept.length * 5 + 3, none⟩ = false := blk_frozen hg2 _; have f4 : w2.frozen? ⟨g, kept.length * 5 + 4, none⟩ = false := blk_frozen hg2 _; have HG2 := Lib.hid hg2; have HB2 := Lib.hid hb2; clear hg2 hx2 hb2)
          go_roundg rest.length
          case measure => simp at hgg; omega
          case rel =>
            obtain ⟨z', junk', hzj⟩ : ∃ z' junk', junk ++ [x] = z' :: junk' := by cases junk with | nil => exact ⟨x, [], rfl⟩ | cons a b => exact ⟨a, b ++ [x], rfl⟩
            have hzl := congrArg List.length hzj
            simp only [List.length_append, List.length_cons, List.length_nil] at hzl
            have hjj := HJ.out
            obtain ⟨cur', hbs, hcs, hts⟩ := TR.set_blk HG2.out HC.out.2.2 kept.length (by simp) x
            rw [set_mid, hzj] at hts
            have hgr := HW.out.trans (((World.grownBy_alloc wr _ (some g)).trans (grown_of_below HB2.out _)).trans (grown5 w2 g (kept.length * 5) (kept.length * 5 + 1) (kept.length * 5 + 2) (kept.length * 5 + 3) (kept.length * 5 + 4) (.int .i64 x.f0) (.int .i64 x.f1) (.int .i64 x.f2) (.int .i64 x.f3) (.int .i64 x.f4)))
            refine ⟨kept ++ [x], junk', rest, z', cur', ?_, ?_, Nat.le_refl _, ⟨?_, ?_⟩, ⟨hbs, hcs.trans HC.out.2.1, hts⟩, ⟨hgr⟩⟩
            · exact congrArg (Value.int .i64) (by rw [List.length_append]; rfl)
            · refine congrArg (Value.int .i64) ?_
              rw [List.length_append, ← hjj]
              simp only [List.length_cons, List.length_nil]
              omega
            · rw [HA.out.1, List.filter_cons_of_pos (by simp [HPX.out]), List.append_assoc]; rfl
            · have := HA.out.2; simp at this ⊢; omega
        | true =>
          rw [hb] at HP
          have HPX := Lib.hid hb
          clear hb
          go_wp2_with (go_at_call 93; refine (HP.out _ (World.grownBy_alloc wr _ _)).mono ?_; rintro e w2 ⟨rfl, hb2⟩; have HB2 := Lib.hid hb2; clear hb2)
          go_roundg rest.length
          case measure => simp at hgg; omega
          case rel =>
            have hjj := HJ.out
            refine ⟨kept, junk ++ [x], rest, z, cur, rfl, ?_, Nat.le_refl _, ⟨?_, ?_⟩, ⟨blk_below (blk_alloc HC.out.1 _) HB2.out, HC.out.2.1, by have := HC.out.2.2; simpa using this⟩, ⟨HW.out.trans ((World.grownBy_alloc wr _ (some g)).trans (grown_of_below HB2.out _))⟩⟩
            · congr 1; simp; omega
            · rw [HA.out.1, List.filter_cons_of_neg (by simp [HPX.out])]
            · have := HA.out.2; simp at this ⊢; omega
      | nil =>
        have hA2 : n = kept.length + 1 + junk.length := by simpa using hA
        clear hA
        have hin : ((kept.length : Nat) : Int) < (n : Int) := by omega
        have hnn : ¬ ((kept.length + 1 + junk.length : Nat) : Int) < (n : Int) := by omega
        have HA2 := Lib.hid hA2
        generalize hj : kept.length + 1 + junk.length = j at *
        have HJ := Lib.hid hj
        clear hA2 hj
        have hlc := HL.out
        have hkc : ¬ c0 = kept.length := by omega
        have hkc2 : kept.length < c0 := by omega
        have hcl : ∀ ty, (Builtin.clear_ #[24] ty #[.slice (some ⟨g, kept.length * 5, none⟩) (n - kept.length) (c0 - kept.length)]).run Try.prog wr = .ok (.tuple #[]) (wr.setCells g (kept.length * 5) (List.replicate ((n - kept.length) * 5) (.int .i64 0))) := fun ty =>
          run_clear5 wr _ _ ty Try.underlying24 zero28 g (kept.length * 5) _ _ (by omega) (fun q hq => by
            rw [blk_cell HC.out.1, Array.getElem?_eq_getElem (by have := HC.out.2.1; omega)]; rfl) (fun q hq => blk_frozen HC.out.1 _)
        clear hlc
        go_wp2
        go_ret
        have hsz := HC.out.2.1
        obtain ⟨cur', b1, b2, b3⟩ := setCells_row (List.replicate ((n - kept.length) * 5) (Value.int .i64 0)) (kept.length * 5) wr cur HC.out.1 (by have := HL.out; simp; omega)
        obtain ⟨s1, s2, s3, s4⟩ := setCells_same g (List.replicate ((n - kept.length) * 5) (Value.int .i64 0)) (kept.length * 5) wr
        have hfk : fl = kept := by rw [HA.out.1]; simp
        rw [hfk]
        refine ⟨rfl, HW.out.trans ⟨s1, s2, s3, by rw [s4]; exact Nat.le_refl _, fun q _ hne => setCells_far _ _ q (fun e => hne (by rw [e]))⟩, cur', b1, by rw [b2]; exact hsz, fun q x hq => ?_⟩
        have hql := (List.getElem?_eq_some_iff.1 hq).1
        obtain ⟨r0, r1, r2, r3, r4⟩ := HC.out.2.2 q x (by rw [List.append_assoc, List.getElem?_append_left hql]; exact hq)
        have key : ∀ i u, i < kept.length * 5 → cur[i]? = some u → cur'[i]? = some u := by
          intro i u hi hu
          rw [← Array.getElem?_toList, b3, List.append_assoc, List.getElem?_append_left (by simp; omega), List.getElem?_take_of_lt hi]
          simpa using hu
        exact ⟨key _ _ (by omega) r0, key _ _ (by omega) r1, key _ _ (by omega) r2, key _ _ (by omega) r3, key _ _ (by omega) r4⟩
-- table_Tasks
/-- Is a task in none of a mode's? -/
def inOut (m : Int) (x : S31) : Bool := if m < 0 then true else if m ≥ 4 then true else bits .and .i64 (shr .i64 x.f4 m) 1 == 0
set_option maxHeartbeats 4000000 in
theorem inPred.calls (gm : Nat) (m : Int) (x : S31) (W : World) (hm : W.heap[gm]? = some (.cells #[.int .i64 m] 3 (0, 0))) :
    Calls Try.prog 93 #[.agg #[.int .i64 x.f0, .int .i64 x.f1, .int .i64 x.f2, .int .i64 x.f3, .int .i64 x.f4], .pointer (some ⟨gm, 0, none⟩)] W fun e W' => e = .returned (.bool (inOut m x)) ∧ Below W.heap.size W W' := by
  have c0 : W.cell? ⟨gm, 0, none⟩ = some (.int .i64 m) := (blk_cell hm 0).trans rfl
  have hlt := blk_lt hm
  have hne : ¬ gm = W.heap.size := by omega
  have hne2 : ¬ W.heap.size = gm := by omega
  clear hm
  by_cases h0 : m < 0
  · go_enter Try.func93, Try.ntmps93
    go_wp2
    go_ret
    exact ⟨by unfold inOut; rw [if_pos h0]; rfl, below_alloc (Below.refl _ _) _⟩
  · by_cases h4 : m ≥ 4
    · go_enter Try.func93, Try.ntmps93
      go_wp2
      go_ret
      exact ⟨by unfold inOut; rw [if_neg (by omega), if_pos h4]; rfl, below_alloc (Below.refl _ _) _⟩
    · have h0' : 0 ≤ m := by omega
      go_enter Try.func93, Try.ntmps93
      go_wp2
      go_ret
      exact ⟨by unfold inOut; rw [if_neg (by omega), if_neg (by omega)]; rw [shr, Nat.min_eq_left (show m.toNat ≤ IntKind.i64.bits from by show m.toNat ≤ 64; omega)]; rfl, below_alloc (Below.refl _ _) _⟩
set_option maxHeartbeats 4000000 in
set_option maxRecDepth 100000 in
theorem tiDelete_R (gm : Nat) (m : Int) {base : Nat} {ok : Nat → Prop} {v : Value} {xs : List S31} (w : World) (hR : Kd.R k31 31 w base ok v xs) (hm : w.heap[gm]? = some (.cells #[.int .i64 m] 3 (0, 0))) :
    Calls Try.prog 92 #[v, .func (.func 93) #[] #[.pointer (some ⟨gm, 0, none⟩)]] w fun e w' => ∃ v', e = .returned v' ∧ Kd.R k31 31 w' base ok v' (xs.filter fun x => !inOut m x) ∧ w.grownBy w' v.ownBlock ∧ ∀ b, v.ownBlock = some b → base ≤ b := by
  rcases TR_of_R hR with ⟨rfl, rfl⟩ | ⟨g, cap, cur, rfl, hb, hok, hg, hl, hmx, hs, ht⟩
  · have HI := Lib.hid (tiIndex.calls (.pointer (some ⟨gm, 0, none⟩)) (inOut m) none 0 ([] : List S31) w (Kd.C_nil _ _) (fun W x hW => inPred.calls gm m x W (blk_below hm hW)))
    clear hR hm
    go_enter Try.func92, Try.ntmps92
    go_wp2_with (go_at_call 75; refine HI.out.mono ?_; rintro e w1 ⟨rfl, hb1⟩; have HB1 := Lib.hid hb1; clear hb1)
    go_ret
    exact ⟨_, rfl, Kd.R_nil _ _ _ _ _, grown_of_below HB1.out _, fun b hb => by cases hb⟩
  · have hgm : some gm ≠ some g := fun e => by
      cases e
      rw [hm] at hg
      injection hg with hg
      injection hg with _ hg
      exact absurd hg (by decide)
    refine (tiDelete.calls (.pointer (some ⟨gm, 0, none⟩)) (inOut m) g cap cur xs w hg ht hs hl hmx (fun W x hW => inPred.calls gm m x W (blk_grown hm hW hgm))).mono ?_
    rintro e w' ⟨rfl, hgr, cur', h1, h2, h3⟩
    have := List.length_filter_le (fun x => !inOut m x) xs
    exact ⟨_, rfl, R_of_TR hb hok h1 (by omega) hmx h2 h3, hgr, fun b hb' => by cases hb'; exact hb⟩
def table_In.f (k : Nat) (l0_0 : List S60) (a0_1 : Int) (a1 : Int) : Option (List S31) := (table_Tasks.f k l0_0 a0_1).bind fun t => some (t.filter fun x => !inOut a1 x)
theorem table_In.mono : ∀ a0 a1 a2 k, LeO (table_In.f k a0 a1 a2) (table_In.f (k + 1) a0 a1 a2) := fun a0 a1 a2 k => LeO.bind (table_Tasks.mono _ _ k) (fun _ => LeO.refl _)
set_option maxHeartbeats 8000000 in
set_option maxRecDepth 100000 in
theorem table_In.calls (k : Nat) (A0_0 : Option Addr) (c0_0 : Nat) (l0_0 : List S60) (a0_1 : Int) (a1 : Int) (r : List S31) (w : World) (hr0_0 : Kd.C k60 w A0_0 l0_0.length l0_0) (hc0_0 : l0_0.length ≤ c0_0) (h : table_In.f k l0_0 a0_1 a1 = some r) :
    Calls Try.prog 64 #[.agg #[.slice A0_0 l0_0.length c0_0, .int .i64 a0_1], .int .i64 a1] w fun e w' => ∃ v0_ : Value, e = .returned (v0_) ∧ Kd.R k31 31 w' w.heap.size (fun _ => True) v0_ r ∧ Below w.heap.size w w' := by
  have hu52 := Try.underlying46
  unfold table_In.f at h
  obtain ⟨t, ht, h1⟩ := Option.bind_eq_some_iff.mp h
  obtain rfl := Option.some.inj h1
  have HT := Lib.hid ht
  have HR0 := Lib.hid hr0_0
  have HC0 := Lib.hid hc0_0
  clear h h1 ht hr0_0 hc0_0
  have HB := Lib.hid (Below.refl w.heap.size w)
  go_enter Try.func64, Try.ntmps64
  go_wp2_with (first
    | ((with_reducible refine gate_dst (N := 2) rfl ?_); refine box_event ?hg (N := 2) ?hd (cs := #[.slice A0_0 l0_0.length c0_0, .int .i64 a0_1]) (t := 46) ?hr ?_; (case hd => rfl); (case hg => rfl); (case hr => first | (go_simp; done) | (go_simp; rfl)); intro gt hg w2 hbox hb; have n0_ := Lib.hid (below_step HB.out hb); have n1_ := Lib.hid hbox; clear HB; have HB := n0_; have BKT := n1_; clear n0_ n1_; clear hb hbox hg; have hcz0 : w2.cell? ⟨gt, 0, none⟩ = some (.slice A0_0 l0_0.length c0_0) := (blk_cell BKT.out 0).trans rfl; have hcz1 : w2.cell? ⟨gt, 1, none⟩ = some (.int .i64 a0_1) := (blk_cell BKT.out 1).trans rfl)
    | ((with_reducible refine gate_dst (N := 3) rfl ?_); refine box_event ?hg (N := 3) ?hd (cs := #[.int .i64 a1]) (t := 3) ?hr ?_; (case hd => rfl); (case hg => rfl); (case hr => first | (go_simp; done) | (go_simp; rfl)); intro gm hg w3 hbox hb; have n0_ := Lib.hid (below_step HB.out hb); have n1_ := Lib.hid hbox; have hcy0 := (blk_cell (blk_below BKT.out hb) 0).trans rfl; have hcy1 := (blk_cell (blk_below BKT.out hb) 1).trans rfl; clear HB hcz0 hcz1; have HB := n0_; have BKM := n1_; clear n0_ n1_; clear hb hbox hg)
    | (go_at_call 69; refine (table_Tasks.calls k A0_0 c0_0 l0_0 a0_1 t _ (Kd.C_below HR0.out HB.out) HC0.out HT.out).mono ?_; rintro e w4 ⟨v4, rfl, hv, hb⟩; have n0_ := Lib.hid (below_step HB.out hb); have n1_ := Lib.hid (blk_below BKM.out hb); have n2_ := Lib.hid (Kd.R_lower hv (below_size HB.out)); clear HB BKM hv hb; have HB := n0_; have BKM := n1_; have HV := n2_; clear n0_ n1_ n2_)
    | (go_at_call 92; refine (tiDelete_R gm a1 w4 HV.out BKM.out).mono ?_; rintro e w5 ⟨v5, rfl, hv, hgr, hbb⟩; have n0_ := Lib.hid (Below.grown HB.out hgr (below_size HB.out) hbb); have HV5 := Lib.hid hv; clear HB hv hgr hbb; have HB := n0_; clear n0_))
  go_ret
  exact ⟨_, rfl, HV5.out, HB.out⟩

/-! ### judge_With: function 38 -/
def judge_With.f (k : Nat) (l0_0 : List (S60)) (a0_1 : Int) (l1 : List (S31)) : Option (Int) := (judge_Fits.f k l0_0 a0_1).bind fun t177 => (if t177 = 0 then ((table_In.f k l0_0 a0_1 a0_1).bind fun t178 => ((judge_all.f k t178 l1).bind fun t181 => (some t181))) else (some t177))
theorem judge_With.mono : ∀ a0 a1 a2 k, LeO (judge_With.f k a0 a1 a2) (judge_With.f (k + 1) a0 a1 a2) := by
  intro a0 a1 a2 k
  unfold judge_With.f
  repeat' first
      | (with_reducible exact judge_Fits.mono _ _ _)
      | (with_reducible exact judge_all.mono _ _ _)
      | (with_reducible exact table_In.mono _ _ _ _)
      | (with_reducible exact LeO.refl _)
      | (with_reducible exact LeO.none _)
      | (with_reducible refine LeO.ite ?_ ?_)
      | (with_reducible refine LeO.bind ?_ (fun _ => ?_))
      | exact judge_Fits.mono _ _ _
      | exact judge_all.mono _ _ _
      | exact table_In.mono _ _ _ _
      | exact LeO.none _
      | refine LeO.ite ?_ ?_
      | refine LeO.bind ?_ (fun _ => ?_)
set_option maxHeartbeats 8000000 in
set_option maxRecDepth 100000 in
theorem judge_With.calls (k : Nat) (A0_0 : Option Addr) (c0_0 : Nat) (l0_0 : List (S60)) (a0_1 : Int) (A1 : Option Addr) (c1 : Nat) (l1 : List (S31)) (r : Int) (w : World) (hr0_0 : Kd.C k60 w A0_0 l0_0.length l0_0) (hc0_0 : l0_0.length ≤ c0_0) (hr1 : Kd.C k31 w A1 l1.length l1) (hc1 : l1.length ≤ c1) (h : judge_With.f k l0_0 a0_1 l1 = some r) :
    Calls Try.prog 38 #[.agg #[.slice A0_0 l0_0.length c0_0, .int .i64 a0_1], .slice A1 l1.length c1] w fun e w' => e = .returned (.int .i64 r) ∧ Below w.heap.size w w' := by
  have hu46 := Try.underlying46
  have HR0_0 := Aside0.mk hr0_0
  have HC0_0 := Aside0.mk hc0_0
  clear hr0_0 hc0_0
  have HR1 := Aside0.mk hr1
  have HC1 := Aside0.mk hc1
  clear hr1 hc1
  have HB := Aside0.mk (Below.refl w.heap.size w)
  have H : ((judge_Fits.f k l0_0 a0_1).bind fun t177 => (if t177 = 0 then ((table_In.f k l0_0 a0_1 a0_1).bind fun t178 => ((judge_all.f k t178 l1).bind fun t181 => (some t181))) else (some t177))) = some r := h
  clear h
  replace H := Option.bind_eq_some_iff.mp H
  obtain ⟨t177, A30, H⟩ := H
  replace H : (if t177 = 0 then ((table_In.f k l0_0 a0_1 a0_1).bind fun t178 => ((judge_all.f k t178 l1).bind fun t181 => (some t181))) else (some t177)) = some r := H
  have A3 := Aside0.mk A30
  clear A30
  by_cases c4 : t177 = 0
  · rw [if_pos c4] at H
    have c4b0 : (t177 == 0) = true := beq_iff_eq.mpr c4
    have c4b1 : (t177 != 0) = false := bne_eq_false_iff_eq.mpr c4
    clear c4
    replace H := Option.bind_eq_some_iff.mp H
    obtain ⟨t178, A50, H⟩ := H
    replace H : ((judge_all.f k t178 l1).bind fun t181 => (some t181)) = some r := H
    have A5 := Aside0.mk A50
    clear A50
    replace H := Option.bind_eq_some_iff.mp H
    obtain ⟨t181, A60, H⟩ := H
    replace H : (some t181) = some r := H
    have A6 := Aside0.mk A60
    clear A60
    obtain rfl := Option.some.inj H
    go_enter Try.func38, Try.ntmps38
    go_wp2_with (first | ((with_reducible refine gate_dst (N := 2) rfl ?_); refine box_event ?hg (N := 2) ?hd (cs := #[.slice A0_0 l0_0.length c0_0, .int .i64 a0_1]) (t := 46) ?hr ?_; (case hd => rfl); (case hg => rfl); (case hr => first | (go_simp; done) | (go_simp; rfl)); intro gb176 hg w7 hbox hb; have n0_ := Aside0.mk (below_step bl_ hb); have n1_ := Aside0.mk (hbox); have n2_ := Aside0.mk ((by rw [hg]; exact (below_size bl_) : w.heap.size ≤ gb176)); have n3_ := Aside0.mk ((by rw [hg]; exact (below_size bl_) : w.heap.size ≤ gb176)); clear HB; have HB := n0_; have BK176 := n1_; have GW176 := n2_; have GE176 := n3_; clear n0_ n1_ n2_ n3_; clear hb hbox hg; have hcz8_0 : w7.cell? ⟨gb176, 0, none⟩ = some (.slice A0_0 l0_0.length c0_0) := (blk_cell BK176.out 0).trans rfl; have hcz8_1 : w7.cell? ⟨gb176, 1, none⟩ = some (.int .i64 a0_1) := (blk_cell BK176.out 1).trans rfl; have hfz8_0 := blk_frozen BK176.out 0; have hfz8_1 := blk_frozen BK176.out 1) | ((with_reducible refine gate_callee (f := 26) rfl ?_); refine goesL_ (some 7) rfl rfl Try.func26 (by kernel_rfl) rfl #[.agg #[.slice A0_0 l0_0.length c0_0, .int .i64 a0_1]] rfl (by (try simp only [List.map_toArray, List.map_cons, List.map_nil]); first | done | rfl | (simp only [List.length_drop, List.length_take]; rfl)) ?_; (with_reducible refine (judge_Fits.calls k _ _ l0_0 a0_1 t177 _ ?side1 ?side2 A3.out).mono ?_); (case side1 => repeat (first | exact (Kd.C_below HR0_0.out HB.out) | (with_reducible refine Kd.C_alloc ?_ _) | (with_reducible refine Kd.C_drewN ?_ _) | (with_reducible refine Kd.C_drew ?_))); (case side2 => exact HC0_0.out); rintro e w9 ⟨rfl, hb⟩; refine ⟨_, rfl, ?_⟩; have n0_ := Aside0.mk (blk_below (g := gb176) (o := .cells #[.slice A0_0 l0_0.length c0_0, .int .i64 a0_1] 46 (0, 0)) bk_ hb); have n1_ := Aside0.mk (below_step bl_ hb); clear BK176; clear HB; have BK176 := n0_; have HB := n1_; clear n0_ n1_; (try clear hb); (try clear hb2); (try clear hk); (try clear hi); have hcz10_0 : w9.cell? ⟨gb176, 0, none⟩ = some (.slice A0_0 l0_0.length c0_0) := (blk_cell BK176.out 0).trans rfl; have hcz10_1 : w9.cell? ⟨gb176, 1, none⟩ = some (.int .i64 a0_1) := (blk_cell BK176.out 1).trans rfl; have hfz10_0 := blk_frozen BK176.out 0; have hfz10_1 := blk_frozen BK176.out 1) | ((with_reducible refine gate_callee (f := 64) rfl ?_); refine goesL_ (some 14) rfl rfl Try.func64 (by kernel_rfl) rfl #[.agg #[.slice A0_0 l0_0.length c0_0, .int .i64 a0_1], .int .i64 a0_1] rfl (by (try simp only [List.map_toArray, List.map_cons, List.map_nil]); first | done | rfl | (simp only [List.length_drop, List.length_take]; rfl)) ?_; (with_reducible refine (table_In.calls k _ _ l0_0 a0_1 a0_1 t178 _ ?side1 ?side2 A5.out).mono ?_); (case side1 => repeat (first | exact (Kd.C_below HR0_0.out HB.out) | (with_reducible refine Kd.C_alloc ?_ _) | (with_reducible refine Kd.C_drewN ?_ _) | (with_reducible refine Kd.C_drew ?_))); (case side2 => exact HC0_0.out); rintro e w11 ⟨v179, rfl, ho0, hb⟩; refine ⟨_, rfl, ?_⟩; have n0_ := Aside0.mk (Kd.R_lower ho0 (below_size bl_)); have n1_ := Aside0.mk (blk_below (g := gb176) (o := .cells #[.slice A0_0 l0_0.length c0_0, .int .i64 a0_1] 46 (0, 0)) bk_ hb); have n2_ := Aside0.mk (below_step bl_ hb); clear BK176; clear HB; have HO180 := n0_; have BK176 := n1_; have HB := n2_; clear n0_ n1_ n2_; (try clear hb); (try clear hb2); (try clear hk); (try clear hi); (try clear ho0); obtain ⟨Ao12, co12, eo12⟩ := Kd.R_slice HO180.out; subst eo12) | ((with_reducible refine gate_callee (f := 63) rfl ?_); refine goesL_ (some 16) rfl rfl Try.func63 (by kernel_rfl) rfl #[.slice Ao12 t178.length co12, .slice A1 l1.length c1] rfl (by (try simp only [List.map_toArray, List.map_cons, List.map_nil]); first | done | rfl | (simp only [List.length_drop, List.length_take]; rfl)) ?_; (with_reducible refine (judge_all.calls k _ _ t178 _ _ l1 t181 _ ?side1 ?side2 ?side3 ?side4 A6.out).mono ?_); (case side1 => repeat (first | exact (Kd.R_reads' HO180.out).2.2 | (with_reducible refine Kd.C_alloc ?_ _) | (with_reducible refine Kd.C_drewN ?_ _) | (with_reducible refine Kd.C_drew ?_))); (case side2 => exact (Kd.R_reads' HO180.out).2.1); (case side3 => repeat (first | exact (Kd.C_below HR1.out HB.out) | (with_reducible refine Kd.C_alloc ?_ _) | (with_reducible refine Kd.C_drewN ?_ _) | (with_reducible refine Kd.C_drew ?_))); (case side4 => exact HC1.out); rintro e w13 ⟨rfl, hb⟩; refine ⟨_, rfl, ?_⟩; have n0_ := Aside0.mk (Kd.R_below (by (with_reducible repeat (first | apply Kd.R_alloc | apply Kd.R_drewN | apply Kd.R_drew)); exact HO180.out) hb); have n1_ := Aside0.mk (blk_below (g := gb176) (o := .cells #[.slice A0_0 l0_0.length c0_0, .int .i64 a0_1] 46 (0, 0)) bk_ hb); have n2_ := Aside0.mk (below_step bl_ hb); clear HO180; clear BK176; clear HB; have HO180 := n0_; have BK176 := n1_; have HB := n2_; clear n0_ n1_ n2_; (try clear hb); (try clear hb2); (try clear hk); (try clear hi)))
    go_ret
    exact ⟨by first | rfl | (simp [errW_none, errW_some] <;> rfl) | (simp [*, errW_none, errW_some] <;> rfl), bl_⟩
  · rw [if_neg c4] at H
    have c4b0 : (t177 == 0) = false := beq_eq_false_iff_ne.mpr c4
    have c4b1 : (t177 != 0) = true := bne_iff_ne.mpr c4
    obtain rfl := Option.some.inj H
    go_enter Try.func38, Try.ntmps38
    go_wp2_with (first | ((with_reducible refine gate_dst (N := 2) rfl ?_); refine box_event ?hg (N := 2) ?hd (cs := #[.slice A0_0 l0_0.length c0_0, .int .i64 a0_1]) (t := 46) ?hr ?_; (case hd => rfl); (case hg => rfl); (case hr => first | (go_simp; done) | (go_simp; rfl)); intro gb176 hg w14 hbox hb; have n0_ := Aside0.mk (below_step bl_ hb); have n1_ := Aside0.mk (hbox); have n2_ := Aside0.mk ((by rw [hg]; exact (below_size bl_) : w.heap.size ≤ gb176)); have n3_ := Aside0.mk ((by rw [hg]; exact (below_size bl_) : w.heap.size ≤ gb176)); clear HB; have HB := n0_; have BK176 := n1_; have GW176 := n2_; have GE176 := n3_; clear n0_ n1_ n2_ n3_; clear hb hbox hg; have hcz15_0 : w14.cell? ⟨gb176, 0, none⟩ = some (.slice A0_0 l0_0.length c0_0) := (blk_cell BK176.out 0).trans rfl; have hcz15_1 : w14.cell? ⟨gb176, 1, none⟩ = some (.int .i64 a0_1) := (blk_cell BK176.out 1).trans rfl; have hfz15_0 := blk_frozen BK176.out 0; have hfz15_1 := blk_frozen BK176.out 1) | ((with_reducible refine gate_callee (f := 26) rfl ?_); refine goesL_ (some 7) rfl rfl Try.func26 (by kernel_rfl) rfl #[.agg #[.slice A0_0 l0_0.length c0_0, .int .i64 a0_1]] rfl (by (try simp only [List.map_toArray, List.map_cons, List.map_nil]); first | done | rfl | (simp only [List.length_drop, List.length_take]; rfl)) ?_; (with_reducible refine (judge_Fits.calls k _ _ l0_0 a0_1 t177 _ ?side1 ?side2 A3.out).mono ?_); (case side1 => repeat (first | exact (Kd.C_below HR0_0.out HB.out) | (with_reducible refine Kd.C_alloc ?_ _) | (with_reducible refine Kd.C_drewN ?_ _) | (with_reducible refine Kd.C_drew ?_))); (case side2 => exact HC0_0.out); rintro e w16 ⟨rfl, hb⟩; refine ⟨_, rfl, ?_⟩; have n0_ := Aside0.mk (blk_below (g := gb176) (o := .cells #[.slice A0_0 l0_0.length c0_0, .int .i64 a0_1] 46 (0, 0)) bk_ hb); have n1_ := Aside0.mk (below_step bl_ hb); clear BK176; clear HB; have BK176 := n0_; have HB := n1_; clear n0_ n1_; (try clear hb); (try clear hb2); (try clear hk); (try clear hi)))
    go_ret
    exact ⟨by first | rfl | (simp [errW_none, errW_some] <;> rfl) | (simp [*, errW_none, errW_some] <;> rfl), bl_⟩

/-! ### judge_May: function 21 -/
def judge_May.j0 : Nat → Int → List (S60) → Int → Option ((List (S60)) × Int × Int)
  | 0, _, _, _ => none
  | k + 1, x9, x191000, x191001 => if x9 = 0 then (some (x191000, x191001, 0)) else (some (([] : List (S60)), 0, x9))
def judge_May.f (k : Nat) (l0_0 : List (S60)) (a0_1 : Int) (a1_0 : Int) (a1_1 : Int) (a1_2 : Int) (a1_3 : Int) (a1_4 : Int) (a1_5 : Int) (a1_6 : Bool) (a1_7 : Int) (a1_8 : Int) (a1_9 : Int) (l2 : List (S31)) : Option ((List (S60)) × Int × Int) := (table_Apply.f l0_0 a0_1 a1_0 a1_1 a1_2 a1_3 a1_4 a1_5 a1_6 a1_7 a1_8 a1_9).bind fun bt185 => (if bt185.2.2 = 0 then ((judge_With.f k bt185.1 bt185.2.1 l2).bind fun t191 => (judge_May.j0 k t191 bt185.1 bt185.2.1)) else (judge_May.j0 k bt185.2.2 bt185.1 bt185.2.1))
theorem judge_May.mono_l : ∀ k, (∀ y0 y1 y2, LeO (judge_May.j0 k y0 y1 y2) (judge_May.j0 (k + 1) y0 y1 y2))
  | 0 => fun _ _ _ r h => by simp [judge_May.j0] at h
  | k + 1 => by
    have ih0 := judge_May.mono_l k
    · intro y0 y1 y2
      unfold judge_May.j0
      repeat' first
      | (with_reducible exact ih0 _ _ _)
      | (with_reducible exact judge_With.mono _ _ _ _)
      | (with_reducible exact LeO.refl _)
      | (with_reducible exact LeO.none _)
      | (with_reducible refine LeO.ite ?_ ?_)
      | (with_reducible refine LeO.bind ?_ (fun _ => ?_))
      | exact ih0 _ _ _
      | exact judge_With.mono _ _ _ _
      | exact LeO.none _
      | refine LeO.ite ?_ ?_
      | refine LeO.bind ?_ (fun _ => ?_)
theorem judge_May.mono : ∀ a0 a1 a2 a3 a4 a5 a6 a7 a8 a9 a10 a11 a12 k, LeO (judge_May.f k a0 a1 a2 a3 a4 a5 a6 a7 a8 a9 a10 a11 a12) (judge_May.f (k + 1) a0 a1 a2 a3 a4 a5 a6 a7 a8 a9 a10 a11 a12) := by
  intro a0 a1 a2 a3 a4 a5 a6 a7 a8 a9 a10 a11 a12 k
  have ih0 := judge_May.mono_l k
  unfold judge_May.f
  repeat' first
      | (with_reducible exact ih0 _ _ _)
      | (with_reducible exact judge_With.mono _ _ _ _)
      | (with_reducible exact LeO.refl _)
      | (with_reducible exact LeO.none _)
      | (with_reducible refine LeO.ite ?_ ?_)
      | (with_reducible refine LeO.bind ?_ (fun _ => ?_))
      | exact ih0 _ _ _
      | exact judge_With.mono _ _ _ _
      | exact LeO.none _
      | refine LeO.ite ?_ ?_
      | refine LeO.bind ?_ (fun _ => ?_)
set_option maxHeartbeats 8000000 in
set_option maxRecDepth 100000 in
theorem judge_May.calls (k : Nat) (A0_0 : Option Addr) (c0_0 : Nat) (l0_0 : List (S60)) (a0_1 : Int) (a1_0 : Int) (a1_1 : Int) (a1_2 : Int) (a1_3 : Int) (a1_4 : Int) (a1_5 : Int) (a1_6 : Bool) (a1_7 : Int) (a1_8 : Int) (a1_9 : Int) (A2 : Option Addr) (c2 : Nat) (l2 : List (S31)) (r1 : List (S60)) (r2 : Int) (r3 : Int) (w : World) (hr0_0 : Kd.C k60 w A0_0 l0_0.length l0_0) (hc0_0 : l0_0.length ≤ c0_0) (hr2 : Kd.C k31 w A2 l2.length l2) (hc2 : l2.length ≤ c2) (h : judge_May.f k l0_0 a0_1 a1_0 a1_1 a1_2 a1_3 a1_4 a1_5 a1_6 a1_7 a1_8 a1_9 l2 = some (r1, r2, r3)) :
    Calls Try.prog 21 #[.agg #[.slice A0_0 l0_0.length c0_0, .int .i64 a0_1], .agg #[.int .i64 a1_0, .int .i64 a1_1, .int .i64 a1_2, .int .i64 a1_3, .int .i64 a1_4, .int .i64 a1_5, .bool a1_6, .int .i64 a1_7, .int .i64 a1_8, .int .i64 a1_9], .slice A2 l2.length c2] w fun e w' => ∃ v0_ : Value, e = .returned (.tuple #[.agg #[v0_, .int .i64 r2], .int .i64 r3]) ∧ Kd.R k60 60 w' w.heap.size (fun _ => True) v0_ r1 ∧ Below w.heap.size w w' := by
  have hu46 := Try.underlying46
  have hu50 := Try.underlying50
  have HR0_0 := Aside0.mk hr0_0
  have HC0_0 := Aside0.mk hc0_0
  clear hr0_0 hc0_0
  have HR2 := Aside0.mk hr2
  have HC2 := Aside0.mk hc2
  clear hr2 hc2
  have HB := Aside0.mk (Below.refl w.heap.size w)
  have H : ((table_Apply.f l0_0 a0_1 a1_0 a1_1 a1_2 a1_3 a1_4 a1_5 a1_6 a1_7 a1_8 a1_9).bind fun bt185 => (if bt185.2.2 = 0 then ((judge_With.f k bt185.1 bt185.2.1 l2).bind fun t191 => (judge_May.j0 k t191 bt185.1 bt185.2.1)) else (judge_May.j0 k bt185.2.2 bt185.1 bt185.2.1))) = some (r1, r2, r3) := h
  clear h
  replace H := Option.bind_eq_some_iff.mp H
  obtain ⟨⟨t185, t188, t189⟩, A40, H⟩ := H
  replace H : (if t189 = 0 then ((judge_With.f k t185 t188 l2).bind fun t191 => (judge_May.j0 k t191 t185 t188)) else (judge_May.j0 k t189 t185 t188)) = some (r1, r2, r3) := H
  have A4 := Aside0.mk A40
  clear A40
  have HC5 := Aside0.mk H
  clear H
  go_enter Try.func21, Try.ntmps21
  go_upto_if 17 with (first | ((with_reducible refine gate_dst (N := 3) rfl ?_); refine box_event ?hg (N := 3) ?hd (cs := #[.slice A0_0 l0_0.length c0_0, .int .i64 a0_1]) (t := 46) ?hr ?_; (case hd => rfl); (case hg => rfl); (case hr => first | (go_simp; done) | (go_simp; rfl)); intro gb182 hg w6 hbox hb; have n0_ := Aside0.mk (below_step bl_ hb); have n1_ := Aside0.mk (hbox); have n2_ := Aside0.mk ((by rw [hg]; exact (below_size bl_) : w.heap.size ≤ gb182)); have n3_ := Aside0.mk ((by rw [hg]; exact (below_size bl_) : w.heap.size ≤ gb182)); clear HB; have HB := n0_; have BK182 := n1_; have GW182 := n2_; have GE182 := n3_; clear n0_ n1_ n2_ n3_; clear hb hbox hg) | ((with_reducible refine gate_dst (N := 4) rfl ?_); refine box_event ?hg (N := 4) ?hd (cs := #[.int .i64 a1_0, .int .i64 a1_1, .int .i64 a1_2, .int .i64 a1_3, .int .i64 a1_4, .int .i64 a1_5, .bool a1_6, .int .i64 a1_7, .int .i64 a1_8, .int .i64 a1_9]) (t := 50) ?hr ?_; (case hd => rfl); (case hg => rfl); (case hr => first | (go_simp; done) | (go_simp; rfl)); intro gb183 hg w7 hbox hb; have n0_ := Aside0.mk (blk_below (g := gb182) (o := .cells #[.slice A0_0 l0_0.length c0_0, .int .i64 a0_1] 46 (0, 0)) bk_ hb); have n1_ := Aside0.mk (below_step bl_ hb); have n2_ := Aside0.mk (hbox); have n3_ := Aside0.mk ((by rw [hg]; exact (below_size bl_) : w.heap.size ≤ gb183)); have n4_ := Aside0.mk ((by rw [hg]; exact (below_size bl_) : w.heap.size ≤ gb183)); have n5_ := Aside0.mk ((by rw [hg]; exact Nat.ne_of_lt (blk_lt (g := gb182) (o := .cells #[.slice A0_0 l0_0.length c0_0, .int .i64 a0_1] 46 (0, 0)) bk_) : gb182 ≠ gb183)); have n6_ := Aside0.mk ((by rw [hg]; exact Nat.ne_of_gt (blk_lt (g := gb182) (o := .cells #[.slice A0_0 l0_0.length c0_0, .int .i64 a0_1] 46 (0, 0)) bk_) : gb183 ≠ gb182)); clear BK182; clear HB; have BK182 := n0_; have HB := n1_; have BK183 := n2_; have GW183 := n3_; have GE183 := n4_; have NB182_183 := n5_; have NB183_182 := n6_; clear n0_ n1_ n2_ n3_ n4_ n5_ n6_; clear hb hbox hg) | ((with_reducible refine gate_dst (N := 6) rfl ?_); refine box_event ?hg (N := 6) ?hd (cs := #[.slice none 0 0, .int .i64 0]) (t := 46) ?hr ?_; (case hd => rfl); (case hg => rfl); (case hr => first | (go_simp; done) | (go_simp; rfl)); intro gb184 hg w8 hbox hb; have n0_ := Aside0.mk (blk_below (g := gb182) (o := .cells #[.slice A0_0 l0_0.length c0_0, .int .i64 a0_1] 46 (0, 0)) bk_ hb); have n1_ := Aside0.mk (blk_below (g := gb183) (o := .cells #[.int .i64 a1_0, .int .i64 a1_1, .int .i64 a1_2, .int .i64 a1_3, .int .i64 a1_4, .int .i64 a1_5, .bool a1_6, .int .i64 a1_7, .int .i64 a1_8, .int .i64 a1_9] 50 (0, 0)) bk_ hb); have n2_ := Aside0.mk (below_step bl_ hb); have n3_ := Aside0.mk (hbox); have n4_ := Aside0.mk ((by rw [hg]; exact (below_size bl_) : w.heap.size ≤ gb184)); have n5_ := Aside0.mk ((by rw [hg]; exact (below_size bl_) : w.heap.size ≤ gb184)); have n6_ := Aside0.mk ((by rw [hg]; exact Nat.ne_of_lt (blk_lt (g := gb182) (o := .cells #[.slice A0_0 l0_0.length c0_0, .int .i64 a0_1] 46 (0, 0)) bk_) : gb182 ≠ gb184)); have n7_ := Aside0.mk ((by rw [hg]; exact Nat.ne_of_gt (blk_lt (g := gb182) (o := .cells #[.slice A0_0 l0_0.length c0_0, .int .i64 a0_1] 46 (0, 0)) bk_) : gb184 ≠ gb182)); have n8_ := Aside0.mk ((by rw [hg]; exact Nat.ne_of_lt (blk_lt (g := gb183) (o := .cells #[.int .i64 a1_0, .int .i64 a1_1, .int .i64 a1_2, .int .i64 a1_3, .int .i64 a1_4, .int .i64 a1_5, .bool a1_6, .int .i64 a1_7, .int .i64 a1_8, .int .i64 a1_9] 50 (0, 0)) bk_) : gb183 ≠ gb184)); have n9_ := Aside0.mk ((by rw [hg]; exact Nat.ne_of_gt (blk_lt (g := gb183) (o := .cells #[.int .i64 a1_0, .int .i64 a1_1, .int .i64 a1_2, .int .i64 a1_3, .int .i64 a1_4, .int .i64 a1_5, .bool a1_6, .int .i64 a1_7, .int .i64 a1_8, .int .i64 a1_9] 50 (0, 0)) bk_) : gb184 ≠ gb183)); clear BK182; clear BK183; clear HB; have BK182 := n0_; have BK183 := n1_; have HB := n2_; have BK184 := n3_; have GW184 := n4_; have GE184 := n5_; have NB182_184 := n6_; have NB184_182 := n7_; have NB183_184 := n8_; have NB184_183 := n9_; clear n0_ n1_ n2_ n3_ n4_ n5_ n6_ n7_ n8_ n9_; clear hb hbox hg; have hnb9 := NB182_183.out; have hnc9 := NB183_182.out; have hnb10 := NB182_184.out; have hnc10 := NB184_182.out; have hcz11_0 : w8.cell? ⟨gb182, 0, none⟩ = some (.slice A0_0 l0_0.length c0_0) := (blk_cell BK182.out 0).trans rfl; have hcz11_1 : w8.cell? ⟨gb182, 1, none⟩ = some (.int .i64 a0_1) := (blk_cell BK182.out 1).trans rfl; have hfz11_0 := blk_frozen BK182.out 0; have hfz11_1 := blk_frozen BK182.out 1; have hnb12 := NB183_184.out; have hnc12 := NB184_183.out; have hcz13_0 : w8.cell? ⟨gb183, 0, none⟩ = some (.int .i64 a1_0) := (blk_cell BK183.out 0).trans rfl; have hcz13_1 : w8.cell? ⟨gb183, 1, none⟩ = some (.int .i64 a1_1) := (blk_cell BK183.out 1).trans rfl; have hcz13_2 : w8.cell? ⟨gb183, 2, none⟩ = some (.int .i64 a1_2) := (blk_cell BK183.out 2).trans rfl; have hcz13_3 : w8.cell? ⟨gb183, 3, none⟩ = some (.int .i64 a1_3) := (blk_cell BK183.out 3).trans rfl; have hcz13_4 : w8.cell? ⟨gb183, 4, none⟩ = some (.int .i64 a1_4) := (blk_cell BK183.out 4).trans rfl; have hcz13_5 : w8.cell? ⟨gb183, 5, none⟩ = some (.int .i64 a1_5) := (blk_cell BK183.out 5).trans rfl; have hcz13_6 : w8.cell? ⟨gb183, 6, none⟩ = some (.bool a1_6) := (blk_cell BK183.out 6).trans rfl; have hcz13_7 : w8.cell? ⟨gb183, 7, none⟩ = some (.int .i64 a1_7) := (blk_cell BK183.out 7).trans rfl; have hcz13_8 : w8.cell? ⟨gb183, 8, none⟩ = some (.int .i64 a1_8) := (blk_cell BK183.out 8).trans rfl; have hcz13_9 : w8.cell? ⟨gb183, 9, none⟩ = some (.int .i64 a1_9) := (blk_cell BK183.out 9).trans rfl; have hfz13_0 := blk_frozen BK183.out 0; have hfz13_1 := blk_frozen BK183.out 1; have hfz13_2 := blk_frozen BK183.out 2; have hfz13_3 := blk_frozen BK183.out 3; have hfz13_4 := blk_frozen BK183.out 4; have hfz13_5 := blk_frozen BK183.out 5; have hfz13_6 := blk_frozen BK183.out 6; have hfz13_7 := blk_frozen BK183.out 7; have hfz13_8 := blk_frozen BK183.out 8; have hfz13_9 := blk_frozen BK183.out 9) | ((with_reducible refine gate_callee (f := 37) rfl ?_); refine goesL_ (some 13) rfl rfl Try.func37 (by kernel_rfl) rfl #[.agg #[.slice A0_0 l0_0.length c0_0, .int .i64 a0_1], .agg #[.int .i64 a1_0, .int .i64 a1_1, .int .i64 a1_2, .int .i64 a1_3, .int .i64 a1_4, .int .i64 a1_5, .bool a1_6, .int .i64 a1_7, .int .i64 a1_8, .int .i64 a1_9]] rfl (by (try simp only [List.map_toArray, List.map_cons, List.map_nil]); first | done | rfl | (simp only [List.length_drop, List.length_take]; rfl)) ?_; (with_reducible refine (table_Apply.calls _ _ l0_0 a0_1 a1_0 a1_1 a1_2 a1_3 a1_4 a1_5 a1_6 a1_7 a1_8 a1_9 t185 t188 t189 _ ?side1 ?side2 A4.out).mono ?_); (case side1 => repeat (first | exact (Kd.C_below HR0_0.out HB.out) | (with_reducible refine Kd.C_alloc ?_ _) | (with_reducible refine Kd.C_drewN ?_ _) | (with_reducible refine Kd.C_drew ?_))); (case side2 => exact HC0_0.out); rintro e w14 ⟨v186, rfl, ho0, hb⟩; refine ⟨_, rfl, ?_⟩; have n0_ := Aside0.mk (Kd.R_lower ho0 (below_size bl_)); have n1_ := Aside0.mk (blk_below (g := gb182) (o := .cells #[.slice A0_0 l0_0.length c0_0, .int .i64 a0_1] 46 (0, 0)) bk_ hb); have n2_ := Aside0.mk (blk_below (g := gb183) (o := .cells #[.int .i64 a1_0, .int .i64 a1_1, .int .i64 a1_2, .int .i64 a1_3, .int .i64 a1_4, .int .i64 a1_5, .bool a1_6, .int .i64 a1_7, .int .i64 a1_8, .int .i64 a1_9] 50 (0, 0)) bk_ hb); have n3_ := Aside0.mk (blk_below (g := gb184) (o := .cells #[.slice none 0 0, .int .i64 0] 46 (0, 0)) bk_ hb); have n4_ := Aside0.mk (below_step bl_ hb); clear BK182; clear BK183; clear BK184; clear HB; have HO187 := n0_; have BK182 := n1_; have BK183 := n2_; have BK184 := n3_; have HB := n4_; clear n0_ n1_ n2_ n3_ n4_; (try clear hb); (try clear hb2); (try clear hk); (try clear hi); (try clear ho0)) | ((with_reducible refine gate_dst (N := 8) rfl ?_); refine box_event ?hg (N := 8) ?hd (cs := #[.slice none 0 0, .int .i64 0]) (t := 46) ?hr ?_; (case hd => rfl); (case hg => rfl); (case hr => first | (go_simp; done) | (go_simp; rfl)); intro gb190 hg w15 hbox hb; have n0_ := Aside0.mk (Kd.R_below (by (with_reducible repeat (first | apply Kd.R_alloc | apply Kd.R_drewN | apply Kd.R_drew)); exact HO187.out) hb); have n1_ := Aside0.mk (blk_below (g := gb182) (o := .cells #[.slice A0_0 l0_0.length c0_0, .int .i64 a0_1] 46 (0, 0)) bk_ hb); have n2_ := Aside0.mk (blk_below (g := gb183) (o := .cells #[.int .i64 a1_0, .int .i64 a1_1, .int .i64 a1_2, .int .i64 a1_3, .int .i64 a1_4, .int .i64 a1_5, .bool a1_6, .int .i64 a1_7, .int .i64 a1_8, .int .i64 a1_9] 50 (0, 0)) bk_ hb); have n3_ := Aside0.mk (blk_below (g := gb184) (o := .cells #[.slice none 0 0, .int .i64 0] 46 (0, 0)) bk_ hb); have n4_ := Aside0.mk (below_step bl_ hb); have n5_ := Aside0.mk (hbox); have n6_ := Aside0.mk ((by rw [hg]; exact (below_size bl_) : w.heap.size ≤ gb190)); have n7_ := Aside0.mk ((by rw [hg]; exact (below_size bl_) : w.heap.size ≤ gb190)); have n8_ := Aside0.mk ((by rw [hg]; exact Nat.ne_of_lt (blk_lt (g := gb182) (o := .cells #[.slice A0_0 l0_0.length c0_0, .int .i64 a0_1] 46 (0, 0)) bk_) : gb182 ≠ gb190)); have n9_ := Aside0.mk ((by rw [hg]; exact Nat.ne_of_gt (blk_lt (g := gb182) (o := .cells #[.slice A0_0 l0_0.length c0_0, .int .i64 a0_1] 46 (0, 0)) bk_) : gb190 ≠ gb182)); have n10_ := Aside0.mk ((by rw [hg]; exact Nat.ne_of_lt (blk_lt (g := gb183) (o := .cells #[.int .i64 a1_0, .int .i64 a1_1, .int .i64 a1_2, .int .i64 a1_3, .int .i64 a1_4, .int .i64 a1_5, .bool a1_6, .int .i64 a1_7, .int .i64 a1_8, .int .i64 a1_9] 50 (0, 0)) bk_) : gb183 ≠ gb190)); have n11_ := Aside0.mk ((by rw [hg]; exact Nat.ne_of_gt (blk_lt (g := gb183) (o := .cells #[.int .i64 a1_0, .int .i64 a1_1, .int .i64 a1_2, .int .i64 a1_3, .int .i64 a1_4, .int .i64 a1_5, .bool a1_6, .int .i64 a1_7, .int .i64 a1_8, .int .i64 a1_9] 50 (0, 0)) bk_) : gb190 ≠ gb183)); have n12_ := Aside0.mk ((by rw [hg]; exact Nat.ne_of_lt (blk_lt (g := gb184) (o := .cells #[.slice none 0 0, .int .i64 0] 46 (0, 0)) bk_) : gb184 ≠ gb190)); have n13_ := Aside0.mk ((by rw [hg]; exact Nat.ne_of_gt (blk_lt (g := gb184) (o := .cells #[.slice none 0 0, .int .i64 0] 46 (0, 0)) bk_) : gb190 ≠ gb184)); clear HO187; clear BK182; clear BK183; clear BK184; clear HB; have HO187 := n0_; have BK182 := n1_; have BK183 := n2_; have BK184 := n3_; have HB := n4_; have BK190 := n5_; have GW190 := n6_; have GE190 := n7_; have NB182_190 := n8_; have NB190_182 := n9_; have NB183_190 := n10_; have NB190_183 := n11_; have NB184_190 := n12_; have NB190_184 := n13_; clear n0_ n1_ n2_ n3_ n4_ n5_ n6_ n7_ n8_ n9_ n10_ n11_ n12_ n13_; clear hb hbox hg; obtain ⟨Ao16, co16, eo16⟩ := Kd.R_slice HO187.out; subst eo16; have hnb17 := NB190_182.out; have hnc17 := NB182_190.out; have hnb18 := NB190_183.out; have hnc18 := NB183_190.out; have hnb19 := NB190_184.out; have hnc19 := NB184_190.out; have hcz20_0 : w15.cell? ⟨gb190, 0, none⟩ = some (.slice none 0 0) := (blk_cell BK190.out 0).trans rfl; have hcz20_1 : w15.cell? ⟨gb190, 1, none⟩ = some (.int .i64 0) := (blk_cell BK190.out 1).trans rfl; have hfz20_0 := blk_frozen BK190.out 0; have hfz20_1 := blk_frozen BK190.out 1))
  (try simp only [Act.put, List.setIfInBounds_toArray, List.set_cons_zero, List.set_cons_succ])
  go_cut [9] (fun v9 wc => ∃ (kq : Nat) (x9_4 : Int), v9 = .int .i64 x9_4 ∧ Aside0 (judge_May.j0 kq x9_4 t185 t188 = some (r1, r2, r3)) ∧ Aside0 (kq ≤ k) ∧ Aside0 (Kd.R k60 60 wc w.heap.size (fun _ => True) (.slice Ao16 t185.length co16) t185) ∧ Aside0 (wc.heap[gb182]? = some (.cells #[(.slice A0_0 l0_0.length c0_0), .int .i64 a0_1] 46 (0, 0))) ∧ Aside0 (wc.heap[gb183]? = some (.cells #[.int .i64 a1_0, .int .i64 a1_1, .int .i64 a1_2, .int .i64 a1_3, .int .i64 a1_4, .int .i64 a1_5, .bool a1_6, .int .i64 a1_7, .int .i64 a1_8, .int .i64 a1_9] 50 (0, 0))) ∧ Aside0 (wc.heap[gb184]? = some (.cells #[(.slice none 0 0), .int .i64 0] 46 (0, 0))) ∧ Aside0 (wc.heap[gb190]? = some (.cells #[(.slice Ao16 t185.length co16), .int .i64 t188] 46 (0, 0))) ∧ Aside0 (Below w.heap.size w wc))
  case first =>
    have H := HC5.out
    clear HC5
    by_cases c21 : t189 = 0
    · rw [if_pos c21] at H
      have c21b0 : (t189 == 0) = true := beq_iff_eq.mpr c21
      have c21b1 : (t189 != 0) = false := bne_eq_false_iff_eq.mpr c21
      clear c21
      (first | rw [c21b0] | (simp only [i64_w, i32_w]; rw [c21b0]) | skip)
      replace H := Option.bind_eq_some_iff.mp H
      obtain ⟨t191, A220, H⟩ := H
      replace H : (judge_May.j0 k t191 t185 t188) = some (r1, r2, r3) := H
      have A22 := Aside0.mk A220
      clear A220
      have H' := Aside0.mk H
      clear H
      have hnb23 := NB190_182.out
      have hnc23 := NB182_190.out
      have hnb24 := NB190_183.out
      have hnc24 := NB183_190.out
      have hnb25 := NB190_184.out
      have hnc25 := NB184_190.out
      have hcz26_0 : w15.cell? ⟨gb190, 0, none⟩ = some (.slice none 0 0) := (blk_cell BK190.out 0).trans rfl
      have hcz26_1 : w15.cell? ⟨gb190, 1, none⟩ = some (.int .i64 0) := (blk_cell BK190.out 1).trans rfl
      have hfz26_0 := blk_frozen BK190.out 0
      have hfz26_1 := blk_frozen BK190.out 1
      go_wp2_with (first | ((with_reducible refine gate_callee (f := 38) rfl ?_); refine goesL_ (some 20) rfl rfl Try.func38 (by kernel_rfl) rfl #[.agg #[.slice Ao16 t185.length co16, .int .i64 t188], .slice A2 l2.length c2] rfl (by (try simp only [List.map_toArray, List.map_cons, List.map_nil]); first | done | rfl | (simp only [List.length_drop, List.length_take]; rfl)) ?_; (with_reducible refine (judge_With.calls k _ _ t185 t188 _ _ l2 t191 _ ?side1 ?side2 ?side3 ?side4 A22.out).mono ?_); (case side1 => refine (Kd.R_reads' (e := 60) (base := w.heap.size) (ok := fun k_ => True) (n := t185.length) (c := co16) ?_).2.2; exact (by (with_reducible repeat (first | apply Kd.R_alloc | apply Kd.R_drewN | apply Kd.R_drew)); exact (Kd.R_mono (Kd.R_far (p := ⟨gb190, 1, none⟩) (Kd.R_far (p := ⟨gb190, 0, none⟩) (Kd.R_types HO187.out BK190.out (by decide)) (fun _ hk => hk.2) (.slice Ao16 t185.length co16)) (fun _ hk => hk.2) (.int .i64 t188)) (fun _ h_ => h_.1)))); (case side2 => exact (Kd.R_reads' HO187.out).2.1); (case side3 => exact Kd.C_below HR2.out bl_); (case side4 => exact HC2.out); rintro e w27 ⟨rfl, hb⟩; refine ⟨_, rfl, ?_⟩; have n0_ := Aside0.mk (Kd.R_below (by (with_reducible repeat (first | apply Kd.R_alloc | apply Kd.R_drewN | apply Kd.R_drew)); exact (Kd.R_mono (Kd.R_far (p := ⟨gb190, 1, none⟩) (Kd.R_far (p := ⟨gb190, 0, none⟩) (Kd.R_types HO187.out BK190.out (by decide)) (fun _ hk => hk.2) (.slice Ao16 t185.length co16)) (fun _ hk => hk.2) (.int .i64 t188)) (fun _ h_ => h_.1))) hb); have n1_ := Aside0.mk (blk_below (g := gb182) (o := .cells #[.slice A0_0 l0_0.length c0_0, .int .i64 a0_1] 46 (0, 0)) (by (with_reducible repeat (first | refine blk_drewN ?_ _ | refine blk_drew ?_ | refine blk_alloc ?_ _)); refine blk_far ?_ NB182_190.out _; (with_reducible repeat (first | refine blk_drewN ?_ _ | refine blk_drew ?_ | refine blk_alloc ?_ _)); refine blk_far ?_ NB182_190.out _; (with_reducible repeat (first | refine blk_drewN ?_ _ | refine blk_drew ?_ | refine blk_alloc ?_ _)); exact BK182.out) hb); have n2_ := Aside0.mk (blk_below (g := gb183) (o := .cells #[.int .i64 a1_0, .int .i64 a1_1, .int .i64 a1_2, .int .i64 a1_3, .int .i64 a1_4, .int .i64 a1_5, .bool a1_6, .int .i64 a1_7, .int .i64 a1_8, .int .i64 a1_9] 50 (0, 0)) (by (with_reducible repeat (first | refine blk_drewN ?_ _ | refine blk_drew ?_ | refine blk_alloc ?_ _)); refine blk_far ?_ NB183_190.out _; (with_reducible repeat (first | refine blk_drewN ?_ _ | refine blk_drew ?_ | refine blk_alloc ?_ _)); refine blk_far ?_ NB183_190.out _; (with_reducible repeat (first | refine blk_drewN ?_ _ | refine blk_drew ?_ | refine blk_alloc ?_ _)); exact BK183.out) hb); have n3_ := Aside0.mk (blk_below (g := gb184) (o := .cells #[.slice none 0 0, .int .i64 0] 46 (0, 0)) (by (with_reducible repeat (first | refine blk_drewN ?_ _ | refine blk_drew ?_ | refine blk_alloc ?_ _)); refine blk_far ?_ NB184_190.out _; (with_reducible repeat (first | refine blk_drewN ?_ _ | refine blk_drew ?_ | refine blk_alloc ?_ _)); refine blk_far ?_ NB184_190.out _; (with_reducible repeat (first | refine blk_drewN ?_ _ | refine blk_drew ?_ | refine blk_alloc ?_ _)); exact BK184.out) hb); have n4_ := Aside0.mk (blk_below (g := gb190) (o := .cells #[.slice Ao16 t185.length co16, .int .i64 t188] 46 (0, 0)) (by (with_reducible repeat (first | refine blk_drewN ?_ _ | refine blk_drew ?_ | refine blk_alloc ?_ _)); refine blk_put (cs := #[.slice Ao16 t185.length co16, .int .i64 0]) ?_ 1 _ rfl; (with_reducible repeat (first | refine blk_drewN ?_ _ | refine blk_drew ?_ | refine blk_alloc ?_ _)); refine blk_put (cs := #[.slice none 0 0, .int .i64 0]) ?_ 0 _ rfl; (with_reducible repeat (first | refine blk_drewN ?_ _ | refine blk_drew ?_ | refine blk_alloc ?_ _)); exact BK190.out) hb); have n5_ := Aside0.mk (below_step bl_ hb); clear HO187; clear BK182; clear BK183; clear BK184; clear BK190; clear HB; have HO187 := n0_; have BK182 := n1_; have BK183 := n2_; have BK184 := n3_; have BK190 := n4_; have HB := n5_; clear n0_ n1_ n2_ n3_ n4_ n5_; (try clear hb); (try clear hb2); (try clear hk); (try clear hi)))
      go_meet
      case rel => exact ⟨_, (t191), (by first | rfl | (simp; done) | (simp [*]; done)), H', ⟨by first | omega | exact Nat.le_refl _⟩, ⟨by (with_reducible repeat (first | apply Kd.R_alloc | apply Kd.R_drewN | apply Kd.R_drew)); exact HO187.out⟩, ⟨bk_⟩, ⟨bk_⟩, ⟨bk_⟩, ⟨bk_⟩, ⟨bl_⟩⟩
    · rw [if_neg c21] at H
      have c21b0 : (t189 == 0) = false := beq_eq_false_iff_ne.mpr c21
      have c21b1 : (t189 != 0) = true := bne_iff_ne.mpr c21
      (first | rw [c21b0] | (simp only [i64_w, i32_w]; rw [c21b0]) | skip)
      have H' := Aside0.mk H
      clear H
      go_wp2
      go_meet
      case rel => exact ⟨_, (t189), (by first | rfl | (simp; done) | (simp [*]; done)), H', ⟨by first | omega | exact Nat.le_refl _⟩, ⟨by (with_reducible repeat (first | apply Kd.R_alloc | apply Kd.R_drewN | apply Kd.R_drew)); exact Kd.R_mono (Kd.R_far (p := ⟨gb190, 1, none⟩) (Kd.R_far (p := ⟨gb190, 0, none⟩) (Kd.R_types HO187.out BK190.out (by decide)) (fun _ hk => hk.2) (.slice Ao16 t185.length co16)) (fun _ hk => hk.2) (.int .i64 t188)) (fun _ hk => trivial)⟩, ⟨by (with_reducible repeat (first | refine blk_drewN ?_ _ | refine blk_drew ?_ | refine blk_alloc ?_ _)); refine blk_far ?_ NB182_190.out _; (with_reducible repeat (first | refine blk_drewN ?_ _ | refine blk_drew ?_ | refine blk_alloc ?_ _)); refine blk_far ?_ NB182_190.out _; (with_reducible repeat (first | refine blk_drewN ?_ _ | refine blk_drew ?_ | refine blk_alloc ?_ _)); exact BK182.out⟩, ⟨by (with_reducible repeat (first | refine blk_drewN ?_ _ | refine blk_drew ?_ | refine blk_alloc ?_ _)); refine blk_far ?_ NB183_190.out _; (with_reducible repeat (first | refine blk_drewN ?_ _ | refine blk_drew ?_ | refine blk_alloc ?_ _)); refine blk_far ?_ NB183_190.out _; (with_reducible repeat (first | refine blk_drewN ?_ _ | refine blk_drew ?_ | refine blk_alloc ?_ _)); exact BK183.out⟩, ⟨by (with_reducible repeat (first | refine blk_drewN ?_ _ | refine blk_drew ?_ | refine blk_alloc ?_ _)); refine blk_far ?_ NB184_190.out _; (with_reducible repeat (first | refine blk_drewN ?_ _ | refine blk_drew ?_ | refine blk_alloc ?_ _)); refine blk_far ?_ NB184_190.out _; (with_reducible repeat (first | refine blk_drewN ?_ _ | refine blk_drew ?_ | refine blk_alloc ?_ _)); exact BK184.out⟩, ⟨by (with_reducible repeat (first | refine blk_drewN ?_ _ | refine blk_drew ?_ | refine blk_alloc ?_ _)); refine blk_put (cs := #[.slice Ao16 t185.length co16, .int .i64 0]) ?_ 1 _ rfl; (with_reducible repeat (first | refine blk_drewN ?_ _ | refine blk_drew ?_ | refine blk_alloc ?_ _)); refine blk_put (cs := #[.slice none 0 0, .int .i64 0]) ?_ 0 _ rfl; (with_reducible repeat (first | refine blk_drewN ?_ _ | refine blk_drew ?_ | refine blk_alloc ?_ _)); exact BK190.out⟩, ⟨bl_⟩⟩
  case rest =>
    clear HC5
    try clear c1
    try clear c2
    try clear p2
    try clear c3
    try clear c9
    try clear c10
    try clear c12
    try clear c17
    try clear c18
    try clear c19
    try clear c21
    try clear c21b0
    try clear c21b1
    try clear c23
    try clear c24
    try clear c25
    try clear hcz11_0
    try clear hcz11_1
    try clear hcz13_0
    try clear hcz13_1
    try clear hcz13_2
    try clear hcz13_3
    try clear hcz13_4
    try clear hcz13_5
    try clear hcz13_6
    try clear hcz13_7
    try clear hcz13_8
    try clear hcz13_9
    try clear hcz20_0
    try clear hcz20_1
    try clear hcz26_0
    try clear hcz26_1
    try clear hfz11_0
    try clear hfz11_1
    try clear hfz13_0
    try clear hfz13_1
    try clear hfz13_2
    try clear hfz13_3
    try clear hfz13_4
    try clear hfz13_5
    try clear hfz13_6
    try clear hfz13_7
    try clear hfz13_8
    try clear hfz13_9
    try clear hfz20_0
    try clear hfz20_1
    try clear hfz26_0
    try clear hfz26_1
    obtain ⟨kq, x9_4, rfl, HA, HJ4, HO_191000, BK182, BK183, BK184, BK190, HB⟩ := hcut
    cases kq with
    | zero => exact absurd HA.out (by simp [judge_May.j0])
    | succ kj4 =>
      have H := HA.out
      clear HA
      simp only [judge_May.j0] at H
      by_cases c28 : x9_4 = 0
      · rw [if_pos c28] at H
        have c28b0 : (x9_4 == 0) = true := beq_iff_eq.mpr c28
        have c28b1 : (x9_4 != 0) = false := bne_eq_false_iff_eq.mpr c28
        clear c28
        simp only [Option.some.injEq, Prod.mk.injEq] at H
        obtain ⟨rfl, rfl, rfl⟩ := H
        have hnb29 := NB190_182.out
        have hnc29 := NB182_190.out
        have hnb30 := NB190_183.out
        have hnc30 := NB183_190.out
        have hnb31 := NB190_184.out
        have hnc31 := NB184_190.out
        have hcz32_0 : wc.cell? ⟨gb190, 0, none⟩ = some (.slice Ao16 t185.length co16) := (blk_cell BK190.out 0).trans rfl
        have hcz32_1 : wc.cell? ⟨gb190, 1, none⟩ = some (.int .i64 t188) := (blk_cell BK190.out 1).trans rfl
        have hfz32_0 := blk_frozen BK190.out 0
        have hfz32_1 := blk_frozen BK190.out 1
        have hnb33 := NB184_182.out
        have hnc33 := NB182_184.out
        have hnb34 := NB184_183.out
        have hnc34 := NB183_184.out
        have hcz35_0 : wc.cell? ⟨gb184, 0, none⟩ = some (.slice none 0 0) := (blk_cell BK184.out 0).trans rfl
        have hcz35_1 : wc.cell? ⟨gb184, 1, none⟩ = some (.int .i64 0) := (blk_cell BK184.out 1).trans rfl
        have hfz35_0 := blk_frozen BK184.out 0
        have hfz35_1 := blk_frozen BK184.out 1
        go_wp2
        refine bodyPost_ret (results_ct rfl _ _ gb184 46 #[.slice Ao16 t185.length co16, .int .i64 t188] (0, 0) _ rfl (by (with_reducible repeat (first | refine blk_drewN ?_ _ | refine blk_drew ?_ | refine blk_alloc ?_ _)); refine blk_put (cs := #[.slice Ao16 t185.length co16, .int .i64 0]) ?_ 1 _ rfl; (with_reducible repeat (first | refine blk_drewN ?_ _ | refine blk_drew ?_ | refine blk_alloc ?_ _)); refine blk_put (cs := #[.slice none 0 0, .int .i64 0]) ?_ 0 _ rfl; (with_reducible repeat (first | refine blk_drewN ?_ _ | refine blk_drew ?_ | refine blk_alloc ?_ _)); exact BK184.out) Try.underlying46 rfl (by kernel_rfl)) rfl ?_
        exact ⟨_, by first | rfl | (simp [errW_none, errW_some] <;> rfl) | (simp [*, errW_none, errW_some] <;> rfl), by (with_reducible repeat (first | apply Kd.R_alloc | apply Kd.R_drewN | apply Kd.R_drew)); exact Kd.R_mono (Kd.R_far (p := ⟨gb184, 1, none⟩) (Kd.R_far (p := ⟨gb184, 0, none⟩) (Kd.R_types HO_191000.out BK184.out (by decide)) (fun _ hk => hk.2) (.slice Ao16 t185.length co16)) (fun _ hk => hk.2) (.int .i64 t188)) (fun _ hk => trivial), bl_⟩
      · rw [if_neg c28] at H
        have c28b0 : (x9_4 == 0) = false := beq_eq_false_iff_ne.mpr c28
        have c28b1 : (x9_4 != 0) = true := bne_iff_ne.mpr c28
        simp only [Option.some.injEq, Prod.mk.injEq] at H
        obtain ⟨rfl, rfl, rfl⟩ := H
        have hnb36 := NB184_182.out
        have hnc36 := NB182_184.out
        have hnb37 := NB184_183.out
        have hnc37 := NB183_184.out
        have hnb38 := NB184_190.out
        have hnc38 := NB190_184.out
        have hcz39_0 : wc.cell? ⟨gb184, 0, none⟩ = some (.slice none 0 0) := (blk_cell BK184.out 0).trans rfl
        have hcz39_1 : wc.cell? ⟨gb184, 1, none⟩ = some (.int .i64 0) := (blk_cell BK184.out 1).trans rfl
        have hfz39_0 := blk_frozen BK184.out 0
        have hfz39_1 := blk_frozen BK184.out 1
        go_wp2
        refine bodyPost_ret (results_ct rfl _ _ gb184 46 #[.slice none 0 0, .int .i64 0] (0, 0) _ rfl (by (with_reducible repeat (first | refine blk_drewN ?_ _ | refine blk_drew ?_ | refine blk_alloc ?_ _)); refine blk_put (cs := #[.slice none 0 0, .int .i64 0]) ?_ 1 _ rfl; (with_reducible repeat (first | refine blk_drewN ?_ _ | refine blk_drew ?_ | refine blk_alloc ?_ _)); refine blk_put (cs := #[.slice none 0 0, .int .i64 0]) ?_ 0 _ rfl; (with_reducible repeat (first | refine blk_drewN ?_ _ | refine blk_drew ?_ | refine blk_alloc ?_ _)); exact BK184.out) Try.underlying46 rfl (by kernel_rfl)) rfl ?_
        exact ⟨_, by first | rfl | (simp [errW_none, errW_some] <;> rfl) | (simp [*, errW_none, errW_some] <;> rfl), by first | exact Kd.R_nil _ _ _ _ _ | exact Kd.N_nil _ _ _ _ _ | exact Kd.V_nil _ _ _ _ _ | exact Kd.Q_nil _ _ _ _ _ | exact Kd.S_nil _ _ _ _ _, bl_⟩

/-! ### w15_awake: function 20 -/
def w15_awake.f (k : Nat)  : Option (Bool) := (some (([(⟨(⟨1, 1, 2, 2, 15⟩ : S31), false⟩ : S60)] : List (S60)) : List (S60))).bind fun y192 => ((judge_May.f k y192 0 1 2 2 3 3 1 false 0 0 0 ([] : List (S31))).bind fun bt196 => (if bt196.2.2 = 17 then ((judge_Fits.f k y192 0).bind fun t202 => (some (t202 == 0))) else (some false)))
theorem w15_awake.mono : ∀ k, LeO (w15_awake.f k ) (w15_awake.f (k + 1) ) := by
  intro  k
  unfold w15_awake.f
  repeat' first
      | (with_reducible exact judge_Fits.mono _ _ _)
      | (with_reducible exact judge_May.mono _ _ _ _ _ _ _ _ _ _ _ _ _ _)
      | (with_reducible exact LeO.refl _)
      | (with_reducible exact LeO.none _)
      | (with_reducible refine LeO.ite ?_ ?_)
      | (with_reducible refine LeO.bind ?_ (fun _ => ?_))
      | exact judge_Fits.mono _ _ _
      | exact judge_May.mono _ _ _ _ _ _ _ _ _ _ _ _ _ _
      | exact LeO.none _
      | refine LeO.ite ?_ ?_
      | refine LeO.bind ?_ (fun _ => ?_)
set_option maxHeartbeats 8000000 in
set_option maxRecDepth 100000 in
theorem w15_awake.calls (k : Nat)  (r : Bool) (w : World) (h : w15_awake.f k  = some r) :
    Calls Try.prog 20 #[] w fun e w' => e = .returned (.bool r) ∧ Below w.heap.size w w' := by
  have hu31 := Try.underlying31
  have hu60 := Try.underlying60
  have hu46 := Try.underlying46
  have hu50 := Try.underlying50
  have HB := Aside0.mk (Below.refl w.heap.size w)
  have H : ((some (([(⟨(⟨1, 1, 2, 2, 15⟩ : S31), false⟩ : S60)] : List (S60)) : List (S60))).bind fun y192 => ((judge_May.f k y192 0 1 2 2 3 3 1 false 0 0 0 ([] : List (S31))).bind fun bt196 => (if bt196.2.2 = 17 then ((judge_Fits.f k y192 0).bind fun t202 => (some (t202 == 0))) else (some false)))) = some r := h
  clear h
  obtain ⟨y192, hy192⟩ : ∃ y_ : List (S60), y_ = (([(⟨(⟨1, 1, 2, 2, 15⟩ : S31), false⟩ : S60)] : List (S60))) := ⟨_, rfl⟩
  replace H : ((judge_May.f k y192 0 1 2 2 3 3 1 false 0 0 0 ([] : List (S31))).bind fun bt196 => (if bt196.2.2 = 17 then ((judge_Fits.f k y192 0).bind fun t202 => (some (t202 == 0))) else (some false))) = some r := by first | (rw [hy192]; with_reducible exact H) | (have H2_ := (Option.bind_some _ _).symm.trans H; rw [hy192]; with_reducible exact H2_) | (have H2_ := (Option.bind_some _ _).symm.trans H; with_reducible exact H2_) | with_reducible exact H | (rw [hy192]; exact H) | exact H
  have Ny192 := Aside0.mk hy192
  clear hy192
  replace H := Option.bind_eq_some_iff.mp H
  obtain ⟨⟨t196, t199, t200⟩, A10, H⟩ := H
  replace H : (if t200 = 17 then ((judge_Fits.f k y192 0).bind fun t202 => (some (t202 == 0))) else (some false)) = some r := H
  have A1 := Aside0.mk A10
  clear A10
  by_cases c2 : t200 = 17
  · rw [if_pos c2] at H
    have c2b0 : (t200 == 17) = true := beq_iff_eq.mpr c2
    have c2b1 : (t200 != 17) = false := bne_eq_false_iff_eq.mpr c2
    clear c2
    replace H := Option.bind_eq_some_iff.mp H
    obtain ⟨t202, A30, H⟩ := H
    replace H : (some (t202 == 0)) = some r := H
    have A3 := Aside0.mk A30
    clear A30
    obtain rfl := Option.some.inj H
    go_enter Try.func20, Try.ntmps20
    go_wp2_with (first | ((with_reducible refine gate_dst (N := 6) rfl ?_); refine Kd.R_lit k60 _ 60 ?hg (N := 6) ?hd (xs := ([(⟨(⟨1, 1, 2, 2, 15⟩ : S31), false⟩ : S60)] : List (S60))) (inner := [.int .i64 1, .int .i64 1, .int .i64 2, .int .i64 2, .int .i64 15, .bool false]) (ok := fun _ => True) (okp := fun _ => True) ?hr ?hp (fun _ hk => hk) trivial (Below.refl _ _) (Nat.le_refl _) (by simp) ?_; (case hd => rfl); (case hg => rfl); (case hr => first | (go_simp; done) | (go_simp; rfl)); (case hp => exact (Reps.c6 (show Kd.M k60 _ _ _ (⟨(⟨1, 1, 2, 2, 15⟩ : S31), false⟩ : S60) [.int .i64 1, .int .i64 1, .int .i64 2, .int .i64 2, .int .i64 15, .bool false] from (k60_mkM _ _ _ (⟨(⟨1, 1, 2, 2, 15⟩ : S31), false⟩ : S60) )) (Reps.none _ _))); intro v193 w4 ho5 hb hg_ hnew_; clear hg_ hnew_; (first | rw [← Ny192.out] at ho5 | (simp only [Int.reduceToNat] at ho5; rw [← Ny192.out] at ho5)); have n0_ := Aside0.mk (Kd.R_lower ho5 (below_size bl_)); have n1_ := Aside0.mk (below_step bl_ hb); clear HB; have HO194 := n0_; have HB := n1_; clear n0_ n1_; clear hb ho5; obtain ⟨Ao6, co6, eo6⟩ := Kd.R_slice HO194.out; subst eo6) | ((with_reducible refine gate_dst (N := 1) rfl ?_); refine box_event ?hg (N := 1) ?hd (cs := #[.slice none 0 0, .int .i64 0]) (t := 46) ?hr ?_; (case hd => rfl); (case hg => rfl); (case hr => first | (go_simp; done) | (go_simp; rfl)); intro gb195 hg w7 hbox hb; have n0_ := Aside0.mk (Kd.R_below (by (with_reducible repeat (first | apply Kd.R_alloc | apply Kd.R_drewN | apply Kd.R_drew)); exact HO194.out) hb); have n1_ := Aside0.mk (below_step bl_ hb); have n2_ := Aside0.mk (hbox); have n3_ := Aside0.mk ((by rw [hg]; exact (below_size bl_) : w.heap.size ≤ gb195)); have n4_ := Aside0.mk ((by rw [hg]; exact (below_size bl_) : w.heap.size ≤ gb195)); clear HO194; clear HB; have HO194 := n0_; have HB := n1_; have BK195 := n2_; have GW195 := n3_; have GE195 := n4_; clear n0_ n1_ n2_ n3_ n4_; clear hb hbox hg; have hcz8_0 : w7.cell? ⟨gb195, 0, none⟩ = some (.slice none 0 0) := (blk_cell BK195.out 0).trans rfl; have hcz8_1 : w7.cell? ⟨gb195, 1, none⟩ = some (.int .i64 0) := (blk_cell BK195.out 1).trans rfl; have hfz8_0 := blk_frozen BK195.out 0; have hfz8_1 := blk_frozen BK195.out 1) | ((with_reducible refine gate_callee (f := 21) rfl ?_); refine goesL_ (some 12) rfl rfl Try.func21 (by kernel_rfl) rfl #[.agg #[.slice Ao6 y192.length co6, .int .i64 0], .agg #[.int .i64 1, .int .i64 2, .int .i64 2, .int .i64 3, .int .i64 3, .int .i64 1, .bool false, .int .i64 0, .int .i64 0, .int .i64 0], .slice none 0 0] rfl (by (try simp only [List.map_toArray, List.map_cons, List.map_nil]); first | done | rfl | (simp only [List.length_drop, List.length_take]; rfl)) ?_; (refine (judge_May.calls k _ _ y192 0 1 2 2 3 3 1 false 0 0 0 _ _ ([] : List (S31)) t196 t199 t200 _ ?side1 ?side2 ?side3 ?side4 A1.out).mono ?_); (case side1 => refine (Kd.R_reads' (e := 60) (base := w.heap.size) (ok := fun k_ => True) (n := y192.length) (c := co6) ?_).2.2; exact (by (with_reducible repeat (first | apply Kd.R_alloc | apply Kd.R_drewN | apply Kd.R_drew)); exact (Kd.R_mono (Kd.R_far (p := ⟨gb195, 1, none⟩) (Kd.R_far (p := ⟨gb195, 0, none⟩) (Kd.R_types HO194.out BK195.out (by decide)) (fun _ hk => hk.2) (.slice Ao6 y192.length co6)) (fun _ hk => hk.2) (.int .i64 0)) (fun _ h_ => h_.1)))); (case side2 => exact (Kd.R_reads' HO194.out).2.1); (case side3 => exact Kd.C_nil _ _); (case side4 => exact Nat.le_refl _); rintro e w9 ⟨v197, rfl, ho0, hb⟩; refine ⟨_, rfl, ?_⟩; have n0_ := Aside0.mk (Kd.R_elder' (by (with_reducible repeat (first | apply Kd.R_alloc | apply Kd.R_drewN | apply Kd.R_drew)); exact (Kd.R_mono (Kd.R_far (p := ⟨gb195, 1, none⟩) (Kd.R_far (p := ⟨gb195, 0, none⟩) (Kd.R_types HO194.out BK195.out (by decide)) (fun _ hk => hk.2) (.slice Ao6 y192.length co6)) (fun _ hk => hk.2) (.int .i64 0)) (fun _ h_ => h_.1))) (Kd.R_base ho0) hb); have n1_ := Aside0.mk (Kd.R_lower (Kd.R_new' ho0 (Kd.R_lt (by (with_reducible repeat (first | apply Kd.R_alloc | apply Kd.R_drewN | apply Kd.R_drew)); exact (Kd.R_mono (Kd.R_far (p := ⟨gb195, 1, none⟩) (Kd.R_far (p := ⟨gb195, 0, none⟩) (Kd.R_types HO194.out BK195.out (by decide)) (fun _ hk => hk.2) (.slice Ao6 y192.length co6)) (fun _ hk => hk.2) (.int .i64 0)) (fun _ h_ => h_.1))))) (below_size bl_)); have n2_ := Aside0.mk (blk_below (g := gb195) (o := .cells #[.slice Ao6 y192.length co6, .int .i64 0] 46 (0, 0)) (by (with_reducible repeat (first | refine blk_drewN ?_ _ | refine blk_drew ?_ | refine blk_alloc ?_ _)); refine blk_put (cs := #[.slice Ao6 y192.length co6, .int .i64 0]) ?_ 1 _ rfl; (with_reducible repeat (first | refine blk_drewN ?_ _ | refine blk_drew ?_ | refine blk_alloc ?_ _)); refine blk_put (cs := #[.slice none 0 0, .int .i64 0]) ?_ 0 _ rfl; (with_reducible repeat (first | refine blk_drewN ?_ _ | refine blk_drew ?_ | refine blk_alloc ?_ _)); exact BK195.out) hb); have n3_ := Aside0.mk (below_step bl_ hb); clear HO194; clear BK195; clear HB; have HO194 := n0_; have HO198 := n1_; have BK195 := n2_; have HB := n3_; clear n0_ n1_ n2_ n3_; (try clear hb); (try clear hb2); (try clear hk); (try clear hi); (try clear ho0)) | ((with_reducible refine gate_dst (N := 2) rfl ?_); refine box_event ?hg (N := 2) ?hd (cs := #[.slice none 0 0, .int .i64 0]) (t := 46) ?hr ?_; (case hd => rfl); (case hg => rfl); (case hr => first | (go_simp; done) | (go_simp; rfl)); intro gb201 hg w10 hbox hb; have n0_ := Aside0.mk (Kd.R_below (by (with_reducible repeat (first | apply Kd.R_alloc | apply Kd.R_drewN | apply Kd.R_drew)); exact HO194.out) hb); have n1_ := Aside0.mk (Kd.R_below (by (with_reducible repeat (first | apply Kd.R_alloc | apply Kd.R_drewN | apply Kd.R_drew)); exact HO198.out) hb); have n2_ := Aside0.mk (blk_below (g := gb195) (o := .cells #[.slice Ao6 y192.length co6, .int .i64 0] 46 (0, 0)) bk_ hb); have n3_ := Aside0.mk (below_step bl_ hb); have n4_ := Aside0.mk (hbox); have n5_ := Aside0.mk ((by rw [hg]; exact (below_size bl_) : w.heap.size ≤ gb201)); have n6_ := Aside0.mk ((by rw [hg]; exact (below_size bl_) : w.heap.size ≤ gb201)); have n7_ := Aside0.mk ((by rw [hg]; exact Nat.ne_of_lt (blk_lt (g := gb195) (o := .cells #[.slice Ao6 y192.length co6, .int .i64 0] 46 (0, 0)) bk_) : gb195 ≠ gb201)); have n8_ := Aside0.mk ((by rw [hg]; exact Nat.ne_of_gt (blk_lt (g := gb195) (o := .cells #[.slice Ao6 y192.length co6, .int .i64 0] 46 (0, 0)) bk_) : gb201 ≠ gb195)); clear HO194; clear HO198; clear BK195; clear HB; have HO194 := n0_; have HO198 := n1_; have BK195 := n2_; have HB := n3_; have BK201 := n4_; have GW201 := n5_; have GE201 := n6_; have NB195_201 := n7_; have NB201_195 := n8_; clear n0_ n1_ n2_ n3_ n4_ n5_ n6_ n7_ n8_; clear hb hbox hg; obtain ⟨Ao11, co11, eo11⟩ := Kd.R_slice HO198.out; subst eo11; have hnb12 := NB201_195.out; have hnc12 := NB195_201.out; have hcz13_0 : w10.cell? ⟨gb201, 0, none⟩ = some (.slice none 0 0) := (blk_cell BK201.out 0).trans rfl; have hcz13_1 : w10.cell? ⟨gb201, 1, none⟩ = some (.int .i64 0) := (blk_cell BK201.out 1).trans rfl; have hfz13_0 := blk_frozen BK201.out 0; have hfz13_1 := blk_frozen BK201.out 1; have hcz14_0 : w10.cell? ⟨gb195, 0, none⟩ = some (.slice Ao6 y192.length co6) := (blk_cell BK195.out 0).trans rfl; have hcz14_1 : w10.cell? ⟨gb195, 1, none⟩ = some (.int .i64 0) := (blk_cell BK195.out 1).trans rfl; have hfz14_0 := blk_frozen BK195.out 0; have hfz14_1 := blk_frozen BK195.out 1) | (go_at_call 26; (with_reducible refine (judge_Fits.calls k _ _ y192 0 t202 _ ?side1 ?side2 A3.out).mono ?_); (case side1 => refine (Kd.R_reads' (e := 60) (base := w.heap.size) (ok := fun k_ => (True ∧ some k_ ≠ (.slice Ao11 t196.length co11 : Value).ownBlock)) (n := y192.length) (c := co6) ?_).2.2; exact (by (with_reducible repeat (first | apply Kd.R_alloc | apply Kd.R_drewN | apply Kd.R_drew)); exact (Kd.R_mono (Kd.R_far (p := ⟨gb201, 1, none⟩) (Kd.R_far (p := ⟨gb201, 0, none⟩) (Kd.R_types HO194.out BK201.out (by decide)) (fun _ hk => hk.2) (.slice Ao11 t196.length co11)) (fun _ hk => hk.2) (.int .i64 t199)) (fun _ h_ => h_.1)))); (case side2 => exact (Kd.R_reads' HO194.out).2.1); rintro e w15 ⟨rfl, hb⟩; have n0_ := Aside0.mk (Kd.R_below (by (with_reducible repeat (first | apply Kd.R_alloc | apply Kd.R_drewN | apply Kd.R_drew)); exact (Kd.R_mono (Kd.R_far (p := ⟨gb201, 1, none⟩) (Kd.R_far (p := ⟨gb201, 0, none⟩) (Kd.R_types HO194.out BK201.out (by decide)) (fun _ hk => hk.2) (.slice Ao11 t196.length co11)) (fun _ hk => hk.2) (.int .i64 t199)) (fun _ h_ => h_.1))) hb); have n1_ := Aside0.mk (Kd.R_below (by (with_reducible repeat (first | apply Kd.R_alloc | apply Kd.R_drewN | apply Kd.R_drew)); exact (Kd.R_mono (Kd.R_far (p := ⟨gb201, 1, none⟩) (Kd.R_far (p := ⟨gb201, 0, none⟩) (Kd.R_types HO198.out BK201.out (by decide)) (fun _ hk => hk.2) (.slice Ao11 t196.length co11)) (fun _ hk => hk.2) (.int .i64 t199)) (fun _ h_ => h_.1))) hb); have n2_ := Aside0.mk (blk_below (g := gb195) (o := .cells #[.slice Ao6 y192.length co6, .int .i64 0] 46 (0, 0)) (by (with_reducible repeat (first | refine blk_drewN ?_ _ | refine blk_drew ?_ | refine blk_alloc ?_ _)); refine blk_far ?_ NB195_201.out _; (with_reducible repeat (first | refine blk_drewN ?_ _ | refine blk_drew ?_ | refine blk_alloc ?_ _)); refine blk_far ?_ NB195_201.out _; (with_reducible repeat (first | refine blk_drewN ?_ _ | refine blk_drew ?_ | refine blk_alloc ?_ _)); exact BK195.out) hb); have n3_ := Aside0.mk (blk_below (g := gb201) (o := .cells #[.slice Ao11 t196.length co11, .int .i64 t199] 46 (0, 0)) (by (with_reducible repeat (first | refine blk_drewN ?_ _ | refine blk_drew ?_ | refine blk_alloc ?_ _)); refine blk_put (cs := #[.slice Ao11 t196.length co11, .int .i64 0]) ?_ 1 _ rfl; (with_reducible repeat (first | refine blk_drewN ?_ _ | refine blk_drew ?_ | refine blk_alloc ?_ _)); refine blk_put (cs := #[.slice none 0 0, .int .i64 0]) ?_ 0 _ rfl; (with_reducible repeat (first | refine blk_drewN ?_ _ | refine blk_drew ?_ | refine blk_alloc ?_ _)); exact BK201.out) hb); have n4_ := Aside0.mk (below_step bl_ hb); clear HO194; clear HO198; clear BK195; clear BK201; clear HB; have HO194 := n0_; have HO198 := n1_; have BK195 := n2_; have BK201 := n3_; have HB := n4_; clear n0_ n1_ n2_ n3_ n4_; (try clear hb); (try clear hb2); (try clear hk); (try clear hi)))
    go_ret
    exact ⟨by first | rfl | (simp [errW_none, errW_some] <;> rfl) | (simp [*, errW_none, errW_some] <;> rfl), bl_⟩
  · rw [if_neg c2] at H
    have c2b0 : (t200 == 17) = false := beq_eq_false_iff_ne.mpr c2
    have c2b1 : (t200 != 17) = true := bne_iff_ne.mpr c2
    obtain rfl := Option.some.inj H
    go_enter Try.func20, Try.ntmps20
    go_wp2_with (first | ((with_reducible refine gate_dst (N := 6) rfl ?_); refine Kd.R_lit k60 _ 60 ?hg (N := 6) ?hd (xs := ([(⟨(⟨1, 1, 2, 2, 15⟩ : S31), false⟩ : S60)] : List (S60))) (inner := [.int .i64 1, .int .i64 1, .int .i64 2, .int .i64 2, .int .i64 15, .bool false]) (ok := fun _ => True) (okp := fun _ => True) ?hr ?hp (fun _ hk => hk) trivial (Below.refl _ _) (Nat.le_refl _) (by simp) ?_; (case hd => rfl); (case hg => rfl); (case hr => first | (go_simp; done) | (go_simp; rfl)); (case hp => exact (Reps.c6 (show Kd.M k60 _ _ _ (⟨(⟨1, 1, 2, 2, 15⟩ : S31), false⟩ : S60) [.int .i64 1, .int .i64 1, .int .i64 2, .int .i64 2, .int .i64 15, .bool false] from (k60_mkM _ _ _ (⟨(⟨1, 1, 2, 2, 15⟩ : S31), false⟩ : S60) )) (Reps.none _ _))); intro v193 w16 ho17 hb hg_ hnew_; clear hg_ hnew_; (first | rw [← Ny192.out] at ho17 | (simp only [Int.reduceToNat] at ho17; rw [← Ny192.out] at ho17)); have n0_ := Aside0.mk (Kd.R_lower ho17 (below_size bl_)); have n1_ := Aside0.mk (below_step bl_ hb); clear HB; have HO194 := n0_; have HB := n1_; clear n0_ n1_; clear hb ho17; obtain ⟨Ao18, co18, eo18⟩ := Kd.R_slice HO194.out; subst eo18) | ((with_reducible refine gate_dst (N := 1) rfl ?_); refine box_event ?hg (N := 1) ?hd (cs := #[.slice none 0 0, .int .i64 0]) (t := 46) ?hr ?_; (case hd => rfl); (case hg => rfl); (case hr => first | (go_simp; done) | (go_simp; rfl)); intro gb195 hg w19 hbox hb; have n0_ := Aside0.mk (Kd.R_below (by (with_reducible repeat (first | apply Kd.R_alloc | apply Kd.R_drewN | apply Kd.R_drew)); exact HO194.out) hb); have n1_ := Aside0.mk (below_step bl_ hb); have n2_ := Aside0.mk (hbox); have n3_ := Aside0.mk ((by rw [hg]; exact (below_size bl_) : w.heap.size ≤ gb195)); have n4_ := Aside0.mk ((by rw [hg]; exact (below_size bl_) : w.heap.size ≤ gb195)); clear HO194; clear HB; have HO194 := n0_; have HB := n1_; have BK195 := n2_; have GW195 := n3_; have GE195 := n4_; clear n0_ n1_ n2_ n3_ n4_; clear hb hbox hg; have hcz20_0 : w19.cell? ⟨gb195, 0, none⟩ = some (.slice none 0 0) := (blk_cell BK195.out 0).trans rfl; have hcz20_1 : w19.cell? ⟨gb195, 1, none⟩ = some (.int .i64 0) := (blk_cell BK195.out 1).trans rfl; have hfz20_0 := blk_frozen BK195.out 0; have hfz20_1 := blk_frozen BK195.out 1) | ((with_reducible refine gate_callee (f := 21) rfl ?_); refine goesL_ (some 12) rfl rfl Try.func21 (by kernel_rfl) rfl #[.agg #[.slice Ao18 y192.length co18, .int .i64 0], .agg #[.int .i64 1, .int .i64 2, .int .i64 2, .int .i64 3, .int .i64 3, .int .i64 1, .bool false, .int .i64 0, .int .i64 0, .int .i64 0], .slice none 0 0] rfl (by (try simp only [List.map_toArray, List.map_cons, List.map_nil]); first | done | rfl | (simp only [List.length_drop, List.length_take]; rfl)) ?_; (refine (judge_May.calls k _ _ y192 0 1 2 2 3 3 1 false 0 0 0 _ _ ([] : List (S31)) t196 t199 t200 _ ?side1 ?side2 ?side3 ?side4 A1.out).mono ?_); (case side1 => refine (Kd.R_reads' (e := 60) (base := w.heap.size) (ok := fun k_ => True) (n := y192.length) (c := co18) ?_).2.2; exact (by (with_reducible repeat (first | apply Kd.R_alloc | apply Kd.R_drewN | apply Kd.R_drew)); exact (Kd.R_mono (Kd.R_far (p := ⟨gb195, 1, none⟩) (Kd.R_far (p := ⟨gb195, 0, none⟩) (Kd.R_types HO194.out BK195.out (by decide)) (fun _ hk => hk.2) (.slice Ao18 y192.length co18)) (fun _ hk => hk.2) (.int .i64 0)) (fun _ h_ => h_.1)))); (case side2 => exact (Kd.R_reads' HO194.out).2.1); (case side3 => exact Kd.C_nil _ _); (case side4 => exact Nat.le_refl _); rintro e w21 ⟨v197, rfl, ho0, hb⟩; refine ⟨_, rfl, ?_⟩; have n0_ := Aside0.mk (Kd.R_elder' (by (with_reducible repeat (first | apply Kd.R_alloc | apply Kd.R_drewN | apply Kd.R_drew)); exact (Kd.R_mono (Kd.R_far (p := ⟨gb195, 1, none⟩) (Kd.R_far (p := ⟨gb195, 0, none⟩) (Kd.R_types HO194.out BK195.out (by decide)) (fun _ hk => hk.2) (.slice Ao18 y192.length co18)) (fun _ hk => hk.2) (.int .i64 0)) (fun _ h_ => h_.1))) (Kd.R_base ho0) hb); have n1_ := Aside0.mk (Kd.R_lower (Kd.R_new' ho0 (Kd.R_lt (by (with_reducible repeat (first | apply Kd.R_alloc | apply Kd.R_drewN | apply Kd.R_drew)); exact (Kd.R_mono (Kd.R_far (p := ⟨gb195, 1, none⟩) (Kd.R_far (p := ⟨gb195, 0, none⟩) (Kd.R_types HO194.out BK195.out (by decide)) (fun _ hk => hk.2) (.slice Ao18 y192.length co18)) (fun _ hk => hk.2) (.int .i64 0)) (fun _ h_ => h_.1))))) (below_size bl_)); have n2_ := Aside0.mk (blk_below (g := gb195) (o := .cells #[.slice Ao18 y192.length co18, .int .i64 0] 46 (0, 0)) (by (with_reducible repeat (first | refine blk_drewN ?_ _ | refine blk_drew ?_ | refine blk_alloc ?_ _)); refine blk_put (cs := #[.slice Ao18 y192.length co18, .int .i64 0]) ?_ 1 _ rfl; (with_reducible repeat (first | refine blk_drewN ?_ _ | refine blk_drew ?_ | refine blk_alloc ?_ _)); refine blk_put (cs := #[.slice none 0 0, .int .i64 0]) ?_ 0 _ rfl; (with_reducible repeat (first | refine blk_drewN ?_ _ | refine blk_drew ?_ | refine blk_alloc ?_ _)); exact BK195.out) hb); have n3_ := Aside0.mk (below_step bl_ hb); clear HO194; clear BK195; clear HB; have HO194 := n0_; have HO198 := n1_; have BK195 := n2_; have HB := n3_; clear n0_ n1_ n2_ n3_; (try clear hb); (try clear hb2); (try clear hk); (try clear hi); (try clear ho0)) | ((with_reducible refine gate_dst (N := 2) rfl ?_); refine box_event ?hg (N := 2) ?hd (cs := #[.slice none 0 0, .int .i64 0]) (t := 46) ?hr ?_; (case hd => rfl); (case hg => rfl); (case hr => first | (go_simp; done) | (go_simp; rfl)); intro gb201 hg w22 hbox hb; have n0_ := Aside0.mk (Kd.R_below (by (with_reducible repeat (first | apply Kd.R_alloc | apply Kd.R_drewN | apply Kd.R_drew)); exact HO194.out) hb); have n1_ := Aside0.mk (Kd.R_below (by (with_reducible repeat (first | apply Kd.R_alloc | apply Kd.R_drewN | apply Kd.R_drew)); exact HO198.out) hb); have n2_ := Aside0.mk (blk_below (g := gb195) (o := .cells #[.slice Ao18 y192.length co18, .int .i64 0] 46 (0, 0)) bk_ hb); have n3_ := Aside0.mk (below_step bl_ hb); have n4_ := Aside0.mk (hbox); have n5_ := Aside0.mk ((by rw [hg]; exact (below_size bl_) : w.heap.size ≤ gb201)); have n6_ := Aside0.mk ((by rw [hg]; exact (below_size bl_) : w.heap.size ≤ gb201)); have n7_ := Aside0.mk ((by rw [hg]; exact Nat.ne_of_lt (blk_lt (g := gb195) (o := .cells #[.slice Ao18 y192.length co18, .int .i64 0] 46 (0, 0)) bk_) : gb195 ≠ gb201)); have n8_ := Aside0.mk ((by rw [hg]; exact Nat.ne_of_gt (blk_lt (g := gb195) (o := .cells #[.slice Ao18 y192.length co18, .int .i64 0] 46 (0, 0)) bk_) : gb201 ≠ gb195)); clear HO194; clear HO198; clear BK195; clear HB; have HO194 := n0_; have HO198 := n1_; have BK195 := n2_; have HB := n3_; have BK201 := n4_; have GW201 := n5_; have GE201 := n6_; have NB195_201 := n7_; have NB201_195 := n8_; clear n0_ n1_ n2_ n3_ n4_ n5_ n6_ n7_ n8_; clear hb hbox hg; obtain ⟨Ao23, co23, eo23⟩ := Kd.R_slice HO198.out; subst eo23; have hnb24 := NB201_195.out; have hnc24 := NB195_201.out; have hcz25_0 : w22.cell? ⟨gb201, 0, none⟩ = some (.slice none 0 0) := (blk_cell BK201.out 0).trans rfl; have hcz25_1 : w22.cell? ⟨gb201, 1, none⟩ = some (.int .i64 0) := (blk_cell BK201.out 1).trans rfl; have hfz25_0 := blk_frozen BK201.out 0; have hfz25_1 := blk_frozen BK201.out 1))
    go_ret
    exact ⟨by first | rfl | (simp [errW_none, errW_some] <;> rfl) | (simp [*, errW_none, errW_some] <;> rfl), bl_⟩

end Go.Proofs.Ythkagoomlmgcdaa.PJudgeFits
