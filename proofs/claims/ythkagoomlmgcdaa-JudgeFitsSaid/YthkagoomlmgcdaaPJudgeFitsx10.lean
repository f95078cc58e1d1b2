-- Made by px.py (a program of this session, over the kit's printer) out of the translation. Not trusted: Lean checks it.
import Derived.Test.YthkagoomlmgcdaaPJudgeFitsx0
import Derived.Test.YthkagoomlmgcdaaPJudgeFitsx2
import Derived.Test.YthkagoomlmgcdaaPJudgeFitsx3
import Derived.Test.YthkagoomlmgcdaaPJudgeFitsx6
import Derived.Test.YthkagoomlmgcdaaPJudgeFitsx9
namespace Go.Proofs.Ythkagoomlmgcdaa.PJudgeFits
open Go.RowKit Go.Proofs.YthkagoomlmgcdaaW.PrintWords Go.Proofs.YthkagoomlmgcdaaW.PrintLast Go.Proofs.YthkagoomlmgcdaaW.PrintMore
attribute [local go_sem] max2_int min2_int max_two min_two max_three min_three max_four min_four   -- for this text's walks alone
set_option linter.unusedVariables false
set_option linter.unusedSimpArgs false

/-! ### qpa_Modes: function 68 (by hand) -/
/-- An array's cells. -/
def ints (xs : List Int) : Array Value := (xs.map (Value.int .i64)).toArray
theorem ints_at {W : World} {g t : Nat} {xs : List Int} (h : W.heap[g]? = some (.cells (ints xs) t (0, 0))) {j : Nat} (hj : j < xs.length) : W.cell? ⟨g, j, none⟩ = some (.int .i64 xs[j]) := by
 rw [blk_cell h]; simp [ints, hj]
theorem ints_set {W : World} {g t : Nat} {xs : List Int} (h : W.heap[g]? = some (.cells (ints xs) t (0, 0))) (j : Nat) (v : Int) : (W.setCell ⟨g, j, none⟩ (.int .i64 v)).heap[g]? = some (.cells (ints (xs.set j v)) t (0, 0)) := by
 rw [blk_set h]; simp [ints, List.map_set]
/-- The cells of a row of tasks. -/
def TR (cur : Array Value) (xs : List S31) : Prop := ∀ j x, xs[j]? = some x → cur[j * 5]? = some (.int .i64 x.f0) ∧ cur[j * 5 + 1]? = some (.int .i64 x.f1) ∧ cur[j * 5 + 2]? = some (.int .i64 x.f2) ∧ cur[j * 5 + 3]? = some (.int .i64 x.f3) ∧ cur[j * 5 + 4]? = some (.int .i64 x.f4)
theorem TR.len {cur : Array Value} {xs : List S31} (h : TR cur xs) : xs.length * 5 ≤ cur.size := by
 rcases Nat.eq_zero_or_pos xs.length with h0 | h0
 ·omega
 ·obtain ⟨_, _, _, _, h5⟩ := h (xs.length - 1) xs[xs.length - 1] (List.getElem?_eq_getElem (by omega))
  have := (Array.getElem?_eq_some_iff.1 h5).1
  omega
theorem TR.take {cur : Array Value} {xs ys : List S31} (h : TR cur (xs ++ ys)) : TR cur xs := fun j x hj => h j x (by rw [List.getElem?_append_left (List.getElem?_eq_some_iff.1 hj).1]; exact hj)
theorem TR.set {cur : Array Value} {xs : List S31} (h : TR cur xs) (i : Nat) (hi : i < xs.length) (v : S31) :
  TR (((((cur.setIfInBounds (i * 5) (.int .i64 v.f0)).setIfInBounds (i * 5 + 1) (.int .i64 v.f1)).setIfInBounds (i * 5 + 2) (.int .i64 v.f2)).setIfInBounds (i * 5 + 3) (.int .i64 v.f3)).setIfInBounds (i * 5 + 4) (.int .i64 v.f4)) (xs.set i v) := by
 have hl := h.len
 intro j x hj
 by_cases e : i = j
 ·subst e
  rw [List.getElem?_set_self hi] at hj
  obtain rfl := Option.some.inj hj
  simp only [Array.getElem?_setIfInBounds, Array.size_setIfInBounds]
  refine ⟨?_, ?_, ?_, ?_, ?_⟩ <;> repeat (first | rw [if_pos trivial] | rw [if_neg (by omega)] | rw [if_pos (by omega)])
 ·rw [List.getElem?_set_ne e] at hj
  obtain ⟨h0, h1, h2, h3, h4⟩ := h j x hj
  simp only [Array.getElem?_setIfInBounds, Array.size_setIfInBounds]
  refine ⟨?_, ?_, ?_, ?_, ?_⟩ <;> (repeat rw [if_neg (by omega)]) <;> assumption
theorem TR_of_R {w : World} {base : Nat} {ok : Nat → Prop} {v : Value} {xs : List S31} (h : Kd.R k31 31 w base ok v xs) :
  (v = .slice none 0 0 ∧ xs = []) ∨ ∃ g cap cur, v = .slice (some ⟨g, 0, none⟩) xs.length cap ∧ base ≤ g ∧ ok g ∧ w.heap[g]? = some (.cells cur 31 (0, 0)) ∧ xs.length ≤ cap ∧ cap ≤ maxLen ∧ cur.size = cap * 5 ∧ TR cur xs := by
 obtain ⟨h0, inner, ⟨hl, hc⟩, hr⟩ := h
 rcases hc with ⟨rfl, hz⟩ | ⟨g, cap, cur, rfl, hb, hh, hn, hm, hs, ht⟩
 ·exact .inl ⟨rfl, List.length_eq_zero_iff.1 hz⟩
 ·refine .inr ⟨g, cap, cur, rfl, hb, h0 g rfl, hh, hn, hm, hs, fun j x hj => ?_⟩
  have hM := k31_openM (hr.2 j x hj)
  have hjl := (List.getElem?_eq_some_iff.1 hj).1
  have key : ∀ i u, i < 5 → ((inner.drop (j * 5)).take 5)[i]? = some u → cur[j * 5 + i]? = some u := by
   intro i u hi hu
   rw [← ht] at hu
   rw [List.getElem?_take_of_lt hi, List.getElem?_drop, List.getElem?_take_of_lt (by show j * 5 + i < xs.length * 5; omega)] at hu
   simpa using hu
  have hM' : List.take 5 (List.drop (j * 5) inner) = [.int .i64 x.f0, .int .i64 x.f1, .int .i64 x.f2, .int .i64 x.f3, .int .i64 x.f4] := hM
  rw [hM'] at key
  exact ⟨key 0 _ (by omega) rfl, key 1 _ (by omega) rfl, key 2 _ (by omega) rfl, key 3 _ (by omega) rfl, key 4 _ (by omega) rfl⟩
theorem R_of_TR {w : World} {base g cap : Nat} {ok : Nat → Prop} {cur : Array Value} {xs : List S31} (hb : base ≤ g) (hok : ok g) (hh : w.heap[g]? = some (.cells cur 31 (0, 0))) (hn : xs.length ≤ cap) (hm : cap ≤ maxLen) (hs : cur.size = cap * 5) (ht : TR cur xs) :
  Kd.R k31 31 w base ok (.slice (some ⟨g, 0, none⟩) xs.length cap) xs := by
 refine ⟨fun k hk => by cases hk; exact hok, cur.toList.take (xs.length * 5), ⟨by show (List.take (xs.length * 5) cur.toList).length = xs.length * 5; simp; omega, .inr ⟨g, cap, cur, rfl, hb, hh, hn, hm, hs, rfl⟩⟩, by show (List.take (xs.length * 5) cur.toList).length = xs.length * 5; simp; omega, fun j x hj => ?_⟩
 have hjl := (List.getElem?_eq_some_iff.1 hj).1
 obtain ⟨h0, h1, h2, h3, h4⟩ := ht j x hj
 have e : List.take 5 (List.drop (j * 5) (cur.toList.take (xs.length * 5))) = [.int .i64 x.f0, .int .i64 x.f1, .int .i64 x.f2, .int .i64 x.f3, .int .i64 x.f4] := by
  have key : ∀ i u, i < 5 → cur[j * 5 + i]? = some u → (List.take 5 (List.drop (j * 5) (cur.toList.take (xs.length * 5))))[i]? = some u := by
   intro i u hi hu
   rw [List.getElem?_take_of_lt hi, List.getElem?_drop, List.getElem?_take_of_lt (by omega)]
   simpa using hu
  apply List.ext_getElem?
  intro i
  match i with
  | 0 => rw [key 0 _ (by omega) h0]; rfl
  | 1 => rw [key 1 _ (by omega) h1]; rfl
  | 2 => rw [key 2 _ (by omega) h2]; rfl
  | 3 => rw [key 3 _ (by omega) h3]; rfl
  | 4 => rw [key 4 _ (by omega) h4]; rfl
  | i + 5 => rw [List.getElem?_eq_none (by simp; omega)]; rfl
 show k31.M w base _ x (List.take 5 (List.drop (j * 5) (cur.toList.take (xs.length * 5))))
 rw [e]
 exact k31_mkM _ _ _ _
theorem zeroCells5 (n : Nat) : (Builtin.zeroCells (Value.agg #[.int .i64 0, .int .i64 0, .int .i64 0, .int .i64 0, .int .i64 0]).cells n).toList = List.replicate (n * 5) (Value.int .i64 0) := by
 simp [Builtin.zeroCells, Value.cells]
 apply List.ext_getElem
 ·simp
 ·intro i h1 h2
  have h3 : i % 5 < 5 := Nat.mod_lt _ (by omega)
  simp
  have : i % 5 = 0 ∨ i % 5 = 1 ∨ i % 5 = 2 ∨ i % 5 = 3 ∨ i % 5 = 4 := by omega
  rcases this with e | e | e | e | e <;> rw [e] <;> rfl
theorem zero28 (w : World) : (zeroValue 31).run Try.prog w = .ok (.agg #[.int .i64 0, .int .i64 0, .int .i64 0, .int .i64 0, .int .i64 0]) w := by kernel_rfl
theorem run_clear5 {P : Program} (w : World) (t e ty : TypeId) (ht : P.underlying t = some (.slice e)) (hv : ∀ w, (zeroValue e).run P w = .ok (.agg #[.int .i64 0, .int .i64 0, .int .i64 0, .int .i64 0, .int .i64 0]) w) (b o n c : Nat) (hn : 0 < n)
  (hc : ∀ j, j < n * 5 → (w.cell? ⟨b, o + j, none⟩).isSome = true) (hf : ∀ j, j < n * 5 → w.frozen? ⟨b, o + j, none⟩ = false) :
  (Builtin.clear_ #[t] ty #[.slice (some ⟨b, o, none⟩) n c]).run P w = .ok (.tuple #[]) (w.setCells b o (List.replicate (n * 5) (.int .i64 0))) := by
 have hst := run_storeCells_cells (P := P) b o (List.replicate (n * 5) (Value.int .i64 0)) 0 w (by simpa using hc) (by simpa using hf) (by intro v hv'; rw [List.eq_of_mem_replicate hv']; rfl)
 simp only [Nat.add_zero] at hst
 obtain ⟨m, rfl⟩ : ∃ m, n = m + 1 := ⟨n - 1, by omega⟩
 simp [Builtin.clear_, run_underlying ht, hv, zeroCells5, hst]
theorem TR.set_blk {W : World} {g : Nat} {cur : Array Value} {xs : List S31} (hb : W.heap[g]? = some (.cells cur 31 (0, 0))) (h : TR cur xs) (i : Nat) (hi : i < xs.length) (v : S31) :
  ∃ cur', (((((W.setCell ⟨g, i * 5, none⟩ (.int .i64 v.f0)).setCell ⟨g, i * 5 + 1, none⟩ (.int .i64 v.f1)).setCell ⟨g, i * 5 + 2, none⟩ (.int .i64 v.f2)).setCell ⟨g, i * 5 + 3, none⟩ (.int .i64 v.f3)).setCell ⟨g, i * 5 + 4, none⟩ (.int .i64 v.f4)).heap[g]? = some (.cells cur' 31 (0, 0)) ∧ cur'.size = cur.size ∧ TR cur' (xs.set i v) :=
 ⟨_, blk_set (blk_set (blk_set (blk_set (blk_set hb _ _) _ _) _ _) _ _) _ _, by simp only [Array.size_setIfInBounds], h.set i hi v⟩
theorem grown_at (W : World) (g o : Nat) (v : Value) : W.grownBy (W.setCell ⟨g, o, none⟩ v) (some g) := PxR.grown_set W ⟨g, o, none⟩ v
theorem grown5 (W : World) (g a0 a1 a2 a3 a4 : Nat) (v0 v1 v2 v3 v4 : Value) : W.grownBy (((((W.setCell ⟨g, a0, none⟩ v0).setCell ⟨g, a1, none⟩ v1).setCell ⟨g, a2, none⟩ v2).setCell ⟨g, a3, none⟩ v3).setCell ⟨g, a4, none⟩ v4) (some g) := by
 refine World.grownBy.trans ?_ (grown_at _ g a4 v4)
 refine World.grownBy.trans ?_ (grown_at _ g a3 v3)
 refine World.grownBy.trans ?_ (grown_at _ g a2 v2)
 refine World.grownBy.trans ?_ (grown_at _ g a1 v1)
 exact grown_at _ g a0 v0
theorem set_mid {α : Type} (a b c : List α) (x y : α) : (a ++ (y :: b) ++ x :: c).set a.length x = (a ++ [x]) ++ (b ++ [x]) ++ c := by simp
def mdIdx (p : S31 → Bool) (l0 : List S31) : Int := match l0.findIdx? p with | some i => (i : Int) | none => -1
theorem mdIdx_some {p : S31 → Bool} {l0 : List S31} {k : Nat} (hk : k < l0.length) (hb : ∀ j, j < k → p (rd_T31 l0 j) = false) (h : p (rd_T31 l0 k) = true) : mdIdx p l0 = k := by
 have e : l0.findIdx? p = some k := by
  rw [List.findIdx?_eq_some_iff_getElem]
  refine ⟨hk, by simpa [rd_T31, hk] using h, fun j hj => ?_⟩
  have := hb j hj
  simpa [rd_T31, Nat.lt_trans hj hk] using this
 unfold mdIdx; rw [e]
theorem mdIdx_none {p : S31 → Bool} {l0 : List S31} (hb : ∀ j, j < l0.length → p (rd_T31 l0 j) = false) : mdIdx p l0 = -1 := by
 have e : l0.findIdx? p = none := by
  rw [List.findIdx?_eq_none_iff]
  intro x hx
  obtain ⟨j, hj, rfl⟩ := List.getElem_of_mem hx
  have := hb j hj
  simpa [rd_T31, hj] using this
 unfold mdIdx; rw [e]
set_option maxHeartbeats 4000000 in
set_option maxRecDepth 100000 in
theorem mdIndex.calls (capv : Value) (p : S31 → Bool) (A0 : Option Addr) (c0 : Nat) (l0 : List S31) (w : World) (hr0 : Kd.C k31 w A0 l0.length l0)
  (hF : ∀ (W : World) (x : S31), Below w.heap.size w W → Calls Try.prog 97 #[.agg #[.int .i64 x.f0, .int .i64 x.f1, .int .i64 x.f2, .int .i64 x.f3, .int .i64 x.f4], capv] W fun e W' => e = .returned (.bool (p x)) ∧ Below W.heap.size W W') :
  Calls Try.prog 75 #[.slice A0 l0.length c0, .func (.func 97) #[] #[capv]] w fun e w' => e = .returned (.int .i64 (mdIdx p l0)) ∧ Below w.heap.size w w' := by
 have hu := Try.underlying31
 have hmax : l0.length ≤ 9223372036854775807 := Kd.C_max hr0
 have HR0 := Aside0.mk hr0
 have HF := Aside0.mk hF
 clear hr0 hF
 go_enter Try.func75, Try.ntmps75
 go_wp2
 go_loopw [5, 8] (fun _ v8 wr => ∃ k : Nat, k ≤ l0.length ∧ v8 = .int .i64 k ∧ Aside0 (∀ j, j < k → p (rd_T31 l0 j) = false) ∧ Aside0 (Below w.heap.size w wr)) (fun _ v8 _ => l0.length - (intOf v8).toNat)
 case atStart => exact ⟨0, Nat.zero_le _, rfl, ⟨fun j hj => absurd hj (Nat.not_lt_zero _)⟩, ⟨Below.refl _ _⟩⟩
 case round =>
  obtain ⟨k, hk, rfl, HP, HB⟩ := hrel
  by_cases hlt : k < l0.length
  ·have p0 : (0 : Int) ≤ (k : Int) := by omega
   have q0 : (k : Int) < (l0.length : Int) := by omega
   obtain ⟨ad, e0, hx0, hx1, hx2, hx3, hx4⟩ := at_T31 HR0.out k p0 q0
   cases e0
   replace hx0 := (HB.out.cell (World.block_lt_of_cell? w _ hx0)).trans hx0
   replace hx1 := (HB.out.cell (World.block_lt_of_cell? w _ hx1)).trans hx1
   replace hx2 := (HB.out.cell (World.block_lt_of_cell? w _ hx2)).trans hx2
   replace hx3 := (HB.out.cell (World.block_lt_of_cell? w _ hx3)).trans hx3
   replace hx4 := (HB.out.cell (World.block_lt_of_cell? w _ hx4)).trans hx4
   simp only [Int.toNat_natCast] at hx0 hx1 hx2 hx3 hx4
   have HC := Lib.hid (HF.out wr (rd_T31 l0 k) HB.out)
   cases hb : p (rd_T31 l0 k) with
   | false =>
    rw [hb] at HC
    have HT := Lib.hid hb
    clear hb
    go_wp2_with (go_at_call 97; refine HC.out.mono ?_; rintro e w1 ⟨rfl, hb1⟩; have HB1 := Aside0.mk (below_step HB.out hb1); clear hb1)
    go_roundw
    case rel => exact ⟨k + 1, by omega, by go_num, ⟨fun j hj => by rcases Nat.lt_succ_iff_lt_or_eq.1 hj with h | rfl; exact HP.out j h; exact HT.out⟩, HB1⟩
    case measure => simp [intOf]; omega
   | true =>
    rw [hb] at HC
    have HT := Lib.hid hb
    clear hb
    go_wp2_with (go_at_call 97; refine HC.out.mono ?_; rintro e w1 ⟨rfl, hb1⟩; have HB1 := Aside0.mk (below_step HB.out hb1); clear hb1)
    go_ret
    exact ⟨by rw [mdIdx_some hlt HP.out HT.out]; rfl, HB1.out⟩
  ·go_wp2
   go_ret
   exact ⟨by rw [mdIdx_none (fun j hj => HP.out j (by omega))]; rfl, HB.out⟩
set_option maxHeartbeats 8000000 in
set_option maxRecDepth 100000 in
theorem mdDelete.calls (capv : Value) (p : S31 → Bool) (g c0 : Nat) (cur0 : Array Value) (l0 : List S31) (w : World) (hg : w.heap[g]? = some (.cells cur0 31 (0, 0))) (ht : TR cur0 l0) (hs : cur0.size = c0 * 5) (hl : l0.length ≤ c0) (hm : c0 ≤ maxLen)
  (hF : ∀ (W : World) (x : S31), w.grownBy W (some g) → Calls Try.prog 97 #[.agg #[.int .i64 x.f0, .int .i64 x.f1, .int .i64 x.f2, .int .i64 x.f3, .int .i64 x.f4], capv] W fun e W' => e = .returned (.bool (p x)) ∧ Below W.heap.size W W') :
  Calls Try.prog 92 #[.slice (some ⟨g, 0, none⟩) l0.length c0, .func (.func 97) #[] #[capv]] w fun e w' => e = .returned (.slice (some ⟨g, 0, none⟩) (l0.filter fun x => !p x).length c0) ∧ w.grownBy w' (some g) ∧ ∃ cur, w'.heap[g]? = some (.cells cur 31 (0, 0)) ∧ cur.size = c0 * 5 ∧ TR cur (l0.filter fun x => !p x) := by
 have hu := Try.underlying31
 have hR : Kd.R k31 31 w 0 (fun _ => True) (.slice (some ⟨g, 0, none⟩) l0.length c0) l0 := R_of_TR (Nat.zero_le _) trivial hg hl hm hs ht
 have hr0 := (Kd.R_reads' hR).2.2
 have hmax : l0.length ≤ 9223372036854775807 := Kd.C_max hr0
 have HI := Lib.hid (mdIndex.calls capv p (some ⟨g, 0, none⟩) c0 l0 w hr0 (fun W x hW => hF W x (grown_of_below hW _)))
 clear hR hr0
 have HF := Lib.hid hF
 have HT := Lib.hid ht
 have HS := Lib.hid hs
 have HG := Lib.hid hg
 have HL := Lib.hid hl
 clear hF ht hs hg hl hm
 cases hx : l0.findIdx? p with
 | none =>
  have e1 : mdIdx p l0 = -1 := by unfold mdIdx; rw [hx]
  have e2 : (l0.filter fun x => !p x) = l0 := by
   rw [List.filter_eq_self]; intro a ha
   have := List.findIdx?_eq_none_iff.1 hx a ha
   simp [this]
  rw [e2]
  rw [e1] at HI
  clear e1 e2 hx
  go_enter Try.func92, Try.ntmps92
  go_wp2_with (go_at_call 75; refine HI.out.mono ?_; rintro e w1 ⟨rfl, hb1⟩; have HB1 := Lib.hid hb1; clear hb1)
  go_ret
  exact ⟨rfl, grown_of_below HB1.out _, cur0, blk_below HG.out HB1.out, HS.out, HT.out⟩
 | some k0 =>
  obtain ⟨hk, hpk, hall⟩ := List.findIdx?_eq_some_iff_getElem.1 hx
  have e1 : mdIdx p l0 = (k0 : Int) := by unfold mdIdx; rw [hx]
  rw [e1] at HI
  clear e1 hx
  obtain ⟨pre, y, suf, rfl, rfl⟩ : ∃ pre y suf, l0 = pre ++ y :: suf ∧ pre.length = k0 := ⟨l0.take k0, l0[k0], l0.drop (k0 + 1), by rw [← List.drop_eq_getElem_cons hk, List.take_append_drop], by simp; omega⟩
  have hpy : p y = true := by simpa using hpk
  have hpre : ∀ x ∈ pre, p x = false := fun x hx => by
   obtain ⟨j, hj, rfl⟩ := List.getElem_of_mem hx
   have := hall j hj
   rw [List.getElem_append_left hj] at this
   simpa using this
  have hfil : (pre ++ y :: suf).filter (fun x => !p x) = pre ++ suf.filter (fun x => !p x) := by
   rw [List.filter_append, List.filter_cons_of_neg (by simp [hpy])]
   rw [List.filter_eq_self.2 (fun x hx => by simp [hpre x hx])]
  have hlen : (pre ++ y :: suf).length = pre.length + 1 + suf.length := by simp; omega
  clear hk hpk hall hpy hpre
  obtain ⟨fl, hfl⟩ : ∃ fl, (pre ++ y :: suf).filter (fun x => !p x) = fl := ⟨_, rfl⟩
  rw [hfl] at hfil
  rw [hfl]
  clear hfl
  have HFIL := Lib.hid hfil
  have hne : ((pre.length : Int) == -1) = false := beq_eq_false_iff_ne.2 (by omega)
  clear hfil
  generalize hn : (pre ++ y :: suf).length = n at *
  have HN := Lib.hid hn
  have HLEN := Lib.hid hlen
  have H0 : Hid (TR cur0 (pre ++ (y :: ([] : List S31)) ++ suf)) := Lib.hid (by simpa using HT.out)
  have hpl : pre.length + 1 ≤ n := by omega
  clear hn hlen
  go_enter Try.func92, Try.ntmps92
  go_wp2_with (go_at_call 75; refine HI.out.mono ?_; rintro e w1 ⟨rfl, hb1⟩; have HB1 := Lib.hid hb1; clear hb1)
  go_loopg [5, 6, 7] n (fun gg s5 s6 _ wr => ∃ (kept junk rest : List S31) (z : S31) (cur : Array Value), s5 = .int .i64 kept.length ∧ s6 = .int .i64 ((kept.length + 1 + junk.length : Nat) : Int) ∧ rest.length ≤ gg ∧ Aside0 (fl = kept ++ rest.filter (fun x => !p x) ∧ n = kept.length + 1 + junk.length + rest.length) ∧ Aside0 (wr.heap[g]? = some (.cells cur 31 (0, 0)) ∧ cur.size = c0 * 5 ∧ TR cur (kept ++ (z :: junk) ++ rest)) ∧ Aside0 (w.grownBy wr (some g)))
  case atStart => exact ⟨pre, [], suf, y, cur0, rfl, by go_num, by have := HLEN.out; omega, ⟨HFIL.out, by have := HLEN.out; simpa using this⟩, ⟨blk_below HG.out HB1.out, HS.out, H0.out⟩, ⟨grown_of_below HB1.out _⟩⟩
  case round =>
   obtain ⟨kept, junk, rest, z, cur, rfl, rfl, hgg, HA, HC, HW⟩ := hrel
   have hA := HA.out.2
   have hj0 : (0 : Int) ≤ ((kept.length + 1 + junk.length : Nat) : Int) := by omega
   have hi0 : (0 : Int) ≤ ((kept.length : Nat) : Int) := by omega
   cases rest with
   | cons x rest =>
    have hjn : ((kept.length + 1 + junk.length : Nat) : Int) < (n : Int) := by simp at hA; omega
    have hin : ((kept.length : Nat) : Int) < (n : Int) := by omega
    obtain ⟨t0, t1, t2, t3, t4⟩ := HC.out.2.2 (kept.length + 1 + junk.length) x (by
     rw [List.getElem?_append_right (by simp; omega)]
     simp only [List.length_append, List.length_cons]
     rw [show kept.length + 1 + junk.length - (kept.length + (junk.length + 1)) = 0 by omega]; rfl)
    have hb0 := HC.out.1
    have c0' : wr.cell? ⟨g, (kept.length + 1 + junk.length) * 5, none⟩ = some (.int .i64 x.f0) := (blk_cell hb0 _).trans t0
    have c1' : wr.cell? ⟨g, (kept.length + 1 + junk.length) * 5 + 1, none⟩ = some (.int .i64 x.f1) := (blk_cell hb0 _).trans t1
    have c2' : wr.cell? ⟨g, (kept.length + 1 + junk.length) * 5 + 2, none⟩ = some (.int .i64 x.f2) := (blk_cell hb0 _).trans t2
    have c3' : wr.cell? ⟨g, (kept.length + 1 + junk.length) * 5 + 3, none⟩ = some (.int .i64 x.f3) := (blk_cell hb0 _).trans t3
    have c4' : wr.cell? ⟨g, (kept.length + 1 + junk.length) * 5 + 4, none⟩ = some (.int .i64 x.f4) := (blk_cell hb0 _).trans t4
    clear t0 t1 t2 t3 t4 hA hb0
    generalize hj : kept.length + 1 + junk.length = j at *
    have HJ := Lib.hid hj
    clear hj
    have HP := Lib.hid (fun (W : World) (hW : wr.grownBy W (some g)) => HF.out W x (HW.out.trans hW))
    obtain ⟨z0, z1, z2, z3, z4⟩ := HC.out.2.2 kept.length z (by rw [List.append_assoc, List.getElem?_append_right (Nat.le_refl _), Nat.sub_self]; rfl)
    have HZ := Lib.hid z0
    have HZ1 := Lib.hid z1
    have HZ2 := Lib.hid z2
    have HZ3 := Lib.hid z3
    have HZ4 := Lib.hid z4
    clear z0 z1 z2 z3 z4
    cases hb : p x with
    | false =>
     rw [hb] at HP
     have HPX := Lib.hid hb
     clear hb
     go_wp2_with (go_at_call 97; refine (HP.out _ (World.grownBy_alloc wr _ _)).mono ?_; rintro e w2 ⟨rfl, hb2⟩; have hg2 := blk_below (blk_alloc HC.out.1 _) hb2; have hx2 := blk_below (blk_new wr _) hb2; have d0 : w2.cell? ⟨wr.heap.size, 0, none⟩ = some (.int .i64 x.f0) := (blk_cell hx2 0).trans rfl; have d1 : w2.cell? ⟨wr.heap.size, 1, none⟩ = some (.int .i64 x.f1) := (blk_cell hx2 1).trans rfl; have d2 : w2.cell? ⟨wr.heap.size, 2, none⟩ = some (.int .i64 x.f2) := (blk_cell hx2 2).trans rfl; have d3 : w2.cell? ⟨wr.heap.size, 3, none⟩ = some (.int .i64 x.f3) := (blk_cell hx2 3).trans rfl; have d4 : w2.cell? ⟨wr.heap.size, 4, none⟩ = some (.int .i64 x.f4) := (blk_cell hx2 4).trans rfl; have e0 : w2.cell? ⟨g, kept.length * 5, none⟩ = some (.int .i64 z.f0) := (blk_cell hg2 _).trans HZ.out; have e1 : w2.cell? ⟨g, kept.length * 5 + 1, none⟩ = some (.int .i64 z.f1) := (blk_cell hg2 _).trans HZ1.out; have e2 : w2.cell? ⟨g, kept.length * 5 + 2, none⟩ = some (.int .i64 z.f2) := (blk_cell hg2 _).trans HZ2.out; have e3 : w2.cell? ⟨g, kept.length * 5 + 3, none⟩ = some (.int .i64 z.f3) := (blk_cell hg2 _).trans HZ3.out; have e4 : w2.cell? ⟨g, kept.length * 5 + 4, none⟩ = some (.int .i64 z.f4) := (blk_cell hg2 _).trans HZ4.out; have f0 : w2.frozen? ⟨g, kept.length * 5, none⟩ = false := blk_frozen hg2 _; have f1 : w2.frozen? ⟨g, kept.length * 5 + 1, none⟩ = false := blk_frozen hg2 _; have f2 : w2.frozen? ⟨g, kept.length * 5 + 2, none⟩ = false := blk_frozen hg2 _; have f3 : w2.frozen? ⟨g, kept.length * 5 + 3, none⟩ = false := blk_frozen hg2 _; have f4 : w2.frozen? ⟨g, kept.length * 5 + 4, none⟩ = false := blk_frozen hg2 _; have HG2 := Lib.hid hg2; have HB2 := Lib.hid hb2; clear hg2 hx2 hb2)
     go_roundg rest.length
     case measure => simp at hgg; omega
     case rel =>
      obtain ⟨z', junk', hzj⟩ : ∃ z' junk', junk ++ [x] = z' :: junk' := by cases junk with | nil => exact ⟨x, [], rfl⟩ | cons a b => exact ⟨a, b ++ [x], rfl⟩
      have hzl := congrArg List.length hzj
      simp only [List.length_append, List.length_cons, List.length_nil] at hzl
      have hjj := HJ.out
      obtain ⟨cur', hbs, hcs, hts⟩ := TR.set_blk HG2.out HC.out.2.2 kept.length (by simp) x
      rw [set_mid, hzj] at hts
      have hgr := HW.out.trans (((World.grownBy_alloc wr _ (some g)).trans (grown_of_below HB2.out _)).trans (grown5 w2 g (kept.length * 5) (kept.length * 5 + 1) (kept.length * 5 + 2) (kept.length * 5 + 3) (kept.length * 5 + 4) (.int .i64 x.f0) (.int .i64 x.f1) (.int .i64 x.f2) (.int .i64 x.f3) (.int .i64 x.f4)))
      refine ⟨kept ++ [x], junk', rest, z', cur', ?_, ?_, Nat.le_refl _, ⟨?_, ?_⟩, ⟨hbs, hcs.trans HC.out.2.1, hts⟩, ⟨hgr⟩⟩
      ·exact congrArg (Value.int .i64) (by rw [List.length_append]; rfl)
      ·refine congrArg (Value.int .i64) ?_
       rw [List.length_append, ← hjj]
       simp only [List.length_cons, List.length_nil]
       omega
      ·rw [HA.out.1, List.filter_cons_of_pos (by simp [HPX.out]), List.append_assoc]; rfl
      ·have := HA.out.2; simp at this ⊢; omega
    | true =>
     rw [hb] at HP
     have HPX := Lib.hid hb
     clear hb
     go_wp2_with (go_at_call 97; refine (HP.out _ (World.grownBy_alloc wr _ _)).mono ?_; rintro e w2 ⟨rfl, hb2⟩; have HB2 := Lib.hid hb2; clear hb2)
     go_roundg rest.length
     case measure => simp at hgg; omega
     case rel =>
      have hjj := HJ.out
      refine ⟨kept, junk ++ [x], rest, z, cur, rfl, ?_, Nat.le_refl _, ⟨?_, ?_⟩, ⟨blk_below (blk_alloc HC.out.1 _) HB2.out, HC.out.2.1, by have := HC.out.2.2; simpa using this⟩, ⟨HW.out.trans ((World.grownBy_alloc wr _ (some g)).trans (grown_of_below HB2.out _))⟩⟩
      ·congr 1; simp; omega
      ·rw [HA.out.1, List.filter_cons_of_neg (by simp [HPX.out])]
      ·have := HA.out.2; simp at this ⊢; omega
   | nil =>
    have hA2 : n = kept.length + 1 + junk.length := by simpa using hA
    clear hA
    have hin : ((kept.length : Nat) : Int) < (n : Int) := by omega
    have hnn : ¬ ((kept.length + 1 + junk.length : Nat) : Int) < (n : Int) := by omega
    have HA2 := Lib.hid hA2
    generalize hj : kept.length + 1 + junk.length = j at *
    have HJ := Lib.hid hj
    clear hA2 hj
    have hlc := HL.out
    have hkc : ¬ c0 = kept.length := by omega
    have hkc2 : kept.length < c0 := by omega
    have hcl : ∀ ty, (Builtin.clear_ #[24] ty #[.slice (some ⟨g, kept.length * 5, none⟩) (n - kept.length) (c0 - kept.length)]).run Try.prog wr = .ok (.tuple #[]) (wr.setCells g (kept.length * 5) (List.replicate ((n - kept.length) * 5) (.int .i64 0))) := fun ty =>
     run_clear5 wr _ _ ty Try.underlying24 zero28 g (kept.length * 5) _ _ (by omega) (fun q hq => by
      rw [blk_cell HC.out.1, Array.getElem?_eq_getElem (by have := HC.out.2.1; omega)]; rfl) (fun q hq => blk_frozen HC.out.1 _)
    clear hlc
    go_wp2
    go_ret
    have hsz := HC.out.2.1
    obtain ⟨cur', b1, b2, b3⟩ := setCells_row (List.replicate ((n - kept.length) * 5) (Value.int .i64 0)) (kept.length * 5) wr cur HC.out.1 (by have := HL.out; simp; omega)
    obtain ⟨s1, s2, s3, s4⟩ := setCells_same g (List.replicate ((n - kept.length) * 5) (Value.int .i64 0)) (kept.length * 5) wr
    have hfk : fl = kept := by rw [HA.out.1]; simp
    rw [hfk]
    refine ⟨rfl, HW.out.trans ⟨s1, s2, s3, by rw [s4]; exact Nat.le_refl _, fun q _ hne => setCells_far _ _ q (fun e => hne (by rw [e]))⟩, cur', b1, by rw [b2]; exact hsz, fun q x hq => ?_⟩
    have hql := (List.getElem?_eq_some_iff.1 hq).1
    obtain ⟨r0, r1, r2, r3, r4⟩ := HC.out.2.2 q x (by rw [List.append_assoc, List.getElem?_append_left hql]; exact hq)
    have key : ∀ i u, i < kept.length * 5 → cur[i]? = some u → cur'[i]? = some u := by
     intro i u hi hu
     rw [← Array.getElem?_toList, b3, List.append_assoc, List.getElem?_append_left (by simp; omega), List.getElem?_take_of_lt hi]
     simpa using hu
    exact ⟨key _ _ (by omega) r0, key _ _ (by omega) r1, key _ _ (by omega) r2, key _ _ (by omega) r3, key _ _ (by omega) r4⟩
-- qpa_Test slices_Clone_api_Task param_Row
/-- Is a task in none of the jobs of a mode? -/
def modeOut (m : Int) (x : S31) : Bool := bits .and .i64 (shr .i64 x.f4 m) 1 == 0
set_option maxHeartbeats 4000000 in
theorem modesPred.calls (gm : Nat) (m : Int) (h0 : 0 ≤ m) (x : S31) (W : World) (hm : W.heap[gm]? = some (.cells #[.int .i64 m] 3 (0, 0))) :
  Calls Try.prog 97 #[.agg #[.int .i64 x.f0, .int .i64 x.f1, .int .i64 x.f2, .int .i64 x.f3, .int .i64 x.f4], .pointer (some ⟨gm, 0, none⟩)] W fun e W' => e = .returned (.bool (modeOut m x)) ∧ Below W.heap.size W W' := by
 have c0 : W.cell? ⟨gm, 0, none⟩ = some (.int .i64 m) := (blk_cell hm 0).trans rfl
 have hlt := blk_lt hm
 have hne : ¬ gm = W.heap.size := by omega
 have hne2 : ¬ W.heap.size = gm := by omega
 clear hm
 go_enter Try.func97, Try.ntmps97
 go_wp2
 go_ret
 exact ⟨rfl, below_alloc (Below.refl _ _) _⟩
set_option maxHeartbeats 4000000 in
set_option maxRecDepth 100000 in
theorem mdDelete_R (gm : Nat) (m : Int) (h0 : 0 ≤ m) {base : Nat} {ok : Nat → Prop} {v : Value} {xs : List S31} (w : World) (hR : Kd.R k31 31 w base ok v xs) (hm : w.heap[gm]? = some (.cells #[.int .i64 m] 3 (0, 0))) :
  Calls Try.prog 92 #[v, .func (.func 97) #[] #[.pointer (some ⟨gm, 0, none⟩)]] w fun e w' => ∃ v', e = .returned v' ∧ Kd.R k31 31 w' base ok v' (xs.filter fun x => !modeOut m x) ∧ w.grownBy w' v.ownBlock := by
 rcases TR_of_R hR with ⟨rfl, rfl⟩ | ⟨g, cap, cur, rfl, hb, hok, hg, hl, hmx, hs, ht⟩
 ·have HI := Lib.hid (mdIndex.calls (.pointer (some ⟨gm, 0, none⟩)) (modeOut m) none 0 ([] : List S31) w (Kd.C_nil _ _) (fun W x hW => modesPred.calls gm m h0 x W (blk_below hm hW)))
  clear hR hm
  go_enter Try.func92, Try.ntmps92
  go_wp2_with (go_at_call 75; refine HI.out.mono ?_; rintro e w1 ⟨rfl, hb1⟩; have HB1 := Lib.hid hb1; clear hb1)
  go_ret
  exact ⟨_, rfl, Kd.R_nil _ _ _ _ _, grown_of_below HB1.out _⟩
 ·have hgm : some gm ≠ some g := fun e => by
   cases e
   rw [hm] at hg
   injection hg with hg
   injection hg with _ hg
   exact absurd hg (by decide)
  refine (mdDelete.calls (.pointer (some ⟨gm, 0, none⟩)) (modeOut m) g cap cur xs w hg ht hs hl hmx (fun W x hW => modesPred.calls gm m h0 x W (blk_grown hm hW hgm))).mono ?_
  rintro e w' ⟨rfl, hgr, cur', h1, h2, h3⟩
  have := List.length_filter_le (fun x => !modeOut m x) xs
  exact ⟨_, rfl, R_of_TR hb hok h1 (by omega) hmx h2 h3, hgr⟩
/-- One mode's answer. -/
def modeOne (k : Nat) (l0 : List S31) (m : Int) : Option Int := (param_Row.f l0).bind fun b => if b = true then (slices_Clone_api_Task.f l0).bind fun t => qpa_Test.f k (t.filter fun x => !modeOut m x) else some 1
def qpa_Modes.f (k : Nat) (l0 : List S31) : Option (Int × Int × Int × Int) := (modeOne k l0 0).bind fun a => (modeOne k l0 1).bind fun b => (modeOne k l0 2).bind fun c => (modeOne k l0 3).bind fun d => some (a, b, c, d)
theorem modeOne_mono (l0 : List S31) (m : Int) (k : Nat) : LeO (modeOne k l0 m) (modeOne (k + 1) l0 m) := LeO.bind (LeO.refl _) (fun _ => LeO.ite (LeO.bind (LeO.refl _) (fun _ => qpa_Test.mono _ _)) (LeO.refl _))
theorem qpa_Modes.mono : ∀ a0 k, LeO (qpa_Modes.f k a0) (qpa_Modes.f (k + 1) a0) := fun a0 k => LeO.bind (modeOne_mono _ _ _) (fun _ => LeO.bind (modeOne_mono _ _ _) (fun _ => LeO.bind (modeOne_mono _ _ _) (fun _ => LeO.bind (modeOne_mono _ _ _) (fun _ => LeO.refl _))))
theorem modes_at {k : Nat} {l0 : List S31} {r1 r2 r3 r4 : Int} (h : qpa_Modes.f k l0 = some (r1, r2, r3, r4)) (j : Nat) (hj : j < 4) : ∃ v, modeOne k l0 (j : Int) = some v ∧ [r1, r2, r3, r4][j]? = some v := by
 unfold qpa_Modes.f at h
 obtain ⟨a, h1, h⟩ := Option.bind_eq_some_iff.1 h
 obtain ⟨b, h2, h⟩ := Option.bind_eq_some_iff.1 h
 obtain ⟨c, h3, h⟩ := Option.bind_eq_some_iff.1 h
 obtain ⟨d, h4, h⟩ := Option.bind_eq_some_iff.1 h
 simp only [Option.some.injEq, Prod.mk.injEq] at h
 obtain ⟨rfl, rfl, rfl, rfl⟩ := h
 match j, hj with
 | 0, _ => exact ⟨_, h1, rfl⟩
 | 1, _ => exact ⟨_, h2, rfl⟩
 | 2, _ => exact ⟨_, h3, rfl⟩
 | 3, _ => exact ⟨_, h4, rfl⟩
def qpa_Modes.T7 : Bool × List (List Nat × List Nat) := (true, [([], []), ([], []), ([1], [1]), ([], []), ([2, 3, 2], [2, 3]), ([4, 4], [4]), ([0, 0, 1, 2, 3, 4, 5], [0]), ([6, 5, 5, 0, 1, 2, 3, 4, 5], [5, 6])])
def qpa_Modes.B7 : List Nat := [0, 0, 2, 0, 14, 30, 63, 127]
theorem qpa_Modes.tab7 : rtab .any (opsOf Try.f68 7) = qpa_Modes.T7 := by kernel_rfl
theorem qpa_Modes.bits7 : waitsOk qpa_Modes.T7.2 qpa_Modes.B7 = true := by kernel_rfl
set_option maxHeartbeats 8000000 in
set_option maxRecDepth 100000 in
theorem qpa_Modes.calls (k : Nat) (A0 : Option Addr) (c0 : Nat) (l0 : List S31) (r1 : Int) (r2 : Int) (r3 : Int) (r4 : Int) (w : World) (hr0 : Kd.C k31 w A0 l0.length l0) (hc0 : l0.length ≤ c0) (h : qpa_Modes.f k l0 = some (r1, r2, r3, r4)) :
  Calls Try.prog 68 #[.slice A0 l0.length c0] w fun e w' => e = .returned (.agg #[.int .i64 r1, .int .i64 r2, .int .i64 r3, .int .i64 r4]) ∧ Below w.heap.size w w' := by
 have hu51 := Try.underlying102
 have HR0 := Aside0.mk hr0
 have HC0 := Aside0.mk hc0
 have HAT := Aside0.mk (modes_at h)
 clear hr0 hc0 h
 have HB := Aside0.mk (Below.refl w.heap.size w)
 generalize hrs : [r1, r2, r3, r4] = rs at HAT
 have HRS := Aside0.mk hrs
 clear hrs
 go_enter Try.func68, Try.ntmps68
 go_wp2_with (first | ((with_reducible refine gate_dst (N := 2) rfl ?_); refine box_event ?hg (N := 2) ?hd (cs := #[.int .i64 0, .int .i64 0, .int .i64 0, .int .i64 0]) (t := 102) ?hr ?_; (case hd => rfl); (case hg => rfl); (case hr => first | (go_simp; done) | (go_simp; rfl)); intro gr hg w2 hbox hb; have n0_ := Aside0.mk (below_step (by exact HB.out) hb); have n1_ := Aside0.mk hbox; have GWR := Aside0.mk (show w.heap.size ≤ gr by rw [hg]; exact Nat.le_refl _); clear HB; have HB := n0_; have BKR := n1_; clear n0_ n1_; clear hb hbox hg) | ((with_reducible refine gate_dst (N := 3) rfl ?_); refine box_event ?hg (N := 3) ?hd (cs := #[.int .i64 0, .int .i64 0, .int .i64 0, .int .i64 0]) (t := 102) ?hr ?_; (case hd => rfl); (case hg => rfl); (case hr => first | (go_simp; done) | (go_simp; rfl)); intro go hg w3 hbox hb; have n0_ := Aside0.mk (below_step HB.out hb); have n1_ := Aside0.mk hbox; have n2_ := Aside0.mk (blk_below BKR.out hb); have GWO := Aside0.mk (show w.heap.size ≤ go by rw [hg]; exact below_size HB.out); have NRO := Aside0.mk (show gr ≠ go by rw [hg]; exact Nat.ne_of_lt (blk_lt BKR.out)); clear HB BKR; have HB := n0_; have BKO := n1_; have BKR := n2_; clear n0_ n1_ n2_; clear hb hbox hg))
 go_loopg [5] 4 (fun kq v5 w' => ∃ (j : Nat) (xs : List Int), v5 = .int .i64 (j : Int) ∧ j ≤ 4 ∧ 4 - j ≤ kq ∧ Aside0 (xs.length = 4 ∧ ∀ i, i < j → xs[i]? = rs[i]?) ∧ Aside0 (w'.heap[gr]? = some (.cells #[.int .i64 0, .int .i64 0, .int .i64 0, .int .i64 0] 102 (0, 0))) ∧ Aside0 (w'.heap[go]? = some (.cells (ints xs) 102 (0, 0))) ∧ Aside0 (Below w.heap.size w w'))
 case atStart => exact ⟨0, [0, 0, 0, 0], rfl, by omega, by omega, ⟨rfl, fun i hi => absurd hi (Nat.not_lt_zero _)⟩, BKR, BKO, HB⟩
 case round =>
  clear BKR BKO HB
  obtain ⟨j, xs, rfl, hj, hgk, HX, BKR, BKO, HB⟩ := hrel
  by_cases hj4 : j < 4
  ·obtain ⟨v, hv, hrv⟩ := HAT.out j hj4
   have HV := Aside0.mk hrv
   clear hrv
   have p0 : (0 : Int) ≤ (j : Int) := by omega
   have q0 : (j : Int) < 4 := by omega
   obtain ⟨xv, hoc⟩ : ∃ xv, wr.cell? ⟨go, j, none⟩ = some (.int .i64 xv) := ⟨_, ints_at BKO.out (by rw [HX.out.1]; exact hj4)⟩
   have hof := blk_frozen BKO.out j
   unfold modeOne at hv
   obtain ⟨b, hrow, hv⟩ := Option.bind_eq_some_iff.1 hv
   have HROW := Aside0.mk hrow
   clear hrow
   have hxl : (xs.set j 1).length = 4 ∧ ∀ i, i < j → (xs.set j 1)[i]? = rs[i]? := ⟨by rw [List.length_set]; exact HX.out.1, fun i hi => by rw [List.getElem?_set_ne (by omega)]; exact HX.out.2 i hi⟩
   have HX1 := Aside0.mk hxl
   have hvl : ∀ v', rs[j]? = some v' → (xs.set j v').length = 4 ∧ ∀ i, i < j + 1 → (xs.set j v')[i]? = rs[i]? := fun v' hv' => ⟨by rw [List.length_set]; exact HX.out.1, fun i hi => by
    by_cases e : j = i
    ·subst e; rw [List.getElem?_set_self (by rw [HX.out.1]; exact hj4), hv']
    ·rw [List.getElem?_set_ne e]; exact HX.out.2 i (by omega)⟩
   have HX2 := Aside0.mk hvl
   clear hxl hvl
   cases b with
   | false =>
    rw [if_neg (by decide)] at hv
    obtain rfl := Option.some.inj hv
    clear hv
    go_wp2_with (first | ((with_reducible refine gate_dst (N := 4) rfl ?_); refine box_event ?hg (N := 4) ?hd (cs := #[.int .i64 0]) (t := 3) ?hr ?_; (case hd => rfl); (case hg => rfl); (case hr => first | (go_simp; done) | (go_simp; rfl)); intro gm hg w3 hbox hb; have n0_ := Aside0.mk (below_step HB.out hb); have n1_ := Aside0.mk hbox; have n2_ := Aside0.mk (blk_below BKR.out hb); have n3_ := Aside0.mk (blk_below BKO.out hb); have NRM := Aside0.mk (show gr ≠ gm by rw [hg]; exact Nat.ne_of_lt (blk_lt BKR.out)); have NOM := Aside0.mk (show go ≠ gm by rw [hg]; exact Nat.ne_of_lt (blk_lt BKO.out)); have GWM := Aside0.mk (show w.heap.size ≤ gm by rw [hg]; exact below_size HB.out); clear HB BKO BKR; have HB := n0_; have BKM := n1_; have BKR := n2_; have BKO := n3_; have hmc : w3.cell? ⟨gm, 0, none⟩ = some (.int .i64 0) := (blk_cell hbox 0).trans rfl; have hmf := blk_frozen hbox 0; have hoc3 : w3.cell? ⟨go, j, none⟩ = some (.int .i64 xv) := (hb.cell (p := ⟨go, j, none⟩) (World.block_lt_of_cell? wr _ hoc)).trans hoc; have hof3 := blk_frozen BKO.out j; have hne := NOM.out; have hne2 := Ne.symm NOM.out; clear n0_ n1_ n2_ n3_; clear hb hbox hg hoc hof) | (go_at_call 31; (with_reducible refine (param_Row.calls _ _ l0 false _ ?side1 ?side2 HROW.out).mono ?_); (case side1 => exact Kd.C_below HR0.out (below_set (below_set HB.out GWM.out) GWO.out)); (case side2 => exact HC0.out); rintro e w4 ⟨rfl, hb⟩; have n0_ := Aside0.mk (blk_below (blk_far (p := ⟨go, j, none⟩) (blk_put BKM.out 0 (.int .i64 (j : Int)) rfl) hne2 (.int .i64 1)) hb); have n1_ := Aside0.mk (blk_below (ints_set (blk_far (p := ⟨gm, 0, none⟩) BKO.out hne (.int .i64 (j : Int))) j 1) hb); have n2_ := Aside0.mk (blk_below (blk_far (p := ⟨go, j, none⟩) (blk_far (p := ⟨gm, 0, none⟩) BKR.out NRM.out (.int .i64 (j : Int))) NRO.out (.int .i64 1)) hb); have n3_ := Aside0.mk (below_step (below_set (below_set HB.out GWM.out) GWO.out) hb); clear BKM BKO BKR HB; have BKM := n0_; have BKO := n1_; have BKR := n2_; have HB := n3_; clear n0_ n1_ n2_ n3_ hb hmc hmf hoc3 hof3))
    go_roundg (4 - (j + 1))
    case measure => omega
    case rel => exact ⟨j + 1, xs.set j 1, by go_num, by omega, Nat.le_refl _, ⟨HX2.out _ HV.out⟩, BKR, BKO, HB⟩
   | true =>
    rw [if_pos rfl] at hv
    obtain ⟨t, hcl, hts⟩ := Option.bind_eq_some_iff.1 hv
    have HCL := Aside0.mk hcl
    have HTS := Aside0.mk hts
    clear hv hcl hts
    go_wp2_with (first | ((with_reducible refine gate_dst (N := 4) rfl ?_); refine box_event ?hg (N := 4) ?hd (cs := #[.int .i64 0]) (t := 3) ?hr ?_; (case hd => rfl); (case hg => rfl); (case hr => first | (go_simp; done) | (go_simp; rfl)); intro gm hg w3 hbox hb; have n0_ := Aside0.mk (below_step HB.out hb); have n1_ := Aside0.mk hbox; have n2_ := Aside0.mk (blk_below BKR.out hb); have n3_ := Aside0.mk (blk_below BKO.out hb); have NRM := Aside0.mk (show gr ≠ gm by rw [hg]; exact Nat.ne_of_lt (blk_lt BKR.out)); have NOM := Aside0.mk (show go ≠ gm by rw [hg]; exact Nat.ne_of_lt (blk_lt BKO.out)); have GWM := Aside0.mk (show w.heap.size ≤ gm by rw [hg]; exact below_size HB.out); clear HB BKO BKR; have HB := n0_; have BKM := n1_; have BKR := n2_; have BKO := n3_; have hmc : w3.cell? ⟨gm, 0, none⟩ = some (.int .i64 0) := (blk_cell hbox 0).trans rfl; have hmf := blk_frozen hbox 0; have hoc3 : w3.cell? ⟨go, j, none⟩ = some (.int .i64 xv) := (hb.cell (p := ⟨go, j, none⟩) (World.block_lt_of_cell? wr _ hoc)).trans hoc; have hof3 := blk_frozen BKO.out j; have hne := NOM.out; have hne2 := Ne.symm NOM.out; clear n0_ n1_ n2_ n3_; clear hb hbox hg hoc hof) | (go_at_call 31; (with_reducible refine (param_Row.calls _ _ l0 true _ ?side1 ?side2 HROW.out).mono ?_); (case side1 => exact Kd.C_below HR0.out (below_set (below_set HB.out GWM.out) GWO.out)); (case side2 => exact HC0.out); rintro e w4 ⟨rfl, hb⟩; have n0_ := Aside0.mk (blk_below (blk_far (p := ⟨go, j, none⟩) (blk_put BKM.out 0 (.int .i64 (j : Int)) rfl) hne2 (.int .i64 1)) hb); have n1_ := Aside0.mk (blk_below (ints_set (blk_far (p := ⟨gm, 0, none⟩) BKO.out hne (.int .i64 (j : Int))) j 1) hb); have n2_ := Aside0.mk (blk_below (blk_far (p := ⟨go, j, none⟩) (blk_far (p := ⟨gm, 0, none⟩) BKR.out NRM.out (.int .i64 (j : Int))) NRO.out (.int .i64 1)) hb); have n3_ := Aside0.mk (below_step (below_set (below_set HB.out GWM.out) GWO.out) hb); clear BKM BKO BKR HB; have BKM := n0_; have BKO := n1_; have BKR := n2_; have HB := n3_; clear n0_ n1_ n2_ n3_ hb hmc hmf hoc3 hof3))
    have n0_ := Aside0.mk (blk_drew BKM.out)
    have n1_ := Aside0.mk (blk_drew BKO.out)
    have n2_ := Aside0.mk (blk_drew BKR.out)
    have n3_ := Aside0.mk (below_drew1 HB.out)
    clear BKM BKO BKR HB
    have BKM := n0_
    have BKO := n1_
    have BKR := n2_
    have HB := n3_
    clear n0_ n1_ n2_ n3_
    refine start_ (n := 8) (S := fun w' => w'.cell? ⟨gm, 0, none⟩ = some (.int .i64 (j : Int))) (ds := []) #[false, false, false, false, false, false, false, false] (by kernel_rfl) rfl rfl ((blk_cell BKM.out 0).trans rfl) (fun hHeld => ?_); refine with_tabW qpa_Modes.tab7 qpa_Modes.bits7 (fun HT_ HW_ => ?_)
    generalize w4.drew = w13 at BKM BKO BKR HB hHeld ⊢
    refine take_ (i := 0) (N := some 12) (v := ?_) (a' := ?_) #[true, false, false, false, false, false, false, false] rfl rfl (take_ofW HT_.out HW_.out (by kernel_rfl)) (fun _ _ _ h => h) (Or.inl ⟨by rfl, ?_⟩) hHeld ?_ ?_
    rotate_left; (rintro w' s0; go_simp; with_reducible rfl); rotate_left; (simp only [Act.put, List.setIfInBounds_toArray, List.set_cons_zero, List.set_cons_succ, i64_w, i32_w]; rfl)
    refine pure_ (i := 1) (N := some 13) (v := ?_) (a' := ?_) #[true, true, false, false, false, false, false, false] rfl rfl (any_of HT_.out (by kernel_rfl)) (fun _ _ _ h => h) (Or.inl ⟨by rfl, ?_⟩) ?_ ?_
    rotate_left; (intro w'; go_simp; with_reducible rfl); rotate_left; (simp only [Act.put, List.setIfInBounds_toArray, List.set_cons_zero, List.set_cons_succ, i64_w, i32_w]; rfl)
    refine pure_ (i := 3) (N := some 15) (v := ?_) (a' := ?_) #[true, true, false, true, false, false, false, false] rfl rfl (any_of HT_.out (by kernel_rfl)) (fun _ _ _ h => h) (Or.inl ⟨by rfl, ?_⟩) ?_ ?_
    rotate_left; (intro w'; go_simp; with_reducible rfl); rotate_left; (simp only [Act.put, List.setIfInBounds_toArray, List.set_cons_zero, List.set_cons_succ, i64_w, i32_w]; rfl)
    refine one_ (i := 2) (N := some 14) #[true, true, true, true, false, false, false, false] rfl rfl (one_of HT_.out (by kernel_rfl)) (by decide) (fun K hK => ?_)
    refine goes_ Try.func96 (by kernel_rfl) rfl #[.slice A0 l0.length c0] (by rfl) rfl rfl (by (try simp only [List.map_toArray, List.map_cons, List.map_nil]); first | done | rfl) ?_
    with_reducible refine (slices_Clone_api_Task.calls _ _ l0 t _ ?side1 ?side2 HCL.out).mono ?_
    (case side1 => exact Kd.C_below HR0.out HB.out)
    (case side2 => exact HC0.out)
    rintro e w14 ⟨v14, rfl, ho0, hb⟩
    refine ⟨_, rfl, ?_⟩
    have n0_ := Aside0.mk (Kd.R_lower ho0 (below_size HB.out))
    have n1_ := Aside0.mk (blk_below BKM.out hb)
    have n2_ := Aside0.mk (blk_below BKO.out hb)
    have n3_ := Aside0.mk (blk_below BKR.out hb)
    have n4_ := Aside0.mk (below_step HB.out hb)
    clear BKM BKO BKR HB
    have HO := n0_
    have BKM := n1_
    have BKO := n2_
    have BKR := n3_
    have HB := n4_
    clear n0_ n1_ n2_ n3_ n4_ hb ho0
    refine hK.out _ _ ((blk_cell BKM.out 0).trans rfl) (fun hHeld => ?_)
    clear hK K
    refine norm_ (a' := ?_) ?_ ?_
    rotate_left; (show Act.put _ (some 14) _ = _; simp only [Act.put, List.setIfInBounds_toArray, List.set_cons_zero, List.set_cons_succ, i64_w, i32_w]; rfl)
    refine one_ (i := 4) (N := some 16) #[true, true, true, true, true, false, false, false] rfl rfl (one_of HT_.out (by kernel_rfl)) (by decide) (fun K hK => ?_)
    refine goes_ Try.func92 (by kernel_rfl) rfl #[v14, .func (.func 97) #[] #[.pointer (some ⟨gm, 0, none⟩)]] (by rfl) rfl rfl (by (try simp only [List.map_toArray, List.map_cons, List.map_nil]); first | done | rfl) ?_
    refine (mdDelete_R gm j p0 w14 HO.out BKM.out).mono ?_
    rintro e w16 ⟨v16, rfl, ho0, hgr⟩
    refine ⟨_, rfl, ?_⟩
    have n1_ := Aside0.mk (blk_grown BKM.out hgr (Kd.R_ne HO.out BKM.out (by decide)))
    have n2_ := Aside0.mk (blk_grown BKO.out hgr (Kd.R_ne HO.out BKO.out (by decide)))
    have n3_ := Aside0.mk (blk_grown BKR.out hgr (Kd.R_ne HO.out BKR.out (by decide)))
    have n4_ := Aside0.mk (HB.out.grown hgr (below_size HB.out) (fun r e => Kd.R_base HO.out r e))
    clear BKM BKO BKR HB HO
    have HO := Aside0.mk ho0
    have BKM := n1_
    have BKO := n2_
    have BKR := n3_
    have HB := n4_
    clear n1_ n2_ n3_ n4_ hgr ho0
    obtain ⟨Ao, co, eo⟩ := Kd.R_slice HO.out
    subst eo
    refine hK.out _ _ ((blk_cell BKM.out 0).trans rfl) (fun hHeld => ?_)
    clear hK K
    refine norm_ (a' := ?_) ?_ ?_
    rotate_left; (show Act.put _ (some 16) _ = _; simp only [Act.put, List.setIfInBounds_toArray, List.set_cons_zero, List.set_cons_succ, i64_w, i32_w]; rfl)
    refine one_ (i := 5) (N := some 17) #[true, true, true, true, true, true, false, false] rfl rfl (one_of HT_.out (by kernel_rfl)) (by decide) (fun K hK => ?_)
    refine goes_ Try.func44 (by kernel_rfl) rfl #[.slice Ao (t.filter fun x => !modeOut j x).length co] (by rfl) rfl rfl (by (try simp only [List.map_toArray, List.map_cons, List.map_nil]); first | done | rfl) ?_
    with_reducible refine (qpa_Test.calls k _ _ (t.filter fun x => !modeOut j x) v _ ?side1 ?side2 HTS.out).mono ?_
    (case side1 => exact (Kd.R_reads' HO.out).2.2)
    (case side2 => exact (Kd.R_reads' HO.out).2.1)
    rintro e w18 ⟨rfl, hb⟩
    refine ⟨_, rfl, ?_⟩
    have n1_ := Aside0.mk (blk_below BKM.out hb)
    have n2_ := Aside0.mk (blk_below BKO.out hb)
    have n3_ := Aside0.mk (blk_below BKR.out hb)
    have n4_ := Aside0.mk (below_step HB.out hb)
    clear BKM BKO BKR HB HO
    have BKM := n1_
    have BKO := n2_
    have BKR := n3_
    have HB := n4_
    clear n1_ n2_ n3_ n4_ hb
    refine hK.out _ _ ((blk_cell BKM.out 0).trans rfl) (fun hHeld => ?_)
    clear hK K
    refine norm_ (a' := ?_) ?_ ?_
    rotate_left; (show Act.put _ (some 17) _ = _; simp only [Act.put, List.setIfInBounds_toArray, List.set_cons_zero, List.set_cons_succ, i64_w, i32_w]; rfl)
    refine pure_ (i := 6) (N := some 18) (v := ?_) (a' := ?_) #[true, true, true, true, true, true, true, false] rfl rfl (any_of HT_.out (by kernel_rfl)) (fun _ _ _ h => h) (Or.inl ⟨by rfl, ?_⟩) ?_ ?_
    rotate_left; (intro w'; go_simp; with_reducible rfl); rotate_left; (simp only [Act.put, List.setIfInBounds_toArray, List.set_cons_zero, List.set_cons_succ, i64_w, i32_w]; rfl)
    refine one_ (i := 7) (N := none) #[true, true, true, true, true, true, true, true] rfl rfl (one_of HT_.out (by kernel_rfl)) (by decide) (fun K hK => ?_)
    have hs19 : ∃ u, w18.cell? ⟨go, j, none⟩ = some (.int .i64 u) := ⟨_, ints_at BKO.out (by rw [HX1.out.1]; exact hj4)⟩
    obtain ⟨u19, hs19⟩ := hs19
    have hfs19 := blk_frozen BKO.out j
    refine skip_ (w1 := ?_) (by rfl) rfl ?_ ?_
    rotate_left
    ·go_simp
     rfl
    refine hK.out _ _ (by rw [cell_far (p := ⟨go, j, none⟩) (a := ⟨gm, 0, none⟩) hne2]; exact (blk_cell BKM.out 0).trans rfl) (fun hHeld => ?_)
    clear hK K
    refine done_ (done_of HT_.out (by kernel_rfl)) ?_
    go_wp2
    go_roundg (4 - (j + 1))
    case measure => omega
    case rel =>
     have hbo := ints_set BKO.out j v
     rw [List.set_set] at hbo
     exact ⟨j + 1, xs.set j v, by go_num, by omega, Nat.le_refl _, ⟨HX2.out _ HV.out⟩, ⟨blk_far (p := ⟨go, j, none⟩) BKR.out NRO.out _⟩, ⟨hbo⟩, ⟨below_set HB.out GWO.out⟩⟩
  ·have hj5 : j = 4 := by omega
   subst hj5
   have hxs : xs = [r1, r2, r3, r4] := by
    rw [HRS.out]
    apply List.ext_getElem?
    intro i
    by_cases hi : i < 4
    ·exact HX.out.2 i hi
    ·rw [List.getElem?_eq_none (by rw [HX.out.1]; omega), ← HRS.out, List.getElem?_eq_none (by simp; omega)]
   subst hxs
   have b0 : wr.heap[go]? = some (.cells #[.int .i64 r1, .int .i64 r2, .int .i64 r3, .int .i64 r4] 102 (0, 0)) := BKO.out
   have c4b0 : decide (((4 : Nat) : Int) < 4) = false := by decide
   have hcz24_0 : wr.cell? ⟨go, 0, none⟩ = some (.int .i64 r1) := (blk_cell b0 0).trans rfl
   have hcz24_1 : wr.cell? ⟨go, 1, none⟩ = some (.int .i64 r2) := (blk_cell b0 1).trans rfl
   have hcz24_2 : wr.cell? ⟨go, 2, none⟩ = some (.int .i64 r3) := (blk_cell b0 2).trans rfl
   have hcz24_3 : wr.cell? ⟨go, 3, none⟩ = some (.int .i64 r4) := (blk_cell b0 3).trans rfl
   have hcz25_0 : wr.cell? ⟨gr, 0, none⟩ = some (.int .i64 0) := (blk_cell BKR.out 0).trans rfl
   have hcz25_1 : wr.cell? ⟨gr, 1, none⟩ = some (.int .i64 0) := (blk_cell BKR.out 1).trans rfl
   have hcz25_2 : wr.cell? ⟨gr, 2, none⟩ = some (.int .i64 0) := (blk_cell BKR.out 2).trans rfl
   have hcz25_3 : wr.cell? ⟨gr, 3, none⟩ = some (.int .i64 0) := (blk_cell BKR.out 3).trans rfl
   have hfz25_0 := blk_frozen BKR.out 0
   have hfz25_1 := blk_frozen BKR.out 1
   have hfz25_2 := blk_frozen BKR.out 2
   have hfz25_3 := blk_frozen BKR.out 3
   clear b0
   go_wp2
   refine bodyPost_ret (results_cell_row rfl _ _ gr 102 #[.int .i64 r1, .int .i64 r2, .int .i64 r3, .int .i64 r4] (0, 0) _ rfl (by refine blk_put (cs := #[.int .i64 r1, .int .i64 r2, .int .i64 r3, .int .i64 0]) ?_ 3 _ rfl; refine blk_put (cs := #[.int .i64 r1, .int .i64 r2, .int .i64 0, .int .i64 0]) ?_ 2 _ rfl; refine blk_put (cs := #[.int .i64 r1, .int .i64 0, .int .i64 0, .int .i64 0]) ?_ 1 _ rfl; refine blk_put (cs := #[.int .i64 0, .int .i64 0, .int .i64 0, .int .i64 0]) ?_ 0 _ rfl; exact BKR.out) Try.underlying102 rfl (by kernel_rfl)) rfl ?_
   exact ⟨rfl, below_set (below_set (below_set (below_set HB.out GWR.out) GWR.out) GWR.out) GWR.out⟩

/-! ### judge_First_1: function 71 -/
def judge_First_1.f (a0 : Int) : Option (Bool) := some (a0 != 0)
set_option maxHeartbeats 8000000 in
set_option maxRecDepth 100000 in
theorem judge_First_1.calls (a0 : Int) (r : Bool) (w : World) (h : judge_First_1.f a0 = some r) :
  Calls Try.prog 71 #[.int .i64 a0] w fun e w' => e = .returned (.bool r) ∧ Drawn0 w w' := by
 have H : (some (a0 != 0)) = some r := h
 clear h
 obtain rfl := Option.some.inj H
 go_enter Try.func71, Try.ntmps71
 go_wp2
 go_ret
 exact ⟨by first | rfl | (simp; done) | (simp only [i64_w]; done) | (simp [*]; done), by repeat (first | exact Drawn0.refl _ | apply Drawn0.step)⟩

/-! ### judge_First: function 43 (by hand) -/
-- table_Check table_Tasks qpa_Modes judge_First_1
-- table_Check table_Tasks qpa_Modes judge_First_1
/-- The first number that is not 0. -/
def nzIdx (xs : List Int) : Int := match xs.findIdx? (fun x => x != 0) with | some i => (i : Int) | none => -1
theorem nzIdx_some {xs : List Int} {k : Nat} (hk : k < xs.length) (hb : ∀ (j : Nat) (x : Int), j < k → xs[j]? = some x → x = 0) (h : xs[k] ≠ 0) : nzIdx xs = k := by
 have e : xs.findIdx? (fun x => x != 0) = some k := by
  rw [List.findIdx?_eq_some_iff_getElem]
  refine ⟨hk, by simpa using h, fun j hj => ?_⟩
  have := hb j _ hj (List.getElem?_eq_getElem (by omega))
  simpa using this
 unfold nzIdx; rw [e]
theorem nzIdx_none {xs : List Int} (hb : ∀ (j : Nat) (x : Int), xs[j]? = some x → x = 0) : nzIdx xs = -1 := by
 have e : xs.findIdx? (fun x => x != 0) = none := by
  rw [List.findIdx?_eq_none_iff]
  intro x hx
  obtain ⟨j, hj, rfl⟩ := List.getElem_of_mem hx
  have := hb j _ (List.getElem?_eq_getElem hj)
  simpa using this
 unfold nzIdx; rw [e]
set_option maxHeartbeats 4000000 in
set_option maxRecDepth 100000 in
theorem nzIndex.calls (g T : Nat) (xs : List Int) (n : Nat) (hn : xs.length = n) (w : World) (hg : w.heap[g]? = some (.cells (ints xs) T (0, 0))) (hm : xs.length ≤ 1000) :
  Calls Try.prog 70 #[.slice (some ⟨g, 0, none⟩) n n, .func (.func 71) #[] #[]] w fun e w' => e = .returned (.int .i64 (nzIdx xs)) ∧ Below w.heap.size w w' := by
 subst hn
 have HG := Aside0.mk hg
 clear hg
 go_enter Try.func70, Try.ntmps70
 go_wp2
 go_loopw [5, 8] (fun _ v8 wr => ∃ k : Nat, k ≤ xs.length ∧ v8 = .int .i64 k ∧ Aside0 (∀ j x, j < k → xs[j]? = some x → x = 0) ∧ Aside0 (Below w.heap.size w wr)) (fun _ v8 _ => xs.length - (intOf v8).toNat)
 case atStart => exact ⟨0, Nat.zero_le _, rfl, ⟨fun j x hj => absurd hj (Nat.not_lt_zero _)⟩, ⟨Below.refl _ _⟩⟩
 case round =>
  obtain ⟨k, hk, rfl, HP, HB⟩ := hrel
  by_cases hlt : k < xs.length
  ·have p0 : (0 : Int) ≤ (k : Int) := by omega
   have q0 : (k : Int) < (xs.length : Int) := by omega
   obtain ⟨x, hx⟩ : ∃ x, xs[k] = x := ⟨_, rfl⟩
   have hc : wr.cell? ⟨g, k, none⟩ = some (.int .i64 x) := (HB.out.cell (World.block_lt_of_cell? w _ (ints_at HG.out hlt))).trans (by rw [ints_at HG.out hlt, hx])
   have HX := Aside0.mk hx
   clear hx
   by_cases h0 : x = 0
   ·have hb0 : (x != 0) = false := bne_eq_false_iff_eq.mpr h0
    have H0 := Aside0.mk h0
    clear h0
    go_wp2_with (go_at_call 71; refine (judge_First_1.calls x false wr (by unfold judge_First_1.f; rw [hb0])).mono ?_; rintro e w1 ⟨rfl, hd⟩; have HB1 := Aside0.mk (below_step HB.out hd.below); clear hd)
    go_roundw
    case rel => exact ⟨k + 1, by omega, by go_num, ⟨fun j y hj hy => by
     rcases Nat.lt_succ_iff_lt_or_eq.1 hj with h | rfl
     ·exact HP.out j y h hy
     ·obtain ⟨_, e⟩ := List.getElem?_eq_some_iff.1 hy
      rw [← e, HX.out]; exact H0.out⟩, HB1⟩
    case measure => simp [intOf]; omega
   ·have hb0 : (x != 0) = true := bne_iff_ne.mpr h0
    have H0 := Aside0.mk h0
    clear h0
    go_wp2_with (go_at_call 71; refine (judge_First_1.calls x true wr (by unfold judge_First_1.f; rw [hb0])).mono ?_; rintro e w1 ⟨rfl, hd⟩; have HB1 := Aside0.mk (below_step HB.out hd.below); clear hd)
    go_ret
    exact ⟨by rw [nzIdx_some hlt HP.out (by rw [HX.out]; exact H0.out)]; rfl, HB1.out⟩
  ·obtain rfl : k = xs.length := by omega
   go_wp2
   go_ret
   exact ⟨by rw [nzIdx_none (fun j x hx => HP.out j x (List.getElem?_eq_some_iff.1 hx).1 hx)]; rfl, HB.out⟩
/-- The first mode that does not fit, and its answer. -/
def firstM (xs : List Int) : Int × Int := if nzIdx xs < 0 then (-1, 0) else (nzIdx xs, xs.getD (nzIdx xs).toNat 0)
def judge_First.f (k : Nat) (l0_0 : List S60) (a0_1 : Int) : Option (Int × Int) := (table_Check.f l0_0 a0_1).bind fun b => if b = true then (table_Tasks.f k l0_0 a0_1).bind fun t => (qpa_Modes.f k t).bind fun q => some (firstM [q.1, q.2.1, q.2.2.1, q.2.2.2]) else some (-1, 1)
theorem judge_First.mono : ∀ a0 a1 k, LeO (judge_First.f k a0 a1) (judge_First.f (k + 1) a0 a1) := fun a0 a1 k => LeO.bind (LeO.refl _) (fun _ => LeO.ite (LeO.bind (table_Tasks.mono _ _ k) (fun _ => LeO.bind (qpa_Modes.mono _ k) (fun _ => LeO.refl _))) (LeO.refl _))
theorem nzIdx_lt {xs : List Int} (h : ¬ nzIdx xs < 0) : (nzIdx xs).toNat < xs.length ∧ nzIdx xs = ((nzIdx xs).toNat : Int) := by
 unfold nzIdx at h ⊢
 cases e : xs.findIdx? (fun x => x != 0) with
 | none => rw [e] at h; exact absurd (by decide) h
 | some i =>
  rw [List.findIdx?_eq_some_iff_getElem] at e
  obtain ⟨hi, _⟩ := e
  exact ⟨by simpa using hi, by simp⟩
set_option maxHeartbeats 8000000 in
set_option maxRecDepth 100000 in
theorem judge_First.calls (k : Nat) (A0_0 : Option Addr) (c0_0 : Nat) (l0_0 : List S60) (a0_1 : Int) (r1 : Int) (r2 : Int) (w : World) (hr0_0 : Kd.C k60 w A0_0 l0_0.length l0_0) (hc0_0 : l0_0.length ≤ c0_0) (h : judge_First.f k l0_0 a0_1 = some (r1, r2)) :
  Calls Try.prog 43 #[.agg #[.slice A0_0 l0_0.length c0_0, .int .i64 a0_1]] w fun e w' => e = .returned (.tuple #[.int .i64 r1, .int .i64 r2]) ∧ Below w.heap.size w w' := by
 have hu46 := Try.underlying46
 have hu102 := Try.underlying102
 unfold judge_First.f at h
 obtain ⟨b, hb0, h1⟩ := Option.bind_eq_some_iff.mp h
 have HBC := Aside0.mk hb0
 have HR0 := Aside0.mk hr0_0
 have HC0 := Aside0.mk hc0_0
 have HB := Aside0.mk (Below.refl w.heap.size w)
 clear h hb0 hr0_0 hc0_0
 cases b with
 | false =>
  rw [if_neg (by decide)] at h1
  injection h1 with h1
  injection h1 with h2 h3
  have H2 := Aside0.mk h2
  have H3 := Aside0.mk h3
  clear h2 h3
  go_enter Try.func43, Try.ntmps43
  go_wp2_with (first
   | ((with_reducible refine gate_dst (N := 1) rfl ?_); refine box_event ?hg (N := 1) ?hd (cs := #[.slice A0_0 l0_0.length c0_0, .int .i64 a0_1]) (t := 46) ?hr ?_; (case hd => rfl); (case hg => rfl); (case hr => first | (go_simp; done) | (go_simp; rfl)); intro gt hg w2 hbox hb; have n0_ := Aside0.mk (below_step HB.out hb); clear HB; have HB := n0_; clear n0_; have hcz0 : w2.cell? ⟨gt, 0, none⟩ = some (.slice A0_0 l0_0.length c0_0) := (blk_cell hbox 0).trans rfl; have hcz1 : w2.cell? ⟨gt, 1, none⟩ = some (.int .i64 a0_1) := (blk_cell hbox 1).trans rfl; clear hb hbox hg)
   | (go_at_call 57; refine (table_Check.calls A0_0 c0_0 l0_0 a0_1 false _ (Kd.C_below HR0.out HB.out) HC0.out HBC.out).mono ?_; rintro e w3 ⟨rfl, hb1⟩; have HB1 := Aside0.mk (below_step HB.out hb1); clear hb1))
  go_ret2
  exact ⟨by rw [← H2.out, ← H3.out]; rfl, HB1.out⟩
 | true =>
  rw [if_pos rfl] at h1
  obtain ⟨t, ht, h4⟩ := Option.bind_eq_some_iff.mp h1
  obtain ⟨⟨q1, q2, q3, q4⟩, hq, h5⟩ := Option.bind_eq_some_iff.mp h4
  have h6 := Option.some.inj h5
  have HT := Aside0.mk ht
  have HQ := Aside0.mk hq
  clear h1 h4 h5 ht hq
  have HE : Aside0 (#[Value.int .i64 q1, .int .i64 q2, .int .i64 q3, .int .i64 q4] = ints [q1, q2, q3, q4]) := ⟨rfl⟩
  unfold firstM at h6
  obtain ⟨xs, hxs⟩ : ∃ xs, [q1, q2, q3, q4] = xs := ⟨_, rfl⟩
  rw [hxs] at h6 HE
  have hxl : xs.length = 4 := by rw [← hxs]; rfl
  have HXL := Aside0.mk hxl
  clear hxs hxl
  by_cases hn : nzIdx xs < 0
  ·rw [if_pos hn] at h6
   injection h6 with h2 h3
   have H2 := Aside0.mk h2
   have H3 := Aside0.mk h3
   clear h2 h3
   go_enter Try.func43, Try.ntmps43
   go_wp2_with (first
    | ((with_reducible refine gate_dst (N := 1) rfl ?_); refine box_event ?hg (N := 1) ?hd (cs := #[.slice A0_0 l0_0.length c0_0, .int .i64 a0_1]) (t := 46) ?hr ?_; (case hd => rfl); (case hg => rfl); (case hr => first | (go_simp; done) | (go_simp; rfl)); intro gt hg w2 hbox hb; have n0_ := Aside0.mk (below_step HB.out hb); have BT := Aside0.mk hbox; clear HB; have HB := n0_; clear n0_; have hcz0 : w2.cell? ⟨gt, 0, none⟩ = some (.slice A0_0 l0_0.length c0_0) := (blk_cell BT.out 0).trans rfl; have hcz1 : w2.cell? ⟨gt, 1, none⟩ = some (.int .i64 a0_1) := (blk_cell BT.out 1).trans rfl; clear hb hbox hg)
    | (go_at_call 57; refine (table_Check.calls A0_0 c0_0 l0_0 a0_1 true _ (Kd.C_below HR0.out HB.out) HC0.out HBC.out).mono ?_; rintro e w3 ⟨rfl, hb1⟩; have n0_ := Aside0.mk (below_step HB.out hb1); have n1_ := Aside0.mk (blk_below BT.out hb1); clear hb1 HB BT hcz0 hcz1; have HB := n0_; have BT := n1_; clear n0_ n1_; have hcz0 : w3.cell? ⟨gt, 0, none⟩ = some (.slice A0_0 l0_0.length c0_0) := (blk_cell BT.out 0).trans rfl; have hcz1 : w3.cell? ⟨gt, 1, none⟩ = some (.int .i64 a0_1) := (blk_cell BT.out 1).trans rfl)
    | (go_at_call 69; refine (table_Tasks.calls k A0_0 c0_0 l0_0 a0_1 t _ (Kd.C_below HR0.out HB.out) HC0.out HT.out).mono ?_; rintro e w4 ⟨v4, rfl, hr, hb1⟩; obtain ⟨A4, c4, rfl⟩ := Kd.R_slice hr; have HR4 := Aside0.mk (Kd.R_reads' hr).2.2; have HC4 := Aside0.mk (Kd.R_reads' hr).2.1; have n0_ := Aside0.mk (below_step HB.out hb1); clear hb1 HB BT hcz0 hcz1 hr; have HB := n0_; clear n0_)
    | (go_at_call 68; refine (qpa_Modes.calls k A4 c4 t q1 q2 q3 q4 _ HR4.out HC4.out HQ.out).mono ?_; rintro e w5 ⟨rfl, hb1⟩; have n0_ := Aside0.mk (below_step HB.out hb1); clear hb1 HB; have HB := n0_; clear n0_)
    | (go_at_call 70; refine (nzIndex.calls w5.heap.size 102 xs 4 HXL.out _ (by rw [← HE.out]; exact heap_alloc_new w5 _) (by rw [HXL.out]; decide)).mono ?_; rintro e w6 ⟨rfl, hb1⟩; have B4 := Aside0.mk (blk_below (show (w5.alloc (.cells #[.int .i64 q1, .int .i64 q2, .int .i64 q3, .int .i64 q4] 102)).heap[w5.heap.size]? = some (.cells (ints xs) 102 (0, 0)) from by rw [← HE.out]; exact heap_alloc_new w5 _) hb1); have HB4 := Aside0.mk (below_step (below_alloc HB.out _) hb1); clear hb1))
   go_ret2
   exact ⟨by rw [← H2.out, ← H3.out]; rfl, HB4.out⟩
  ·rw [if_neg hn] at h6
   obtain ⟨hlt, heq⟩ := nzIdx_lt hn
   obtain ⟨i, hi⟩ : ∃ i, (nzIdx xs).toNat = i := ⟨_, rfl⟩
   rw [hi] at hlt heq h6
   injection h6 with h2 h3
   rw [heq] at h2 hn
   have HEQ := Aside0.mk heq
   have H2 := Aside0.mk h2
   have H3 := Aside0.mk h3
   have HLT := Aside0.mk hlt
   have hi4 : (i : Int) < 4 := by have := HXL.out; omega
   have hi0 : (0 : Int) ≤ (i : Int) := by omega
   clear h2 h3 heq hlt hi hn
   go_enter Try.func43, Try.ntmps43
   go_wp2_with (first
    | ((with_reducible refine gate_dst (N := 1) rfl ?_); refine box_event ?hg (N := 1) ?hd (cs := #[.slice A0_0 l0_0.length c0_0, .int .i64 a0_1]) (t := 46) ?hr ?_; (case hd => rfl); (case hg => rfl); (case hr => first | (go_simp; done) | (go_simp; rfl)); intro gt hg w2 hbox hb; have n0_ := Aside0.mk (below_step HB.out hb); have BT := Aside0.mk hbox; clear HB; have HB := n0_; clear n0_; have hcz0 : w2.cell? ⟨gt, 0, none⟩ = some (.slice A0_0 l0_0.length c0_0) := (blk_cell BT.out 0).trans rfl; have hcz1 : w2.cell? ⟨gt, 1, none⟩ = some (.int .i64 a0_1) := (blk_cell BT.out 1).trans rfl; clear hb hbox hg)
    | (go_at_call 57; refine (table_Check.calls A0_0 c0_0 l0_0 a0_1 true _ (Kd.C_below HR0.out HB.out) HC0.out HBC.out).mono ?_; rintro e w3 ⟨rfl, hb1⟩; have n0_ := Aside0.mk (below_step HB.out hb1); have n1_ := Aside0.mk (blk_below BT.out hb1); clear hb1 HB BT hcz0 hcz1; have HB := n0_; have BT := n1_; clear n0_ n1_; have hcz0 : w3.cell? ⟨gt, 0, none⟩ = some (.slice A0_0 l0_0.length c0_0) := (blk_cell BT.out 0).trans rfl; have hcz1 : w3.cell? ⟨gt, 1, none⟩ = some (.int .i64 a0_1) := (blk_cell BT.out 1).trans rfl)
    | (go_at_call 69; refine (table_Tasks.calls k A0_0 c0_0 l0_0 a0_1 t _ (Kd.C_below HR0.out HB.out) HC0.out HT.out).mono ?_; rintro e w4 ⟨v4, rfl, hr, hb1⟩; obtain ⟨A4, c4, rfl⟩ := Kd.R_slice hr; have HR4 := Aside0.mk (Kd.R_reads' hr).2.2; have HC4 := Aside0.mk (Kd.R_reads' hr).2.1; have n0_ := Aside0.mk (below_step HB.out hb1); clear hb1 HB BT hcz0 hcz1 hr; have HB := n0_; clear n0_)
    | (go_at_call 68; refine (qpa_Modes.calls k A4 c4 t q1 q2 q3 q4 _ HR4.out HC4.out HQ.out).mono ?_; rintro e w5 ⟨rfl, hb1⟩; have n0_ := Aside0.mk (below_step HB.out hb1); clear hb1 HB; have HB := n0_; clear n0_)
    | (go_at_call 70; refine (nzIndex.calls w5.heap.size 102 xs 4 HXL.out _ (by rw [← HE.out]; exact heap_alloc_new w5 _) (by rw [HXL.out]; decide)).mono ?_; rintro e w6 ⟨rfl, hb1⟩; have B4 := Aside0.mk (blk_below (show (w5.alloc (.cells #[.int .i64 q1, .int .i64 q2, .int .i64 q3, .int .i64 q4] 102)).heap[w5.heap.size]? = some (.cells (ints xs) 102 (0, 0)) from by rw [← HE.out]; exact heap_alloc_new w5 _) hb1); have HB4 := Aside0.mk (below_step (below_alloc HB.out _) hb1); clear hb1; rw [HEQ.out]))
   have hci : w6.cell? ⟨w5.heap.size, i, none⟩ = some (.int .i64 (xs.getD i 0)) := (ints_at B4.out HLT.out).trans (by rw [List.getD_eq_getElem?_getD, List.getElem?_eq_getElem HLT.out]; rfl)
   go_quiet (fail)
   try go_wp2
   go_ret2
   exact ⟨by rw [← H2.out, ← H3.out]; rfl, by exact pw_below_drewN HB4.out _⟩

/-! ### judge_Fits: function 26 -/
def judge_Fits.f (k : Nat) (l0_0 : List (S60)) (a0_1 : Int) : Option (Int) := (judge_First.f k l0_0 a0_1).bind fun bt174 => (some bt174.2)
theorem judge_Fits.mono : ∀ a0 a1 k, LeO (judge_Fits.f k a0 a1) (judge_Fits.f (k + 1) a0 a1) := by
 intro a0 a1 k
 unfold judge_Fits.f
 repeat' first
   | (with_reducible exact judge_First.mono _ _ _)
   | (with_reducible exact LeO.refl _)
   | (with_reducible exact LeO.none _)
   | (with_reducible refine LeO.ite ?_ ?_)
   | (with_reducible refine LeO.bind ?_ (fun _ => ?_))
   | exact judge_First.mono _ _ _
   | exact LeO.none _
   | refine LeO.ite ?_ ?_
   | refine LeO.bind ?_ (fun _ => ?_)
set_option maxHeartbeats 8000000 in
set_option maxRecDepth 100000 in
theorem judge_Fits.calls (k : Nat) (A0_0 : Option Addr) (c0_0 : Nat) (l0_0 : List (S60)) (a0_1 : Int) (r : Int) (w : World) (hr0_0 : Kd.C k60 w A0_0 l0_0.length l0_0) (hc0_0 : l0_0.length ≤ c0_0) (h : judge_Fits.f k l0_0 a0_1 = some r) :
  Calls Try.prog 26 #[.agg #[.slice A0_0 l0_0.length c0_0, .int .i64 a0_1]] w fun e w' => e = .returned (.int .i64 r) ∧ Below w.heap.size w w' := by
 have hu46 := Try.underlying46
 have HR0_0 := Aside0.mk hr0_0
 have HC0_0 := Aside0.mk hc0_0
 clear hr0_0 hc0_0
 have HB := Aside0.mk (Below.refl w.heap.size w)
 have H : ((judge_First.f k l0_0 a0_1).bind fun bt174 => (some bt174.2)) = some r := h
 clear h
 replace H := Option.bind_eq_some_iff.mp H
 obtain ⟨⟨t174, t175⟩, A20, H⟩ := H
 replace H : (some t175) = some r := H
 have A2 := Aside0.mk A20
 clear A20
 obtain rfl := Option.some.inj H
 go_enter Try.func26, Try.ntmps26
 go_wp2_with (first | ((with_reducible refine gate_dst (N := 1) rfl ?_); refine box_event ?hg (N := 1) ?hd (cs := #[.slice A0_0 l0_0.length c0_0, .int .i64 a0_1]) (t := 46) ?hr ?_; (case hd => rfl); (case hg => rfl); (case hr => first | (go_simp; done) | (go_simp; rfl)); intro gb173 hg w3 hbox hb; have n0_ := Aside0.mk (below_step bl_ hb); have n1_ := Aside0.mk (hbox); have n2_ := Aside0.mk ((by rw [hg]; exact (below_size bl_) : w.heap.size ≤ gb173)); have n3_ := Aside0.mk ((by rw [hg]; exact (below_size bl_) : w.heap.size ≤ gb173)); clear HB; have HB := n0_; have BK173 := n1_; have GW173 := n2_; have GE173 := n3_; clear n0_ n1_ n2_ n3_; clear hb hbox hg; have hcz4_0 : w3.cell? ⟨gb173, 0, none⟩ = some (.slice A0_0 l0_0.length c0_0) := (blk_cell BK173.out 0).trans rfl; have hcz4_1 : w3.cell? ⟨gb173, 1, none⟩ = some (.int .i64 a0_1) := (blk_cell BK173.out 1).trans rfl; have hfz4_0 := blk_frozen BK173.out 0; have hfz4_1 := blk_frozen BK173.out 1) | ((with_reducible refine gate_callee (f := 43) rfl ?_); refine goesL_ (some 7) rfl rfl Try.func43 (by kernel_rfl) rfl #[.agg #[.slice A0_0 l0_0.length c0_0, .int .i64 a0_1]] rfl (by (try simp only [List.map_toArray, List.map_cons, List.map_nil]); first | done | rfl | (simp only [List.length_drop, List.length_take]; rfl)) ?_; (with_reducible refine (judge_First.calls k _ _ l0_0 a0_1 t174 t175 _ ?side1 ?side2 A2.out).mono ?_); (case side1 => repeat (first | exact (Kd.C_below HR0_0.out HB.out) | (with_reducible refine Kd.C_alloc ?_ _) | (with_reducible refine Kd.C_drewN ?_ _) | (with_reducible refine Kd.C_drew ?_))); (case side2 => exact HC0_0.out); rintro e w5 ⟨rfl, hb⟩; refine ⟨_, rfl, ?_⟩; have n0_ := Aside0.mk (blk_below (g := gb173) (o := .cells #[.slice A0_0 l0_0.length c0_0, .int .i64 a0_1] 46 (0, 0)) bk_ hb); have n1_ := Aside0.mk (below_step bl_ hb); clear BK173; clear HB; have BK173 := n0_; have HB := n1_; clear n0_ n1_; (try clear hb); (try clear hb2); (try clear hk); (try clear hi)))
 go_ret
 exact ⟨by first | rfl | (simp [errW_none, errW_some] <;> rfl) | (simp [*, errW_none, errW_some] <;> rfl), bl_⟩

end Go.Proofs.Ythkagoomlmgcdaa.PJudgeFits
