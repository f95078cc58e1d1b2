-- Made by px.py (a program of this session, over the kit's printer) out of the translation. Not trusted: Lean checks it.
import Derived.Test.YthkagoomlmgcdaaPJudgeFitsx0
import Derived.Test.YthkagoomlmgcdaaPJudgeFitsx2
import Derived.Test.YthkagoomlmgcdaaPJudgeFitsx3
namespace Go.Proofs.Ythkagoomlmgcdaa.PJudgeFits
open Go.RowKit Go.Proofs.YthkagoomlmgcdaaW.PrintWords Go.Proofs.YthkagoomlmgcdaaW.PrintLast Go.Proofs.YthkagoomlmgcdaaW.PrintMore
attribute [local go_sem] max2_int min2_int max_two min_two max_three min_three max_four min_four   -- for this text's walks alone
set_option linter.unusedVariables false
set_option linter.unusedSimpArgs false

/-! ### ops_Check: function 58 (by hand) -/
theorem R_empty {α : Type} (d : Kd α) {e : Nat} {w : World} {base g cap : Nat} {ok : Nat → Prop} {cur : Array Value} (hb : base ≤ g) (hok : ok g) (hh : w.heap[g]? = some (.cells cur e (0, 0))) (hm : cap ≤ maxLen) (hs : cur.size = cap * d.sz) : Kd.R d e w base ok (.slice (some ⟨g, 0, none⟩) 0 cap) [] :=
 ⟨fun k hk => by cases hk; exact hok, [], ⟨by simp, .inr ⟨g, cap, cur, rfl, hb, hh, Nat.zero_le _, hm, hs, by simp⟩⟩, by simp, fun j x hj => by simp at hj⟩
abbrev zRow : Value := .agg #[.int .i64 0, .int .i64 0, .int .i64 0, .int .i64 0, .int .i64 0, .bool false]
abbrev zTask : Value := .agg #[.int .i64 0, .int .i64 0, .int .i64 0, .int .i64 0, .int .i64 0]
def opT (a0 : Int) : Nat := if a0 = 1 then 152 else if a0 = 2 then 154 else if a0 = 3 then 156 else if a0 = 4 then 158 else 160
def opP (a0 a1 a2 a3 a4 a5 : Int) (a6 : Bool) (a7 a8 a9 : Int) : Value := if a0 = 1 then .agg #[.int .i64 a1, .int .i64 a2, .int .i64 a3, .int .i64 a4, .int .i64 a5, .bool a6] else if a0 = 2 then .agg #[.int .i64 a7] else if a0 = 3 then .agg #[.int .i64 a7, .int .i64 a8] else if a0 = 4 then .agg #[.int .i64 a9] else .agg #[.int .i64 a0]
def opFo (a0 : Int) : Nat := if a0 = 1 then 147 else if a0 = 2 then 150 else if a0 = 3 then 153 else if a0 = 4 then 156 else 159
def opFr (a0 : Int) : Nat := if a0 = 1 then 149 else if a0 = 2 then 152 else if a0 = 3 then 155 else if a0 = 4 then 158 else 161
/-- An op without what its kind does not say. -/
def bareV (a0 a1 a2 a3 a4 a5 : Int) (a6 : Bool) (a7 a8 a9 : Int) : Value := if a0 = 1 then .agg #[.int .i64 1, .int .i64 a1, .int .i64 a2, .int .i64 a3, .int .i64 a4, .int .i64 a5, .bool a6, .int .i64 0, .int .i64 0, .int .i64 0] else if a0 = 2 then .agg #[.int .i64 2, .int .i64 0, .int .i64 0, .int .i64 0, .int .i64 0, .int .i64 0, .bool false, .int .i64 a7, .int .i64 0, .int .i64 0] else if a0 = 3 then .agg #[.int .i64 3, .int .i64 0, .int .i64 0, .int .i64 0, .int .i64 0, .int .i64 0, .bool false, .int .i64 a7, .int .i64 a8, .int .i64 0] else if a0 = 4 then .agg #[.int .i64 4, .int .i64 0, .int .i64 0, .int .i64 0, .int .i64 0, .int .i64 0, .bool false, .int .i64 0, .int .i64 0, .int .i64 a9] else .agg #[.int .i64 a0, .int .i64 0, .int .i64 0, .int .i64 0, .int .i64 0, .int .i64 0, .bool false, .int .i64 0, .int .i64 0, .int .i64 0]
/-- May what a kind says be? -/
def rightB (a0 a1 a2 a3 a4 a5 : Int) (a6 : Bool) (a7 a8 a9 : Int) : Bool := if a0 = 1 then taskB ⟨a1, a2, a3, a4, a5⟩ && (!a6 || decide (a3 = a4)) else if a0 = 2 then decide (0 ≤ a7) && decide (a7 ≤ 1023) else if a0 = 3 then decide (0 ≤ a7) && (decide (a7 ≤ 1023) && (decide (1 ≤ a8) && decide (a8 ≤ 2147483648))) else if a0 = 4 then decide (0 ≤ a9) && decide (a9 < 4) else false
theorem op_cases {C : Int → Prop} (h1 : C 1) (h2 : C 2) (h3 : C 3) (h4 : C 4) (h5 : ∀ a : Int, a ≠ 1 → a ≠ 2 → a ≠ 3 → a ≠ 4 → C a) (a : Int) : C a := by
 by_cases e1 : a = 1
 ·subst e1; exact h1
 by_cases e2 : a = 2
 ·subst e2; exact h2
 by_cases e3 : a = 3
 ·subst e3; exact h3
 by_cases e4 : a = 4
 ·subst e4; exact h4
 exact h5 a e1 e2 e3 e4
theorem if4 {α : Type} {a : Int} (h1 : a ≠ 1) (h2 : a ≠ 2) (h3 : a ≠ 3) (h4 : a ≠ 4) (x1 x2 x3 x4 x5 : α) : (if a = 1 then x1 else if a = 2 then x2 else if a = 3 then x3 else if a = 4 then x4 else x5) = x5 := by rw [if_neg h1, if_neg h2, if_neg h3, if_neg h4]
theorem opM_admit : ∀ (n : Nat) (v : Value) (w : World), (method (n + 1) 152 v "horarium/ops.op").run Try.prog w = .ok (147, v) w := fun n v w => by kernel_rfl
theorem opR_admit : ∀ (n : Nat) (v : Value) (w : World), (method (n + 1) 152 v "horarium/ops.right").run Try.prog w = .ok (149, v) w := fun n v w => by kernel_rfl
theorem opC_admit : ∀ (v : Value) (w : World), (callFunc 147 #[v]).run Try.prog w = .ok (.enter 147 #[v]) w := fun v w => enters_ Try.func147 (by kernel_rfl) rfl #[v] w
theorem opD_admit : ∀ (v : Value) (w : World), (callFunc 149 #[v]).run Try.prog w = .ok (.enter 149 #[v]) w := fun v w => enters_ Try.func149 (by kernel_rfl) rfl #[v] w
set_option maxHeartbeats 4000000 in
set_option maxRecDepth 100000 in
theorem opOp_admit (a0 a1 a2 a3 a4 a5 : Int) (a6 : Bool) (a7 a8 a9 : Int) (w : World) : Calls Try.prog 147 #[.agg #[.int .i64 a1, .int .i64 a2, .int .i64 a3, .int .i64 a4, .int .i64 a5, .bool a6]] w fun e w' => e = .returned (.agg #[.int .i64 1, .int .i64 a1, .int .i64 a2, .int .i64 a3, .int .i64 a4, .int .i64 a5, .bool a6, .int .i64 0, .int .i64 0, .int .i64 0]) ∧ Below w.heap.size w w' := by
 go_enter Try.func147, Try.ntmps147
 go_wp2
 refine bodyPost_ret (results_cell_row rfl _ _ (w.heap.size + 1) 50 #[.int .i64 1, .int .i64 a1, .int .i64 a2, .int .i64 a3, .int .i64 a4, .int .i64 a5, .bool a6, .int .i64 0, .int .i64 0, .int .i64 0] (0, 0) _ rfl ?_ Try.underlying50 rfl (by kernel_rfl)) rfl ⟨rfl, ?_⟩
 ·have h0 := heap_alloc_new (w.alloc (.cells #[.int .i64 a1, .int .i64 a2, .int .i64 a3, .int .i64 a4, .int .i64 a5, .bool a6] 152)) (.cells #[.int .i64 1, .int .i64 a1, .int .i64 a2, .int .i64 a3, .int .i64 a4, .int .i64 a5, .bool a6, .int .i64 0, .int .i64 0, .int .i64 0] 50)
  rw [World.size_alloc] at h0
  exact h0
 ·exact below_alloc (below_alloc (Below.refl _ _) _) _
theorem opM_remove : ∀ (n : Nat) (v : Value) (w : World), (method (n + 1) 154 v "horarium/ops.op").run Try.prog w = .ok (150, v) w := fun n v w => by kernel_rfl
theorem opR_remove : ∀ (n : Nat) (v : Value) (w : World), (method (n + 1) 154 v "horarium/ops.right").run Try.prog w = .ok (152, v) w := fun n v w => by kernel_rfl
theorem opC_remove : ∀ (v : Value) (w : World), (callFunc 150 #[v]).run Try.prog w = .ok (.enter 150 #[v]) w := fun v w => enters_ Try.func150 (by kernel_rfl) rfl #[v] w
theorem opD_remove : ∀ (v : Value) (w : World), (callFunc 152 #[v]).run Try.prog w = .ok (.enter 152 #[v]) w := fun v w => enters_ Try.func152 (by kernel_rfl) rfl #[v] w
set_option maxHeartbeats 4000000 in
set_option maxRecDepth 100000 in
theorem opOp_remove (a0 a1 a2 a3 a4 a5 : Int) (a6 : Bool) (a7 a8 a9 : Int) (w : World) : Calls Try.prog 150 #[.agg #[.int .i64 a7]] w fun e w' => e = .returned (.agg #[.int .i64 2, .int .i64 0, .int .i64 0, .int .i64 0, .int .i64 0, .int .i64 0, .bool false, .int .i64 a7, .int .i64 0, .int .i64 0]) ∧ Below w.heap.size w w' := by
 go_enter Try.func150, Try.ntmps150
 go_wp2
 refine bodyPost_ret (results_cell_row rfl _ _ (w.heap.size + 1) 50 #[.int .i64 2, .int .i64 0, .int .i64 0, .int .i64 0, .int .i64 0, .int .i64 0, .bool false, .int .i64 a7, .int .i64 0, .int .i64 0] (0, 0) _ rfl ?_ Try.underlying50 rfl (by kernel_rfl)) rfl ⟨rfl, ?_⟩
 ·have h0 := heap_alloc_new (w.alloc (.cells #[.int .i64 a7] 154)) (.cells #[.int .i64 2, .int .i64 0, .int .i64 0, .int .i64 0, .int .i64 0, .int .i64 0, .bool false, .int .i64 a7, .int .i64 0, .int .i64 0] 50)
  rw [World.size_alloc] at h0
  exact h0
 ·exact below_alloc (below_alloc (Below.refl _ _) _) _
theorem opM_resize : ∀ (n : Nat) (v : Value) (w : World), (method (n + 1) 156 v "horarium/ops.op").run Try.prog w = .ok (153, v) w := fun n v w => by kernel_rfl
theorem opR_resize : ∀ (n : Nat) (v : Value) (w : World), (method (n + 1) 156 v "horarium/ops.right").run Try.prog w = .ok (155, v) w := fun n v w => by kernel_rfl
theorem opC_resize : ∀ (v : Value) (w : World), (callFunc 153 #[v]).run Try.prog w = .ok (.enter 153 #[v]) w := fun v w => enters_ Try.func153 (by kernel_rfl) rfl #[v] w
theorem opD_resize : ∀ (v : Value) (w : World), (callFunc 155 #[v]).run Try.prog w = .ok (.enter 155 #[v]) w := fun v w => enters_ Try.func155 (by kernel_rfl) rfl #[v] w
set_option maxHeartbeats 4000000 in
set_option maxRecDepth 100000 in
theorem opOp_resize (a0 a1 a2 a3 a4 a5 : Int) (a6 : Bool) (a7 a8 a9 : Int) (w : World) : Calls Try.prog 153 #[.agg #[.int .i64 a7, .int .i64 a8]] w fun e w' => e = .returned (.agg #[.int .i64 3, .int .i64 0, .int .i64 0, .int .i64 0, .int .i64 0, .int .i64 0, .bool false, .int .i64 a7, .int .i64 a8, .int .i64 0]) ∧ Below w.heap.size w w' := by
 go_enter Try.func153, Try.ntmps153
 go_wp2
 refine bodyPost_ret (results_cell_row rfl _ _ (w.heap.size + 1) 50 #[.int .i64 3, .int .i64 0, .int .i64 0, .int .i64 0, .int .i64 0, .int .i64 0, .bool false, .int .i64 a7, .int .i64 a8, .int .i64 0] (0, 0) _ rfl ?_ Try.underlying50 rfl (by kernel_rfl)) rfl ⟨rfl, ?_⟩
 ·have h0 := heap_alloc_new (w.alloc (.cells #[.int .i64 a7, .int .i64 a8] 156)) (.cells #[.int .i64 3, .int .i64 0, .int .i64 0, .int .i64 0, .int .i64 0, .int .i64 0, .bool false, .int .i64 a7, .int .i64 a8, .int .i64 0] 50)
  rw [World.size_alloc] at h0
  exact h0
 ·exact below_alloc (below_alloc (Below.refl _ _) _) _
theorem opM_mode : ∀ (n : Nat) (v : Value) (w : World), (method (n + 1) 158 v "horarium/ops.op").run Try.prog w = .ok (156, v) w := fun n v w => by kernel_rfl
theorem opR_mode : ∀ (n : Nat) (v : Value) (w : World), (method (n + 1) 158 v "horarium/ops.right").run Try.prog w = .ok (158, v) w := fun n v w => by kernel_rfl
theorem opC_mode : ∀ (v : Value) (w : World), (callFunc 156 #[v]).run Try.prog w = .ok (.enter 156 #[v]) w := fun v w => enters_ Try.func156 (by kernel_rfl) rfl #[v] w
theorem opD_mode : ∀ (v : Value) (w : World), (callFunc 158 #[v]).run Try.prog w = .ok (.enter 158 #[v]) w := fun v w => enters_ Try.func158 (by kernel_rfl) rfl #[v] w
set_option maxHeartbeats 4000000 in
set_option maxRecDepth 100000 in
theorem opOp_mode (a0 a1 a2 a3 a4 a5 : Int) (a6 : Bool) (a7 a8 a9 : Int) (w : World) : Calls Try.prog 156 #[.agg #[.int .i64 a9]] w fun e w' => e = .returned (.agg #[.int .i64 4, .int .i64 0, .int .i64 0, .int .i64 0, .int .i64 0, .int .i64 0, .bool false, .int .i64 0, .int .i64 0, .int .i64 a9]) ∧ Below w.heap.size w w' := by
 go_enter Try.func156, Try.ntmps156
 go_wp2
 refine bodyPost_ret (results_cell_row rfl _ _ (w.heap.size + 1) 50 #[.int .i64 4, .int .i64 0, .int .i64 0, .int .i64 0, .int .i64 0, .int .i64 0, .bool false, .int .i64 0, .int .i64 0, .int .i64 a9] (0, 0) _ rfl ?_ Try.underlying50 rfl (by kernel_rfl)) rfl ⟨rfl, ?_⟩
 ·have h0 := heap_alloc_new (w.alloc (.cells #[.int .i64 a9] 158)) (.cells #[.int .i64 4, .int .i64 0, .int .i64 0, .int .i64 0, .int .i64 0, .int .i64 0, .bool false, .int .i64 0, .int .i64 0, .int .i64 a9] 50)
  rw [World.size_alloc] at h0
  exact h0
 ·exact below_alloc (below_alloc (Below.refl _ _) _) _
theorem opM_other : ∀ (n : Nat) (v : Value) (w : World), (method (n + 1) 160 v "horarium/ops.op").run Try.prog w = .ok (159, v) w := fun n v w => by kernel_rfl
theorem opR_other : ∀ (n : Nat) (v : Value) (w : World), (method (n + 1) 160 v "horarium/ops.right").run Try.prog w = .ok (161, v) w := fun n v w => by kernel_rfl
theorem opC_other : ∀ (v : Value) (w : World), (callFunc 159 #[v]).run Try.prog w = .ok (.enter 159 #[v]) w := fun v w => enters_ Try.func159 (by kernel_rfl) rfl #[v] w
theorem opD_other : ∀ (v : Value) (w : World), (callFunc 161 #[v]).run Try.prog w = .ok (.enter 161 #[v]) w := fun v w => enters_ Try.func161 (by kernel_rfl) rfl #[v] w
set_option maxHeartbeats 4000000 in
set_option maxRecDepth 100000 in
theorem opOp_other (a0 a1 a2 a3 a4 a5 : Int) (a6 : Bool) (a7 a8 a9 : Int) (w : World) : Calls Try.prog 159 #[.agg #[.int .i64 a0]] w fun e w' => e = .returned (.agg #[.int .i64 a0, .int .i64 0, .int .i64 0, .int .i64 0, .int .i64 0, .int .i64 0, .bool false, .int .i64 0, .int .i64 0, .int .i64 0]) ∧ Below w.heap.size w w' := by
 go_enter Try.func159, Try.ntmps159
 go_wp2
 refine bodyPost_ret (results_cell_row rfl _ _ (w.heap.size + 1) 50 #[.int .i64 a0, .int .i64 0, .int .i64 0, .int .i64 0, .int .i64 0, .int .i64 0, .bool false, .int .i64 0, .int .i64 0, .int .i64 0] (0, 0) _ rfl ?_ Try.underlying50 rfl (by kernel_rfl)) rfl ⟨rfl, ?_⟩
 ·have h0 := heap_alloc_new (w.alloc (.cells #[.int .i64 a0] 160)) (.cells #[.int .i64 a0, .int .i64 0, .int .i64 0, .int .i64 0, .int .i64 0, .int .i64 0, .bool false, .int .i64 0, .int .i64 0, .int .i64 0] 50)
  rw [World.size_alloc] at h0
  exact h0
 ·exact below_alloc (below_alloc (Below.refl _ _) _) _
set_option maxHeartbeats 4000000 in
set_option maxRecDepth 100000 in
theorem opRt_admit (a0 a1 a2 a3 a4 a5 : Int) (a6 : Bool) (a7 a8 a9 : Int) (w : World) : Calls Try.prog 149 #[.agg #[.int .i64 a1, .int .i64 a2, .int .i64 a3, .int .i64 a4, .int .i64 a5, .bool a6]] w fun e w' => e = .returned (.bool (taskB ⟨a1, a2, a3, a4, a5⟩ && (!a6 || decide (a3 = a4)))) ∧ Below w.heap.size w w' := by
 have HCK := Aside0.mk (check_eq ⟨a1, a2, a3, a4, a5⟩)
 cases hb1 : taskB ⟨a1, a2, a3, a4, a5⟩ with
 | false =>
  rw [hb1] at HCK
  clear hb1
  go_enter Try.func149, Try.ntmps149
  go_wp2_with fail; (go_at_call 50; refine (param_Check.calls a1 a2 a3 a4 a5 _ _ HCK.out).mono ?_; rintro e w2 ⟨rfl, hb⟩; have hc := blk_below (heap_alloc_new w (.cells #[.int .i64 a1, .int .i64 a2, .int .i64 a3, .int .i64 a4, .int .i64 a5, .bool a6] 152)) hb; have z2 : w2.cell? ⟨w.heap.size, 2, none⟩ = some (.int .i64 a3) := (blk_cell hc 2).trans rfl; have z3 : w2.cell? ⟨w.heap.size, 3, none⟩ = some (.int .i64 a4) := (blk_cell hc 3).trans rfl; have z5 : w2.cell? ⟨w.heap.size, 5, none⟩ = some (.bool a6) := (blk_cell hc 5).trans rfl; have HB := Aside0.mk (show Below w.heap.size w w2 from below_step (below_alloc (Below.refl _ _) _) hb); clear hb hc); go_wp2
  go_ret
  exact ⟨rfl, HB.out⟩
 | true =>
  rw [hb1] at HCK
  clear hb1
  cases a6 with
  | false =>
   go_enter Try.func149, Try.ntmps149
   go_wp2_with fail; (go_at_call 50; refine (param_Check.calls a1 a2 a3 a4 a5 _ _ HCK.out).mono ?_; rintro e w2 ⟨rfl, hb⟩; have hc := blk_below (heap_alloc_new w (.cells #[.int .i64 a1, .int .i64 a2, .int .i64 a3, .int .i64 a4, .int .i64 a5, .bool false] 152)) hb; have z2 : w2.cell? ⟨w.heap.size, 2, none⟩ = some (.int .i64 a3) := (blk_cell hc 2).trans rfl; have z3 : w2.cell? ⟨w.heap.size, 3, none⟩ = some (.int .i64 a4) := (blk_cell hc 3).trans rfl; have z5 : w2.cell? ⟨w.heap.size, 5, none⟩ = some (.bool false) := (blk_cell hc 5).trans rfl; have HB := Aside0.mk (show Below w.heap.size w w2 from below_step (below_alloc (Below.refl _ _) _) hb); clear hb hc); go_wp2
   go_ret
   exact ⟨rfl, HB.out⟩
  | true =>
   go_enter Try.func149, Try.ntmps149
   go_wp2_with fail; (go_at_call 50; refine (param_Check.calls a1 a2 a3 a4 a5 _ _ HCK.out).mono ?_; rintro e w2 ⟨rfl, hb⟩; have hc := blk_below (heap_alloc_new w (.cells #[.int .i64 a1, .int .i64 a2, .int .i64 a3, .int .i64 a4, .int .i64 a5, .bool true] 152)) hb; have z2 : w2.cell? ⟨w.heap.size, 2, none⟩ = some (.int .i64 a3) := (blk_cell hc 2).trans rfl; have z3 : w2.cell? ⟨w.heap.size, 3, none⟩ = some (.int .i64 a4) := (blk_cell hc 3).trans rfl; have z5 : w2.cell? ⟨w.heap.size, 5, none⟩ = some (.bool true) := (blk_cell hc 5).trans rfl; have HB := Aside0.mk (show Below w.heap.size w w2 from below_step (below_alloc (Below.refl _ _) _) hb); clear hb hc); go_wp2
   go_ret
   exact ⟨by first | rfl | (simp; done), HB.out⟩
set_option maxHeartbeats 4000000 in
set_option maxRecDepth 100000 in
theorem opRt_remove (a0 a1 a2 a3 a4 a5 : Int) (a6 : Bool) (a7 a8 a9 : Int) (w : World) : Calls Try.prog 152 #[.agg #[.int .i64 a7]] w fun e w' => e = .returned (.bool (decide (0 ≤ a7) && decide (a7 ≤ 1023))) ∧ Below w.heap.size w w' := by
 by_cases h : 0 ≤ a7
 ·go_enter Try.func152, Try.ntmps152
  go_wp2
  go_ret
  exact ⟨by first | rfl | (simp; done) | (simp; omega) | (simp [*]; done), below_alloc (Below.refl _ _) _⟩
 ·go_enter Try.func152, Try.ntmps152
  go_wp2
  go_ret
  exact ⟨by first | rfl | (simp; done) | (simp; omega) | (simp [*]; done), below_alloc (Below.refl _ _) _⟩
set_option maxHeartbeats 4000000 in
set_option maxRecDepth 100000 in
theorem opRt_resize (a0 a1 a2 a3 a4 a5 : Int) (a6 : Bool) (a7 a8 a9 : Int) (w : World) : Calls Try.prog 155 #[.agg #[.int .i64 a7, .int .i64 a8]] w fun e w' => e = .returned (.bool (decide (0 ≤ a7) && (decide (a7 ≤ 1023) && (decide (1 ≤ a8) && decide (a8 ≤ 2147483648))))) ∧ Below w.heap.size w w' := by
 by_cases h : 0 ≤ a7
 ·by_cases h2 : a7 ≤ 1023
  ·by_cases h3 : 1 ≤ a8
   ·go_enter Try.func155, Try.ntmps155
    go_wp2
    go_ret
    exact ⟨by first | rfl | (simp; done) | (simp; omega) | (simp [*]; done), below_alloc (Below.refl _ _) _⟩
   ·go_enter Try.func155, Try.ntmps155
    go_wp2
    go_ret
    exact ⟨by first | rfl | (simp; done) | (simp; omega) | (simp [*]; done), below_alloc (Below.refl _ _) _⟩
  ·go_enter Try.func155, Try.ntmps155
   go_wp2
   go_ret
   exact ⟨by first | rfl | (simp; done) | (simp; omega) | (simp [*]; done), below_alloc (Below.refl _ _) _⟩
 ·go_enter Try.func155, Try.ntmps155
  go_wp2
  go_ret
  exact ⟨by first | rfl | (simp; done) | (simp; omega) | (simp [*]; done), below_alloc (Below.refl _ _) _⟩
set_option maxHeartbeats 4000000 in
set_option maxRecDepth 100000 in
theorem opRt_mode (a0 a1 a2 a3 a4 a5 : Int) (a6 : Bool) (a7 a8 a9 : Int) (w : World) : Calls Try.prog 158 #[.agg #[.int .i64 a9]] w fun e w' => e = .returned (.bool (decide (0 ≤ a9) && decide (a9 < 4))) ∧ Below w.heap.size w w' := by
 by_cases h : 0 ≤ a9
 ·go_enter Try.func158, Try.ntmps158
  go_wp2
  go_ret
  exact ⟨by first | rfl | (simp; done) | (simp; omega) | (simp [*]; done), below_alloc (Below.refl _ _) _⟩
 ·go_enter Try.func158, Try.ntmps158
  go_wp2
  go_ret
  exact ⟨by first | rfl | (simp; done) | (simp; omega) | (simp [*]; done), below_alloc (Below.refl _ _) _⟩
set_option maxHeartbeats 4000000 in
set_option maxRecDepth 100000 in
theorem opRt_other (a0 a1 a2 a3 a4 a5 : Int) (a6 : Bool) (a7 a8 a9 : Int) (w : World) : Calls Try.prog 161 #[.agg #[.int .i64 a0]] w fun e w' => e = .returned (.bool (false)) ∧ Below w.heap.size w w' := by
 go_enter Try.func161, Try.ntmps161
 go_wp2
 go_ret
 exact ⟨rfl, below_alloc (Below.refl _ _) _⟩
set_option maxHeartbeats 8000000 in
set_option maxRecDepth 100000 in
theorem opsOf.calls (a0 a1 a2 a3 a4 a5 : Int) (a6 : Bool) (a7 a8 a9 : Int) (w : World) : Calls Try.prog 86 #[.agg #[.int .i64 a0, .int .i64 a1, .int .i64 a2, .int .i64 a3, .int .i64 a4, .int .i64 a5, .bool a6, .int .i64 a7, .int .i64 a8, .int .i64 a9]] w fun e w' => e = .returned (.iface (opT a0) (opP a0 a1 a2 a3 a4 a5 a6 a7 a8 a9)) ∧ Below w.heap.size w w' := by
 revert a0
 refine op_cases ?_ ?_ ?_ ?_ ?_
 ·go_enter Try.func86, Try.ntmps86
  go_wp2
  go_ret
  exact ⟨rfl, below_alloc (Below.refl _ _) _⟩
 ·go_enter Try.func86, Try.ntmps86
  go_wp2
  go_ret
  exact ⟨rfl, below_alloc (Below.refl _ _) _⟩
 ·go_enter Try.func86, Try.ntmps86
  go_wp2
  go_ret
  exact ⟨rfl, below_alloc (Below.refl _ _) _⟩
 ·go_enter Try.func86, Try.ntmps86
  go_wp2
  go_ret
  exact ⟨rfl, below_alloc (Below.refl _ _) _⟩
 ·intro a h1 h2 h3 h4
  have g1 : (a == 1) = false := beq_eq_false_iff_ne.mpr h1
  have g2 : (a == 2) = false := beq_eq_false_iff_ne.mpr h2
  have g3 : (a == 3) = false := beq_eq_false_iff_ne.mpr h3
  have g4 : (a == 4) = false := beq_eq_false_iff_ne.mpr h4
  have HT : Aside0 (opT a = 160) := ⟨if4 h1 h2 h3 h4 _ _ _ _ _⟩
  have HP : Aside0 (opP a a1 a2 a3 a4 a5 a6 a7 a8 a9 = .agg #[.int .i64 a]) := ⟨if4 h1 h2 h3 h4 _ _ _ _ _⟩
  clear h1 h2 h3 h4
  go_enter Try.func86, Try.ntmps86
  go_wp2
  go_ret
  exact ⟨by rw [HT.out, HP.out]; rfl, below_alloc (Below.refl _ _) _⟩
theorem opsOp.calls (a0 a1 a2 a3 a4 a5 : Int) (a6 : Bool) (a7 a8 a9 : Int) (w : World) : Calls Try.prog (opFo a0) #[opP a0 a1 a2 a3 a4 a5 a6 a7 a8 a9] w fun e w' => e = .returned (bareV a0 a1 a2 a3 a4 a5 a6 a7 a8 a9) ∧ Below w.heap.size w w' := by
 revert a0
 refine op_cases ?_ ?_ ?_ ?_ ?_
 ·exact opOp_admit 0 a1 a2 a3 a4 a5 a6 a7 a8 a9 w
 ·exact opOp_remove 0 a1 a2 a3 a4 a5 a6 a7 a8 a9 w
 ·exact opOp_resize 0 a1 a2 a3 a4 a5 a6 a7 a8 a9 w
 ·exact opOp_mode 0 a1 a2 a3 a4 a5 a6 a7 a8 a9 w
 ·intro a h1 h2 h3 h4
  unfold opFo opP bareV; rw [if4 h1 h2 h3 h4, if4 h1 h2 h3 h4, if4 h1 h2 h3 h4]; exact opOp_other a a1 a2 a3 a4 a5 a6 a7 a8 a9 w
theorem opsRight.calls (a0 a1 a2 a3 a4 a5 : Int) (a6 : Bool) (a7 a8 a9 : Int) (w : World) : Calls Try.prog (opFr a0) #[opP a0 a1 a2 a3 a4 a5 a6 a7 a8 a9] w fun e w' => e = .returned (.bool (rightB a0 a1 a2 a3 a4 a5 a6 a7 a8 a9)) ∧ Below w.heap.size w w' := by
 revert a0
 refine op_cases ?_ ?_ ?_ ?_ ?_
 ·exact opRt_admit 0 a1 a2 a3 a4 a5 a6 a7 a8 a9 w
 ·exact opRt_remove 0 a1 a2 a3 a4 a5 a6 a7 a8 a9 w
 ·exact opRt_resize 0 a1 a2 a3 a4 a5 a6 a7 a8 a9 w
 ·exact opRt_mode 0 a1 a2 a3 a4 a5 a6 a7 a8 a9 w
 ·intro a h1 h2 h3 h4
  unfold opFr opP rightB; rw [if4 h1 h2 h3 h4, if4 h1 h2 h3 h4, if4 h1 h2 h3 h4]; exact opRt_other a a1 a2 a3 a4 a5 a6 a7 a8 a9 w
theorem opsM (a0 : Int) : ∀ (n : Nat) (v : Value) (w : World), (method (n + 1) (opT a0) v "horarium/ops.op").run Try.prog w = .ok (opFo a0, v) w := by
 revert a0
 refine op_cases ?_ ?_ ?_ ?_ ?_
 ·exact opM_admit
 ·exact opM_remove
 ·exact opM_resize
 ·exact opM_mode
 ·intro a h1 h2 h3 h4
  unfold opT opFo; rw [if4 h1 h2 h3 h4, if4 h1 h2 h3 h4]; exact opM_other
theorem opsR (a0 : Int) : ∀ (n : Nat) (v : Value) (w : World), (method (n + 1) (opT a0) v "horarium/ops.right").run Try.prog w = .ok (opFr a0, v) w := by
 revert a0
 refine op_cases ?_ ?_ ?_ ?_ ?_
 ·exact opR_admit
 ·exact opR_remove
 ·exact opR_resize
 ·exact opR_mode
 ·intro a h1 h2 h3 h4
  unfold opT opFr; rw [if4 h1 h2 h3 h4, if4 h1 h2 h3 h4]; exact opR_other
theorem opsC (a0 : Int) : ∀ (v : Value) (w : World), (callFunc (opFo a0) #[v]).run Try.prog w = .ok (.enter (opFo a0) #[v]) w := by
 revert a0
 refine op_cases ?_ ?_ ?_ ?_ ?_
 ·exact opC_admit
 ·exact opC_remove
 ·exact opC_resize
 ·exact opC_mode
 ·intro a h1 h2 h3 h4
  unfold opFo; rw [if4 h1 h2 h3 h4]; exact opC_other
theorem opsD (a0 : Int) : ∀ (v : Value) (w : World), (callFunc (opFr a0) #[v]).run Try.prog w = .ok (.enter (opFr a0) #[v]) w := by
 revert a0
 refine op_cases ?_ ?_ ?_ ?_ ?_
 ·exact opD_admit
 ·exact opD_remove
 ·exact opD_resize
 ·exact opD_mode
 ·intro a h1 h2 h3 h4
  unfold opFr; rw [if4 h1 h2 h3 h4]; exact opD_other
-- param_Check param_Row
theorem eqT5 (d : Nat) (w : World) (x0 y0 x1 y1 x2 y2 x3 y3 x4 y4 : Int) : (Op.equalIn (d + 2) 31 (.agg #[.int .i64 x0, .int .i64 x1, .int .i64 x2, .int .i64 x3, .int .i64 x4]) (.agg #[.int .i64 y0, .int .i64 y1, .int .i64 y2, .int .i64 y3, .int .i64 y4])).run Try.prog w = .ok (x0 == y0 && (x1 == y1 && (x2 == y2 && (x3 == y3 && (x4 == y4))))) w := by
 refine eqA_of Try.underlying31 (by kernel_rfl) ?_
 refine eqf_cons (by rfl) (by go_simp; rfl) (by go_simp; rfl) (by go_simp) ?_
 refine eqf_cons (by rfl) (by go_simp; rfl) (by go_simp; rfl) (by go_simp) ?_
 refine eqf_cons (by rfl) (by go_simp; rfl) (by go_simp; rfl) (by go_simp) ?_
 refine eqf_cons (by rfl) (by go_simp; rfl) (by go_simp; rfl) (by go_simp) ?_
 exact eqf_last (by rfl) (by go_simp; rfl) (by go_simp; rfl) (by go_simp)
theorem eqO10 (d : Nat) (w : World) (x0 x1 x2 x3 x4 x5 : Int) (x6 : Bool) (x7 x8 x9 : Int) (y0 y1 y2 y3 y4 y5 : Int) (y6 : Bool) (y7 y8 y9 : Int) : (Op.equalIn (d + 3) 50 (.agg #[.int .i64 x0, .int .i64 x1, .int .i64 x2, .int .i64 x3, .int .i64 x4, .int .i64 x5, .bool x6, .int .i64 x7, .int .i64 x8, .int .i64 x9]) (.agg #[.int .i64 y0, .int .i64 y1, .int .i64 y2, .int .i64 y3, .int .i64 y4, .int .i64 y5, .bool y6, .int .i64 y7, .int .i64 y8, .int .i64 y9])).run Try.prog w = .ok (x0 == y0 && ((x1 == y1 && (x2 == y2 && (x3 == y3 && (x4 == y4 && (x5 == y5))))) && (x6 == y6 && (x7 == y7 && (x8 == y8 && (x9 == y9)))))) w := by
 refine eqA_of Try.underlying50 (by kernel_rfl) ?_
 refine eqf_cons (by rfl) (by go_simp; rfl) (by go_simp; rfl) (by go_simp) ?_
 refine eqf_cons (by rfl) (by go_simp) (by go_simp) (eqT5 (d + 0) w _ _ _ _ _ _ _ _ _ _) ?_
 refine eqf_cons (by rfl) (by go_simp; rfl) (by go_simp; rfl) (by go_simp) ?_
 refine eqf_cons (by rfl) (by go_simp; rfl) (by go_simp; rfl) (by go_simp) ?_
 refine eqf_cons (by rfl) (by go_simp; rfl) (by go_simp; rfl) (by go_simp) ?_
 exact eqf_last (by rfl) (by go_simp; rfl) (by go_simp; rfl) (by go_simp)
def opEq (x0 x1 x2 x3 x4 x5 : Int) (x6 : Bool) (x7 x8 x9 : Int) (y0 y1 y2 y3 y4 y5 : Int) (y6 : Bool) (y7 y8 y9 : Int) : Bool := (x0 == y0 && ((x1 == y1 && (x2 == y2 && (x3 == y3 && (x4 == y4 && (x5 == y5))))) && (x6 == y6 && (x7 == y7 && (x8 == y8 && (x9 == y9))))))
theorem opsOf_admit (a1 a2 a3 a4 a5 : Int) (a6 : Bool) (a7 a8 a9 : Int) (w : World) : Calls Try.prog 86 #[.agg #[.int .i64 1, .int .i64 a1, .int .i64 a2, .int .i64 a3, .int .i64 a4, .int .i64 a5, .bool a6, .int .i64 a7, .int .i64 a8, .int .i64 a9]] w fun e w' => e = .returned (.iface 152 (.agg #[.int .i64 a1, .int .i64 a2, .int .i64 a3, .int .i64 a4, .int .i64 a5, .bool a6])) ∧ Below w.heap.size w w' := by
 have h := opsOf.calls 1 a1 a2 a3 a4 a5 a6 a7 a8 a9 w
 exact h
set_option maxHeartbeats 4000000 in
set_option maxRecDepth 100000 in
theorem opsBare_admit (a1 a2 a3 a4 a5 : Int) (a6 : Bool) (a7 a8 a9 : Int) (w : World) : Calls Try.prog 85 #[.agg #[.int .i64 1, .int .i64 a1, .int .i64 a2, .int .i64 a3, .int .i64 a4, .int .i64 a5, .bool a6, .int .i64 a7, .int .i64 a8, .int .i64 a9]] w fun e w' => e = .returned (.agg #[.int .i64 1, .int .i64 a1, .int .i64 a2, .int .i64 a3, .int .i64 a4, .int .i64 a5, .bool a6, .int .i64 0, .int .i64 0, .int .i64 0]) ∧ Below w.heap.size w w' := by
 have hM := opM_admit
 have HOF := Aside0.mk (opsOf_admit a1 a2 a3 a4 a5 a6 a7 a8 a9)
 go_enter Try.func85, Try.ntmps85
 obtain ⟨W, hW⟩ : ∃ W, (w.alloc (.cells #[.int .i64 1, .int .i64 a1, .int .i64 a2, .int .i64 a3, .int .i64 a4, .int .i64 a5, .bool a6, .int .i64 a7, .int .i64 a8, .int .i64 a9] 50)).alloc (.cells #[.int .i64 0, .int .i64 0, .int .i64 0, .int .i64 0, .int .i64 0, .int .i64 0, .bool false, .int .i64 0, .int .i64 0, .int .i64 0] 50) = W := ⟨_, rfl⟩
 have HZ : Aside0 (W.heap[w.heap.size + 1]? = some (.cells #[.int .i64 0, .int .i64 0, .int .i64 0, .int .i64 0, .int .i64 0, .int .i64 0, .bool false, .int .i64 0, .int .i64 0, .int .i64 0] 50 (0, 0))) := ⟨by rw [← hW]; have := heap_alloc_new (w.alloc (.cells #[.int .i64 1, .int .i64 a1, .int .i64 a2, .int .i64 a3, .int .i64 a4, .int .i64 a5, .bool a6, .int .i64 a7, .int .i64 a8, .int .i64 a9] 50)) (.cells #[.int .i64 0, .int .i64 0, .int .i64 0, .int .i64 0, .int .i64 0, .int .i64 0, .bool false, .int .i64 0, .int .i64 0, .int .i64 0] 50); rw [World.size_alloc] at this; exact this⟩
 have HB : Aside0 (Below w.heap.size w W) := ⟨by rw [← hW]; exact below_alloc (below_alloc (Below.refl _ _) _) _⟩
 have HW := Aside0.mk hW
 clear hW
 go_wp2_with fail
 rw [HW.out]
 refine (HOF.out W).mono ?_
 rintro e w1 ⟨rfl, hb1⟩
 have n0_ := Aside0.mk (blk_below HZ.out hb1)
 have n1_ := Aside0.mk (below_step HB.out hb1)
 clear HZ HB hb1
 have HZ := n0_
 have HB := n1_
 clear n0_ n1_
 go_wp2_with fail
 go_at_call 147
 refine (opOp_admit 0 a1 a2 a3 a4 a5 a6 a7 a8 a9 w1).mono ?_
 rintro e w2 ⟨rfl, hb1⟩
 have n0_ := Aside0.mk (blk_below HZ.out hb1)
 have n1_ := Aside0.mk (below_step HB.out hb1)
 clear HZ HB hb1
 have HZ := n0_
 have HB := n1_
 clear n0_ n1_
 have z0 := (show w2.cell? ⟨w.heap.size + 1, 0, none⟩ = some (.int .i64 0) from (blk_cell HZ.out 0).trans rfl)
 have z1 := (show w2.cell? ⟨w.heap.size + 1, 1, none⟩ = some (.int .i64 0) from (blk_cell HZ.out 1).trans rfl)
 have z2 := (show w2.cell? ⟨w.heap.size + 1, 2, none⟩ = some (.int .i64 0) from (blk_cell HZ.out 2).trans rfl)
 have z3 := (show w2.cell? ⟨w.heap.size + 1, 3, none⟩ = some (.int .i64 0) from (blk_cell HZ.out 3).trans rfl)
 have z4 := (show w2.cell? ⟨w.heap.size + 1, 4, none⟩ = some (.int .i64 0) from (blk_cell HZ.out 4).trans rfl)
 have z5 := (show w2.cell? ⟨w.heap.size + 1, 5, none⟩ = some (.int .i64 0) from (blk_cell HZ.out 5).trans rfl)
 have z6 := (show w2.cell? ⟨w.heap.size + 1, 6, none⟩ = some (.bool false) from (blk_cell HZ.out 6).trans rfl)
 have z7 := (show w2.cell? ⟨w.heap.size + 1, 7, none⟩ = some (.int .i64 0) from (blk_cell HZ.out 7).trans rfl)
 have z8 := (show w2.cell? ⟨w.heap.size + 1, 8, none⟩ = some (.int .i64 0) from (blk_cell HZ.out 8).trans rfl)
 have z9 := (show w2.cell? ⟨w.heap.size + 1, 9, none⟩ = some (.int .i64 0) from (blk_cell HZ.out 9).trans rfl)
 have f0 := blk_frozen HZ.out 0
 have f1 := blk_frozen HZ.out 1
 have f2 := blk_frozen HZ.out 2
 have f3 := blk_frozen HZ.out 3
 have f4 := blk_frozen HZ.out 4
 have f5 := blk_frozen HZ.out 5
 have f6 := blk_frozen HZ.out 6
 have f7 := blk_frozen HZ.out 7
 have f8 := blk_frozen HZ.out 8
 have f9 := blk_frozen HZ.out 9
 have hne : w.heap.size + 1 < w2.heap.size := blk_lt HZ.out
 go_wp2
 refine bodyPost_ret (results_cell_row rfl _ _ (w.heap.size + 1) 50 #[.int .i64 1, .int .i64 a1, .int .i64 a2, .int .i64 a3, .int .i64 a4, .int .i64 a5, .bool a6, .int .i64 0, .int .i64 0, .int .i64 0] (0, 0) _ rfl ?_ Try.underlying50 rfl (by kernel_rfl)) rfl ⟨rfl, ?_⟩
 ·refine blk_put (cs := #[.int .i64 1, .int .i64 a1, .int .i64 a2, .int .i64 a3, .int .i64 a4, .int .i64 a5, .bool a6, .int .i64 0, .int .i64 0, .int .i64 0]) ?_ 9 _ rfl; refine blk_put (cs := #[.int .i64 1, .int .i64 a1, .int .i64 a2, .int .i64 a3, .int .i64 a4, .int .i64 a5, .bool a6, .int .i64 0, .int .i64 0, .int .i64 0]) ?_ 8 _ rfl; refine blk_put (cs := #[.int .i64 1, .int .i64 a1, .int .i64 a2, .int .i64 a3, .int .i64 a4, .int .i64 a5, .bool a6, .int .i64 0, .int .i64 0, .int .i64 0]) ?_ 7 _ rfl; refine blk_put (cs := #[.int .i64 1, .int .i64 a1, .int .i64 a2, .int .i64 a3, .int .i64 a4, .int .i64 a5, .bool false, .int .i64 0, .int .i64 0, .int .i64 0]) ?_ 6 _ rfl; refine blk_put (cs := #[.int .i64 1, .int .i64 a1, .int .i64 a2, .int .i64 a3, .int .i64 a4, .int .i64 0, .bool false, .int .i64 0, .int .i64 0, .int .i64 0]) ?_ 5 _ rfl; refine blk_put (cs := #[.int .i64 1, .int .i64 a1, .int .i64 a2, .int .i64 a3, .int .i64 0, .int .i64 0, .bool false, .int .i64 0, .int .i64 0, .int .i64 0]) ?_ 4 _ rfl; refine blk_put (cs := #[.int .i64 1, .int .i64 a1, .int .i64 a2, .int .i64 0, .int .i64 0, .int .i64 0, .bool false, .int .i64 0, .int .i64 0, .int .i64 0]) ?_ 3 _ rfl; refine blk_put (cs := #[.int .i64 1, .int .i64 a1, .int .i64 0, .int .i64 0, .int .i64 0, .int .i64 0, .bool false, .int .i64 0, .int .i64 0, .int .i64 0]) ?_ 2 _ rfl; refine blk_put (cs := #[.int .i64 1, .int .i64 0, .int .i64 0, .int .i64 0, .int .i64 0, .int .i64 0, .bool false, .int .i64 0, .int .i64 0, .int .i64 0]) ?_ 1 _ rfl; refine blk_put (cs := #[.int .i64 0, .int .i64 0, .int .i64 0, .int .i64 0, .int .i64 0, .int .i64 0, .bool false, .int .i64 0, .int .i64 0, .int .i64 0]) ?_ 0 _ rfl; exact HZ.out
 ·exact below_set (below_set (below_set (below_set (below_set (below_set (below_set (below_set (below_set (below_set (HB.out) (Nat.le_succ _)) (Nat.le_succ _)) (Nat.le_succ _)) (Nat.le_succ _)) (Nat.le_succ _)) (Nat.le_succ _)) (Nat.le_succ _)) (Nat.le_succ _)) (Nat.le_succ _)) (Nat.le_succ _)
theorem opsOf_remove (a1 a2 a3 a4 a5 : Int) (a6 : Bool) (a7 a8 a9 : Int) (w : World) : Calls Try.prog 86 #[.agg #[.int .i64 2, .int .i64 a1, .int .i64 a2, .int .i64 a3, .int .i64 a4, .int .i64 a5, .bool a6, .int .i64 a7, .int .i64 a8, .int .i64 a9]] w fun e w' => e = .returned (.iface 154 (.agg #[.int .i64 a7])) ∧ Below w.heap.size w w' := by
 have h := opsOf.calls 2 a1 a2 a3 a4 a5 a6 a7 a8 a9 w
 exact h
set_option maxHeartbeats 4000000 in
set_option maxRecDepth 100000 in
theorem opsBare_remove (a1 a2 a3 a4 a5 : Int) (a6 : Bool) (a7 a8 a9 : Int) (w : World) : Calls Try.prog 85 #[.agg #[.int .i64 2, .int .i64 a1, .int .i64 a2, .int .i64 a3, .int .i64 a4, .int .i64 a5, .bool a6, .int .i64 a7, .int .i64 a8, .int .i64 a9]] w fun e w' => e = .returned (.agg #[.int .i64 2, .int .i64 0, .int .i64 0, .int .i64 0, .int .i64 0, .int .i64 0, .bool false, .int .i64 a7, .int .i64 0, .int .i64 0]) ∧ Below w.heap.size w w' := by
 have hM := opM_remove
 have HOF := Aside0.mk (opsOf_remove a1 a2 a3 a4 a5 a6 a7 a8 a9)
 go_enter Try.func85, Try.ntmps85
 obtain ⟨W, hW⟩ : ∃ W, (w.alloc (.cells #[.int .i64 2, .int .i64 a1, .int .i64 a2, .int .i64 a3, .int .i64 a4, .int .i64 a5, .bool a6, .int .i64 a7, .int .i64 a8, .int .i64 a9] 50)).alloc (.cells #[.int .i64 0, .int .i64 0, .int .i64 0, .int .i64 0, .int .i64 0, .int .i64 0, .bool false, .int .i64 0, .int .i64 0, .int .i64 0] 50) = W := ⟨_, rfl⟩
 have HZ : Aside0 (W.heap[w.heap.size + 1]? = some (.cells #[.int .i64 0, .int .i64 0, .int .i64 0, .int .i64 0, .int .i64 0, .int .i64 0, .bool false, .int .i64 0, .int .i64 0, .int .i64 0] 50 (0, 0))) := ⟨by rw [← hW]; have := heap_alloc_new (w.alloc (.cells #[.int .i64 2, .int .i64 a1, .int .i64 a2, .int .i64 a3, .int .i64 a4, .int .i64 a5, .bool a6, .int .i64 a7, .int .i64 a8, .int .i64 a9] 50)) (.cells #[.int .i64 0, .int .i64 0, .int .i64 0, .int .i64 0, .int .i64 0, .int .i64 0, .bool false, .int .i64 0, .int .i64 0, .int .i64 0] 50); rw [World.size_alloc] at this; exact this⟩
 have HB : Aside0 (Below w.heap.size w W) := ⟨by rw [← hW]; exact below_alloc (below_alloc (Below.refl _ _) _) _⟩
 have HW := Aside0.mk hW
 clear hW
 go_wp2_with fail
 rw [HW.out]
 refine (HOF.out W).mono ?_
 rintro e w1 ⟨rfl, hb1⟩
 have n0_ := Aside0.mk (blk_below HZ.out hb1)
 have n1_ := Aside0.mk (below_step HB.out hb1)
 clear HZ HB hb1
 have HZ := n0_
 have HB := n1_
 clear n0_ n1_
 go_wp2_with fail
 go_at_call 150
 refine (opOp_remove 0 a1 a2 a3 a4 a5 a6 a7 a8 a9 w1).mono ?_
 rintro e w2 ⟨rfl, hb1⟩
 have n0_ := Aside0.mk (blk_below HZ.out hb1)
 have n1_ := Aside0.mk (below_step HB.out hb1)
 clear HZ HB hb1
 have HZ := n0_
 have HB := n1_
 clear n0_ n1_
 have z0 := (show w2.cell? ⟨w.heap.size + 1, 0, none⟩ = some (.int .i64 0) from (blk_cell HZ.out 0).trans rfl)
 have z1 := (show w2.cell? ⟨w.heap.size + 1, 1, none⟩ = some (.int .i64 0) from (blk_cell HZ.out 1).trans rfl)
 have z2 := (show w2.cell? ⟨w.heap.size + 1, 2, none⟩ = some (.int .i64 0) from (blk_cell HZ.out 2).trans rfl)
 have z3 := (show w2.cell? ⟨w.heap.size + 1, 3, none⟩ = some (.int .i64 0) from (blk_cell HZ.out 3).trans rfl)
 have z4 := (show w2.cell? ⟨w.heap.size + 1, 4, none⟩ = some (.int .i64 0) from (blk_cell HZ.out 4).trans rfl)
 have z5 := (show w2.cell? ⟨w.heap.size + 1, 5, none⟩ = some (.int .i64 0) from (blk_cell HZ.out 5).trans rfl)
 have z6 := (show w2.cell? ⟨w.heap.size + 1, 6, none⟩ = some (.bool false) from (blk_cell HZ.out 6).trans rfl)
 have z7 := (show w2.cell? ⟨w.heap.size + 1, 7, none⟩ = some (.int .i64 0) from (blk_cell HZ.out 7).trans rfl)
 have z8 := (show w2.cell? ⟨w.heap.size + 1, 8, none⟩ = some (.int .i64 0) from (blk_cell HZ.out 8).trans rfl)
 have z9 := (show w2.cell? ⟨w.heap.size + 1, 9, none⟩ = some (.int .i64 0) from (blk_cell HZ.out 9).trans rfl)
 have f0 := blk_frozen HZ.out 0
 have f1 := blk_frozen HZ.out 1
 have f2 := blk_frozen HZ.out 2
 have f3 := blk_frozen HZ.out 3
 have f4 := blk_frozen HZ.out 4
 have f5 := blk_frozen HZ.out 5
 have f6 := blk_frozen HZ.out 6
 have f7 := blk_frozen HZ.out 7
 have f8 := blk_frozen HZ.out 8
 have f9 := blk_frozen HZ.out 9
 have hne : w.heap.size + 1 < w2.heap.size := blk_lt HZ.out
 go_wp2
 refine bodyPost_ret (results_cell_row rfl _ _ (w.heap.size + 1) 50 #[.int .i64 2, .int .i64 0, .int .i64 0, .int .i64 0, .int .i64 0, .int .i64 0, .bool false, .int .i64 a7, .int .i64 0, .int .i64 0] (0, 0) _ rfl ?_ Try.underlying50 rfl (by kernel_rfl)) rfl ⟨rfl, ?_⟩
 ·refine blk_put (cs := #[.int .i64 2, .int .i64 0, .int .i64 0, .int .i64 0, .int .i64 0, .int .i64 0, .bool false, .int .i64 a7, .int .i64 0, .int .i64 0]) ?_ 9 _ rfl; refine blk_put (cs := #[.int .i64 2, .int .i64 0, .int .i64 0, .int .i64 0, .int .i64 0, .int .i64 0, .bool false, .int .i64 a7, .int .i64 0, .int .i64 0]) ?_ 8 _ rfl; refine blk_put (cs := #[.int .i64 2, .int .i64 0, .int .i64 0, .int .i64 0, .int .i64 0, .int .i64 0, .bool false, .int .i64 0, .int .i64 0, .int .i64 0]) ?_ 7 _ rfl; refine blk_put (cs := #[.int .i64 2, .int .i64 0, .int .i64 0, .int .i64 0, .int .i64 0, .int .i64 0, .bool false, .int .i64 0, .int .i64 0, .int .i64 0]) ?_ 6 _ rfl; refine blk_put (cs := #[.int .i64 2, .int .i64 0, .int .i64 0, .int .i64 0, .int .i64 0, .int .i64 0, .bool false, .int .i64 0, .int .i64 0, .int .i64 0]) ?_ 5 _ rfl; refine blk_put (cs := #[.int .i64 2, .int .i64 0, .int .i64 0, .int .i64 0, .int .i64 0, .int .i64 0, .bool false, .int .i64 0, .int .i64 0, .int .i64 0]) ?_ 4 _ rfl; refine blk_put (cs := #[.int .i64 2, .int .i64 0, .int .i64 0, .int .i64 0, .int .i64 0, .int .i64 0, .bool false, .int .i64 0, .int .i64 0, .int .i64 0]) ?_ 3 _ rfl; refine blk_put (cs := #[.int .i64 2, .int .i64 0, .int .i64 0, .int .i64 0, .int .i64 0, .int .i64 0, .bool false, .int .i64 0, .int .i64 0, .int .i64 0]) ?_ 2 _ rfl; refine blk_put (cs := #[.int .i64 2, .int .i64 0, .int .i64 0, .int .i64 0, .int .i64 0, .int .i64 0, .bool false, .int .i64 0, .int .i64 0, .int .i64 0]) ?_ 1 _ rfl; refine blk_put (cs := #[.int .i64 0, .int .i64 0, .int .i64 0, .int .i64 0, .int .i64 0, .int .i64 0, .bool false, .int .i64 0, .int .i64 0, .int .i64 0]) ?_ 0 _ rfl; exact HZ.out
 ·exact below_set (below_set (below_set (below_set (below_set (below_set (below_set (below_set (below_set (below_set (HB.out) (Nat.le_succ _)) (Nat.le_succ _)) (Nat.le_succ _)) (Nat.le_succ _)) (Nat.le_succ _)) (Nat.le_succ _)) (Nat.le_succ _)) (Nat.le_succ _)) (Nat.le_succ _)) (Nat.le_succ _)
theorem opsOf_resize (a1 a2 a3 a4 a5 : Int) (a6 : Bool) (a7 a8 a9 : Int) (w : World) : Calls Try.prog 86 #[.agg #[.int .i64 3, .int .i64 a1, .int .i64 a2, .int .i64 a3, .int .i64 a4, .int .i64 a5, .bool a6, .int .i64 a7, .int .i64 a8, .int .i64 a9]] w fun e w' => e = .returned (.iface 156 (.agg #[.int .i64 a7, .int .i64 a8])) ∧ Below w.heap.size w w' := by
 have h := opsOf.calls 3 a1 a2 a3 a4 a5 a6 a7 a8 a9 w
 exact h
set_option maxHeartbeats 4000000 in
set_option maxRecDepth 100000 in
theorem opsBare_resize (a1 a2 a3 a4 a5 : Int) (a6 : Bool) (a7 a8 a9 : Int) (w : World) : Calls Try.prog 85 #[.agg #[.int .i64 3, .int .i64 a1, .int .i64 a2, .int .i64 a3, .int .i64 a4, .int .i64 a5, .bool a6, .int .i64 a7, .int .i64 a8, .int .i64 a9]] w fun e w' => e = .returned (.agg #[.int .i64 3, .int .i64 0, .int .i64 0, .int .i64 0, .int .i64 0, .int .i64 0, .bool false, .int .i64 a7, .int .i64 a8, .int .i64 0]) ∧ Below w.heap.size w w' := by
 have hM := opM_resize
 have HOF := Aside0.mk (opsOf_resize a1 a2 a3 a4 a5 a6 a7 a8 a9)
 go_enter Try.func85, Try.ntmps85
 obtain ⟨W, hW⟩ : ∃ W, (w.alloc (.cells #[.int .i64 3, .int .i64 a1, .int .i64 a2, .int .i64 a3, .int .i64 a4, .int .i64 a5, .bool a6, .int .i64 a7, .int .i64 a8, .int .i64 a9] 50)).alloc (.cells #[.int .i64 0, .int .i64 0, .int .i64 0, .int .i64 0, .int .i64 0, .int .i64 0, .bool false, .int .i64 0, .int .i64 0, .int .i64 0] 50) = W := ⟨_, rfl⟩
 have HZ : Aside0 (W.heap[w.heap.size + 1]? = some (.cells #[.int .i64 0, .int .i64 0, .int .i64 0, .int .i64 0, .int .i64 0, .int .i64 0, .bool false, .int .i64 0, .int .i64 0, .int .i64 0] 50 (0, 0))) := ⟨by rw [← hW]; have := heap_alloc_new (w.alloc (.cells #[.int .i64 3, .int .i64 a1, .int .i64 a2, .int .i64 a3, .int .i64 a4, .int .i64 a5, .bool a6, .int .i64 a7, .int .i64 a8, .int .i64 a9] 50)) (.cells #[.int .i64 0, .int .i64 0, .int .i64 0, .int .i64 0, .int .i64 0, .int .i64 0, .bool false, .int .i64 0, .int .i64 0, .int .i64 0] 50); rw [World.size_alloc] at this; exact this⟩
 have HB : Aside0 (Below w.heap.size w W) := ⟨by rw [← hW]; exact below_alloc (below_alloc (Below.refl _ _) _) _⟩
 have HW := Aside0.mk hW
 clear hW
 go_wp2_with fail
 rw [HW.out]
 refine (HOF.out W).mono ?_
 rintro e w1 ⟨rfl, hb1⟩
 have n0_ := Aside0.mk (blk_below HZ.out hb1)
 have n1_ := Aside0.mk (below_step HB.out hb1)
 clear HZ HB hb1
 have HZ := n0_
 have HB := n1_
 clear n0_ n1_
 go_wp2_with fail
 go_at_call 153
 refine (opOp_resize 0 a1 a2 a3 a4 a5 a6 a7 a8 a9 w1).mono ?_
 rintro e w2 ⟨rfl, hb1⟩
 have n0_ := Aside0.mk (blk_below HZ.out hb1)
 have n1_ := Aside0.mk (below_step HB.out hb1)
 clear HZ HB hb1
 have HZ := n0_
 have HB := n1_
 clear n0_ n1_
 have z0 := (show w2.cell? ⟨w.heap.size + 1, 0, none⟩ = some (.int .i64 0) from (blk_cell HZ.out 0).trans rfl)
 have z1 := (show w2.cell? ⟨w.heap.size + 1, 1, none⟩ = some (.int .i64 0) from (blk_cell HZ.out 1).trans rfl)
 have z2 := (show w2.cell? ⟨w.heap.size + 1, 2, none⟩ = some (.int .i64 0) from (blk_cell HZ.out 2).trans rfl)
 have z3 := (show w2.cell? ⟨w.heap.size + 1, 3, none⟩ = some (.int .i64 0) from (blk_cell HZ.out 3).trans rfl)
 have z4 := (show w2.cell? ⟨w.heap.size + 1, 4, none⟩ = some (.int .i64 0) from (blk_cell HZ.out 4).trans rfl)
 have z5 := (show w2.cell? ⟨w.heap.size + 1, 5, none⟩ = some (.int .i64 0) from (blk_cell HZ.out 5).trans rfl)
 have z6 := (show w2.cell? ⟨w.heap.size + 1, 6, none⟩ = some (.bool false) from (blk_cell HZ.out 6).trans rfl)
 have z7 := (show w2.cell? ⟨w.heap.size + 1, 7, none⟩ = some (.int .i64 0) from (blk_cell HZ.out 7).trans rfl)
 have z8 := (show w2.cell? ⟨w.heap.size + 1, 8, none⟩ = some (.int .i64 0) from (blk_cell HZ.out 8).trans rfl)
 have z9 := (show w2.cell? ⟨w.heap.size + 1, 9, none⟩ = some (.int .i64 0) from (blk_cell HZ.out 9).trans rfl)
 have f0 := blk_frozen HZ.out 0
 have f1 := blk_frozen HZ.out 1
 have f2 := blk_frozen HZ.out 2
 have f3 := blk_frozen HZ.out 3
 have f4 := blk_frozen HZ.out 4
 have f5 := blk_frozen HZ.out 5
 have f6 := blk_frozen HZ.out 6
 have f7 := blk_frozen HZ.out 7
 have f8 := blk_frozen HZ.out 8
 have f9 := blk_frozen HZ.out 9
 have hne : w.heap.size + 1 < w2.heap.size := blk_lt HZ.out
 go_wp2
 refine bodyPost_ret (results_cell_row rfl _ _ (w.heap.size + 1) 50 #[.int .i64 3, .int .i64 0, .int .i64 0, .int .i64 0, .int .i64 0, .int .i64 0, .bool false, .int .i64 a7, .int .i64 a8, .int .i64 0] (0, 0) _ rfl ?_ Try.underlying50 rfl (by kernel_rfl)) rfl ⟨rfl, ?_⟩
 ·refine blk_put (cs := #[.int .i64 3, .int .i64 0, .int .i64 0, .int .i64 0, .int .i64 0, .int .i64 0, .bool false, .int .i64 a7, .int .i64 a8, .int .i64 0]) ?_ 9 _ rfl; refine blk_put (cs := #[.int .i64 3, .int .i64 0, .int .i64 0, .int .i64 0, .int .i64 0, .int .i64 0, .bool false, .int .i64 a7, .int .i64 0, .int .i64 0]) ?_ 8 _ rfl; refine blk_put (cs := #[.int .i64 3, .int .i64 0, .int .i64 0, .int .i64 0, .int .i64 0, .int .i64 0, .bool false, .int .i64 0, .int .i64 0, .int .i64 0]) ?_ 7 _ rfl; refine blk_put (cs := #[.int .i64 3, .int .i64 0, .int .i64 0, .int .i64 0, .int .i64 0, .int .i64 0, .bool false, .int .i64 0, .int .i64 0, .int .i64 0]) ?_ 6 _ rfl; refine blk_put (cs := #[.int .i64 3, .int .i64 0, .int .i64 0, .int .i64 0, .int .i64 0, .int .i64 0, .bool false, .int .i64 0, .int .i64 0, .int .i64 0]) ?_ 5 _ rfl; refine blk_put (cs := #[.int .i64 3, .int .i64 0, .int .i64 0, .int .i64 0, .int .i64 0, .int .i64 0, .bool false, .int .i64 0, .int .i64 0, .int .i64 0]) ?_ 4 _ rfl; refine blk_put (cs := #[.int .i64 3, .int .i64 0, .int .i64 0, .int .i64 0, .int .i64 0, .int .i64 0, .bool false, .int .i64 0, .int .i64 0, .int .i64 0]) ?_ 3 _ rfl; refine blk_put (cs := #[.int .i64 3, .int .i64 0, .int .i64 0, .int .i64 0, .int .i64 0, .int .i64 0, .bool false, .int .i64 0, .int .i64 0, .int .i64 0]) ?_ 2 _ rfl; refine blk_put (cs := #[.int .i64 3, .int .i64 0, .int .i64 0, .int .i64 0, .int .i64 0, .int .i64 0, .bool false, .int .i64 0, .int .i64 0, .int .i64 0]) ?_ 1 _ rfl; refine blk_put (cs := #[.int .i64 0, .int .i64 0, .int .i64 0, .int .i64 0, .int .i64 0, .int .i64 0, .bool false, .int .i64 0, .int .i64 0, .int .i64 0]) ?_ 0 _ rfl; exact HZ.out
 ·exact below_set (below_set (below_set (below_set (below_set (below_set (below_set (below_set (below_set (below_set (HB.out) (Nat.le_succ _)) (Nat.le_succ _)) (Nat.le_succ _)) (Nat.le_succ _)) (Nat.le_succ _)) (Nat.le_succ _)) (Nat.le_succ _)) (Nat.le_succ _)) (Nat.le_succ _)) (Nat.le_succ _)
theorem opsOf_mode (a1 a2 a3 a4 a5 : Int) (a6 : Bool) (a7 a8 a9 : Int) (w : World) : Calls Try.prog 86 #[.agg #[.int .i64 4, .int .i64 a1, .int .i64 a2, .int .i64 a3, .int .i64 a4, .int .i64 a5, .bool a6, .int .i64 a7, .int .i64 a8, .int .i64 a9]] w fun e w' => e = .returned (.iface 158 (.agg #[.int .i64 a9])) ∧ Below w.heap.size w w' := by
 have h := opsOf.calls 4 a1 a2 a3 a4 a5 a6 a7 a8 a9 w
 exact h
set_option maxHeartbeats 4000000 in
set_option maxRecDepth 100000 in
theorem opsBare_mode (a1 a2 a3 a4 a5 : Int) (a6 : Bool) (a7 a8 a9 : Int) (w : World) : Calls Try.prog 85 #[.agg #[.int .i64 4, .int .i64 a1, .int .i64 a2, .int .i64 a3, .int .i64 a4, .int .i64 a5, .bool a6, .int .i64 a7, .int .i64 a8, .int .i64 a9]] w fun e w' => e = .returned (.agg #[.int .i64 4, .int .i64 0, .int .i64 0, .int .i64 0, .int .i64 0, .int .i64 0, .bool false, .int .i64 0, .int .i64 0, .int .i64 a9]) ∧ Below w.heap.size w w' := by
 have hM := opM_mode
 have HOF := Aside0.mk (opsOf_mode a1 a2 a3 a4 a5 a6 a7 a8 a9)
 go_enter Try.func85, Try.ntmps85
 obtain ⟨W, hW⟩ : ∃ W, (w.alloc (.cells #[.int .i64 4, .int .i64 a1, .int .i64 a2, .int .i64 a3, .int .i64 a4, .int .i64 a5, .bool a6, .int .i64 a7, .int .i64 a8, .int .i64 a9] 50)).alloc (.cells #[.int .i64 0, .int .i64 0, .int .i64 0, .int .i64 0, .int .i64 0, .int .i64 0, .bool false, .int .i64 0, .int .i64 0, .int .i64 0] 50) = W := ⟨_, rfl⟩
 have HZ : Aside0 (W.heap[w.heap.size + 1]? = some (.cells #[.int .i64 0, .int .i64 0, .int .i64 0, .int .i64 0, .int .i64 0, .int .i64 0, .bool false, .int .i64 0, .int .i64 0, .int .i64 0] 50 (0, 0))) := ⟨by rw [← hW]; have := heap_alloc_new (w.alloc (.cells #[.int .i64 4, .int .i64 a1, .int .i64 a2, .int .i64 a3, .int .i64 a4, .int .i64 a5, .bool a6, .int .i64 a7, .int .i64 a8, .int .i64 a9] 50)) (.cells #[.int .i64 0, .int .i64 0, .int .i64 0, .int .i64 0, .int .i64 0, .int .i64 0, .bool false, .int .i64 0, .int .i64 0, .int .i64 0] 50); rw [World.size_alloc] at this; exact this⟩
 have HB : Aside0 (Below w.heap.size w W) := ⟨by rw [← hW]; exact below_alloc (below_alloc (Below.refl _ _) _) _⟩
 have HW := Aside0.mk hW
 clear hW
 go_wp2_with fail
 rw [HW.out]
 refine (HOF.out W).mono ?_
 rintro e w1 ⟨rfl, hb1⟩
 have n0_ := Aside0.mk (blk_below HZ.out hb1)
 have n1_ := Aside0.mk (below_step HB.out hb1)
 clear HZ HB hb1
 have HZ := n0_
 have HB := n1_
 clear n0_ n1_
 go_wp2_with fail
 go_at_call 156
 refine (opOp_mode 0 a1 a2 a3 a4 a5 a6 a7 a8 a9 w1).mono ?_
 rintro e w2 ⟨rfl, hb1⟩
 have n0_ := Aside0.mk (blk_below HZ.out hb1)
 have n1_ := Aside0.mk (below_step HB.out hb1)
 clear HZ HB hb1
 have HZ := n0_
 have HB := n1_
 clear n0_ n1_
 have z0 := (show w2.cell? ⟨w.heap.size + 1, 0, none⟩ = some (.int .i64 0) from (blk_cell HZ.out 0).trans rfl)
 have z1 := (show w2.cell? ⟨w.heap.size + 1, 1, none⟩ = some (.int .i64 0) from (blk_cell HZ.out 1).trans rfl)
 have z2 := (show w2.cell? ⟨w.heap.size + 1, 2, none⟩ = some (.int .i64 0) from (blk_cell HZ.out 2).trans rfl)
 have z3 := (show w2.cell? ⟨w.heap.size + 1, 3, none⟩ = some (.int .i64 0) from (blk_cell HZ.out 3).trans rfl)
 have z4 := (show w2.cell? ⟨w.heap.size + 1, 4, none⟩ = some (.int .i64 0) from (blk_cell HZ.out 4).trans rfl)
 have z5 := (show w2.cell? ⟨w.heap.size + 1, 5, none⟩ = some (.int .i64 0) from (blk_cell HZ.out 5).trans rfl)
 have z6 := (show w2.cell? ⟨w.heap.size + 1, 6, none⟩ = some (.bool false) from (blk_cell HZ.out 6).trans rfl)
 have z7 := (show w2.cell? ⟨w.heap.size + 1, 7, none⟩ = some (.int .i64 0) from (blk_cell HZ.out 7).trans rfl)
 have z8 := (show w2.cell? ⟨w.heap.size + 1, 8, none⟩ = some (.int .i64 0) from (blk_cell HZ.out 8).trans rfl)
 have z9 := (show w2.cell? ⟨w.heap.size + 1, 9, none⟩ = some (.int .i64 0) from (blk_cell HZ.out 9).trans rfl)
 have f0 := blk_frozen HZ.out 0
 have f1 := blk_frozen HZ.out 1
 have f2 := blk_frozen HZ.out 2
 have f3 := blk_frozen HZ.out 3
 have f4 := blk_frozen HZ.out 4
 have f5 := blk_frozen HZ.out 5
 have f6 := blk_frozen HZ.out 6
 have f7 := blk_frozen HZ.out 7
 have f8 := blk_frozen HZ.out 8
 have f9 := blk_frozen HZ.out 9
 have hne : w.heap.size + 1 < w2.heap.size := blk_lt HZ.out
 go_wp2
 refine bodyPost_ret (results_cell_row rfl _ _ (w.heap.size + 1) 50 #[.int .i64 4, .int .i64 0, .int .i64 0, .int .i64 0, .int .i64 0, .int .i64 0, .bool false, .int .i64 0, .int .i64 0, .int .i64 a9] (0, 0) _ rfl ?_ Try.underlying50 rfl (by kernel_rfl)) rfl ⟨rfl, ?_⟩
 ·refine blk_put (cs := #[.int .i64 4, .int .i64 0, .int .i64 0, .int .i64 0, .int .i64 0, .int .i64 0, .bool false, .int .i64 0, .int .i64 0, .int .i64 0]) ?_ 9 _ rfl; refine blk_put (cs := #[.int .i64 4, .int .i64 0, .int .i64 0, .int .i64 0, .int .i64 0, .int .i64 0, .bool false, .int .i64 0, .int .i64 0, .int .i64 0]) ?_ 8 _ rfl; refine blk_put (cs := #[.int .i64 4, .int .i64 0, .int .i64 0, .int .i64 0, .int .i64 0, .int .i64 0, .bool false, .int .i64 0, .int .i64 0, .int .i64 0]) ?_ 7 _ rfl; refine blk_put (cs := #[.int .i64 4, .int .i64 0, .int .i64 0, .int .i64 0, .int .i64 0, .int .i64 0, .bool false, .int .i64 0, .int .i64 0, .int .i64 0]) ?_ 6 _ rfl; refine blk_put (cs := #[.int .i64 4, .int .i64 0, .int .i64 0, .int .i64 0, .int .i64 0, .int .i64 0, .bool false, .int .i64 0, .int .i64 0, .int .i64 0]) ?_ 5 _ rfl; refine blk_put (cs := #[.int .i64 4, .int .i64 0, .int .i64 0, .int .i64 0, .int .i64 0, .int .i64 0, .bool false, .int .i64 0, .int .i64 0, .int .i64 0]) ?_ 4 _ rfl; refine blk_put (cs := #[.int .i64 4, .int .i64 0, .int .i64 0, .int .i64 0, .int .i64 0, .int .i64 0, .bool false, .int .i64 0, .int .i64 0, .int .i64 0]) ?_ 3 _ rfl; refine blk_put (cs := #[.int .i64 4, .int .i64 0, .int .i64 0, .int .i64 0, .int .i64 0, .int .i64 0, .bool false, .int .i64 0, .int .i64 0, .int .i64 0]) ?_ 2 _ rfl; refine blk_put (cs := #[.int .i64 4, .int .i64 0, .int .i64 0, .int .i64 0, .int .i64 0, .int .i64 0, .bool false, .int .i64 0, .int .i64 0, .int .i64 0]) ?_ 1 _ rfl; refine blk_put (cs := #[.int .i64 0, .int .i64 0, .int .i64 0, .int .i64 0, .int .i64 0, .int .i64 0, .bool false, .int .i64 0, .int .i64 0, .int .i64 0]) ?_ 0 _ rfl; exact HZ.out
 ·exact below_set (below_set (below_set (below_set (below_set (below_set (below_set (below_set (below_set (below_set (HB.out) (Nat.le_succ _)) (Nat.le_succ _)) (Nat.le_succ _)) (Nat.le_succ _)) (Nat.le_succ _)) (Nat.le_succ _)) (Nat.le_succ _)) (Nat.le_succ _)) (Nat.le_succ _)) (Nat.le_succ _)
theorem opsOf_other (a0 a1 a2 a3 a4 a5 : Int) (a6 : Bool) (a7 a8 a9 : Int) (h1 : a0 ≠ 1) (h2 : a0 ≠ 2) (h3 : a0 ≠ 3) (h4 : a0 ≠ 4) (w : World) : Calls Try.prog 86 #[.agg #[.int .i64 a0, .int .i64 a1, .int .i64 a2, .int .i64 a3, .int .i64 a4, .int .i64 a5, .bool a6, .int .i64 a7, .int .i64 a8, .int .i64 a9]] w fun e w' => e = .returned (.iface 160 (.agg #[.int .i64 a0])) ∧ Below w.heap.size w w' := by
 have h := opsOf.calls a0 a1 a2 a3 a4 a5 a6 a7 a8 a9 w
 unfold opT opP at h
 rw [if4 h1 h2 h3 h4, if4 h1 h2 h3 h4] at h
 exact h
set_option maxHeartbeats 4000000 in
set_option maxRecDepth 100000 in
theorem opsBare_other (a0 a1 a2 a3 a4 a5 : Int) (a6 : Bool) (a7 a8 a9 : Int) (h1 : a0 ≠ 1) (h2 : a0 ≠ 2) (h3 : a0 ≠ 3) (h4 : a0 ≠ 4) (w : World) : Calls Try.prog 85 #[.agg #[.int .i64 a0, .int .i64 a1, .int .i64 a2, .int .i64 a3, .int .i64 a4, .int .i64 a5, .bool a6, .int .i64 a7, .int .i64 a8, .int .i64 a9]] w fun e w' => e = .returned (.agg #[.int .i64 a0, .int .i64 0, .int .i64 0, .int .i64 0, .int .i64 0, .int .i64 0, .bool false, .int .i64 0, .int .i64 0, .int .i64 0]) ∧ Below w.heap.size w w' := by
 have hM := opM_other
 have HOF := Aside0.mk (opsOf_other a0 a1 a2 a3 a4 a5 a6 a7 a8 a9 h1 h2 h3 h4)
 clear h1 h2 h3 h4
 go_enter Try.func85, Try.ntmps85
 obtain ⟨W, hW⟩ : ∃ W, (w.alloc (.cells #[.int .i64 a0, .int .i64 a1, .int .i64 a2, .int .i64 a3, .int .i64 a4, .int .i64 a5, .bool a6, .int .i64 a7, .int .i64 a8, .int .i64 a9] 50)).alloc (.cells #[.int .i64 0, .int .i64 0, .int .i64 0, .int .i64 0, .int .i64 0, .int .i64 0, .bool false, .int .i64 0, .int .i64 0, .int .i64 0] 50) = W := ⟨_, rfl⟩
 have HZ : Aside0 (W.heap[w.heap.size + 1]? = some (.cells #[.int .i64 0, .int .i64 0, .int .i64 0, .int .i64 0, .int .i64 0, .int .i64 0, .bool false, .int .i64 0, .int .i64 0, .int .i64 0] 50 (0, 0))) := ⟨by rw [← hW]; have := heap_alloc_new (w.alloc (.cells #[.int .i64 a0, .int .i64 a1, .int .i64 a2, .int .i64 a3, .int .i64 a4, .int .i64 a5, .bool a6, .int .i64 a7, .int .i64 a8, .int .i64 a9] 50)) (.cells #[.int .i64 0, .int .i64 0, .int .i64 0, .int .i64 0, .int .i64 0, .int .i64 0, .bool false, .int .i64 0, .int .i64 0, .int .i64 0] 50); rw [World.size_alloc] at this; exact this⟩
 have HB : Aside0 (Below w.heap.size w W) := ⟨by rw [← hW]; exact below_alloc (below_alloc (Below.refl _ _) _) _⟩
 have HW := Aside0.mk hW
 clear hW
 go_wp2_with fail
 rw [HW.out]
 refine (HOF.out W).mono ?_
 rintro e w1 ⟨rfl, hb1⟩
 have n0_ := Aside0.mk (blk_below HZ.out hb1)
 have n1_ := Aside0.mk (below_step HB.out hb1)
 clear HZ HB hb1
 have HZ := n0_
 have HB := n1_
 clear n0_ n1_
 go_wp2_with fail
 go_at_call 159
 refine (opOp_other a0 a1 a2 a3 a4 a5 a6 a7 a8 a9 w1).mono ?_
 rintro e w2 ⟨rfl, hb1⟩
 have n0_ := Aside0.mk (blk_below HZ.out hb1)
 have n1_ := Aside0.mk (below_step HB.out hb1)
 clear HZ HB hb1
 have HZ := n0_
 have HB := n1_
 clear n0_ n1_
 have z0 := (show w2.cell? ⟨w.heap.size + 1, 0, none⟩ = some (.int .i64 0) from (blk_cell HZ.out 0).trans rfl)
 have z1 := (show w2.cell? ⟨w.heap.size + 1, 1, none⟩ = some (.int .i64 0) from (blk_cell HZ.out 1).trans rfl)
 have z2 := (show w2.cell? ⟨w.heap.size + 1, 2, none⟩ = some (.int .i64 0) from (blk_cell HZ.out 2).trans rfl)
 have z3 := (show w2.cell? ⟨w.heap.size + 1, 3, none⟩ = some (.int .i64 0) from (blk_cell HZ.out 3).trans rfl)
 have z4 := (show w2.cell? ⟨w.heap.size + 1, 4, none⟩ = some (.int .i64 0) from (blk_cell HZ.out 4).trans rfl)
 have z5 := (show w2.cell? ⟨w.heap.size + 1, 5, none⟩ = some (.int .i64 0) from (blk_cell HZ.out 5).trans rfl)
 have z6 := (show w2.cell? ⟨w.heap.size + 1, 6, none⟩ = some (.bool false) from (blk_cell HZ.out 6).trans rfl)
 have z7 := (show w2.cell? ⟨w.heap.size + 1, 7, none⟩ = some (.int .i64 0) from (blk_cell HZ.out 7).trans rfl)
 have z8 := (show w2.cell? ⟨w.heap.size + 1, 8, none⟩ = some (.int .i64 0) from (blk_cell HZ.out 8).trans rfl)
 have z9 := (show w2.cell? ⟨w.heap.size + 1, 9, none⟩ = some (.int .i64 0) from (blk_cell HZ.out 9).trans rfl)
 have f0 := blk_frozen HZ.out 0
 have f1 := blk_frozen HZ.out 1
 have f2 := blk_frozen HZ.out 2
 have f3 := blk_frozen HZ.out 3
 have f4 := blk_frozen HZ.out 4
 have f5 := blk_frozen HZ.out 5
 have f6 := blk_frozen HZ.out 6
 have f7 := blk_frozen HZ.out 7
 have f8 := blk_frozen HZ.out 8
 have f9 := blk_frozen HZ.out 9
 have hne : w.heap.size + 1 < w2.heap.size := blk_lt HZ.out
 go_wp2
 refine bodyPost_ret (results_cell_row rfl _ _ (w.heap.size + 1) 50 #[.int .i64 a0, .int .i64 0, .int .i64 0, .int .i64 0, .int .i64 0, .int .i64 0, .bool false, .int .i64 0, .int .i64 0, .int .i64 0] (0, 0) _ rfl ?_ Try.underlying50 rfl (by kernel_rfl)) rfl ⟨rfl, ?_⟩
 ·refine blk_put (cs := #[.int .i64 a0, .int .i64 0, .int .i64 0, .int .i64 0, .int .i64 0, .int .i64 0, .bool false, .int .i64 0, .int .i64 0, .int .i64 0]) ?_ 9 _ rfl; refine blk_put (cs := #[.int .i64 a0, .int .i64 0, .int .i64 0, .int .i64 0, .int .i64 0, .int .i64 0, .bool false, .int .i64 0, .int .i64 0, .int .i64 0]) ?_ 8 _ rfl; refine blk_put (cs := #[.int .i64 a0, .int .i64 0, .int .i64 0, .int .i64 0, .int .i64 0, .int .i64 0, .bool false, .int .i64 0, .int .i64 0, .int .i64 0]) ?_ 7 _ rfl; refine blk_put (cs := #[.int .i64 a0, .int .i64 0, .int .i64 0, .int .i64 0, .int .i64 0, .int .i64 0, .bool false, .int .i64 0, .int .i64 0, .int .i64 0]) ?_ 6 _ rfl; refine blk_put (cs := #[.int .i64 a0, .int .i64 0, .int .i64 0, .int .i64 0, .int .i64 0, .int .i64 0, .bool false, .int .i64 0, .int .i64 0, .int .i64 0]) ?_ 5 _ rfl; refine blk_put (cs := #[.int .i64 a0, .int .i64 0, .int .i64 0, .int .i64 0, .int .i64 0, .int .i64 0, .bool false, .int .i64 0, .int .i64 0, .int .i64 0]) ?_ 4 _ rfl; refine blk_put (cs := #[.int .i64 a0, .int .i64 0, .int .i64 0, .int .i64 0, .int .i64 0, .int .i64 0, .bool false, .int .i64 0, .int .i64 0, .int .i64 0]) ?_ 3 _ rfl; refine blk_put (cs := #[.int .i64 a0, .int .i64 0, .int .i64 0, .int .i64 0, .int .i64 0, .int .i64 0, .bool false, .int .i64 0, .int .i64 0, .int .i64 0]) ?_ 2 _ rfl; refine blk_put (cs := #[.int .i64 a0, .int .i64 0, .int .i64 0, .int .i64 0, .int .i64 0, .int .i64 0, .bool false, .int .i64 0, .int .i64 0, .int .i64 0]) ?_ 1 _ rfl; refine blk_put (cs := #[.int .i64 0, .int .i64 0, .int .i64 0, .int .i64 0, .int .i64 0, .int .i64 0, .bool false, .int .i64 0, .int .i64 0, .int .i64 0]) ?_ 0 _ rfl; exact HZ.out
 ·exact below_set (below_set (below_set (below_set (below_set (below_set (below_set (below_set (below_set (below_set (HB.out) (Nat.le_succ _)) (Nat.le_succ _)) (Nat.le_succ _)) (Nat.le_succ _)) (Nat.le_succ _)) (Nat.le_succ _)) (Nat.le_succ _)) (Nat.le_succ _)) (Nat.le_succ _)) (Nat.le_succ _)
def ops_Check.T1 : Bool × List (List Nat × List Nat) := (true, [([], []), ([], []), ([1], [1]), ([0, 2], [0, 2]), ([3, 2], [3]), ([4], [4]), ([5, 4, 4], [4, 5]), ([6, 6, 4], [4, 6]), ([4, 7], [4, 7]), ([8, 7, 0, 1, 2, 3, 4, 5, 6, 7, 8], [8])])
def ops_Check.B1 : List Nat := [0, 0, 2, 7, 15, 31, 63, 127, 255, 511]
theorem ops_Check.tab1 : rtab .any (opsOf Try.f58 1) = ops_Check.T1 := by kernel_rfl
theorem ops_Check.bits1 : waitsOk ops_Check.T1.2 ops_Check.B1 = true := by kernel_rfl
set_option maxHeartbeats 8000000 in
set_option maxRecDepth 100000 in
theorem opsCheckG (T FR : Nat) (p : Value) (a0 a1 a2 a3 a4 a5 : Int) (a6 : Bool) (a7 a8 a9 : Int) (b0 b1 b2 b3 b4 b5 : Int) (b6 : Bool) (b7 b8 b9 : Int) (q : Bool) (hR : ∀ (n : Nat) (v : Value) (w : World), (method (n + 1) T v "horarium/ops.right").run Try.prog w = .ok (FR, v) w) (hD : ∀ (v : Value) (w : World), (callFunc FR #[v]).run Try.prog w = .ok (.enter FR #[v]) w)
  (HBA : Aside0 (∀ w, Calls Try.prog 85 #[.agg #[.int .i64 a0, .int .i64 a1, .int .i64 a2, .int .i64 a3, .int .i64 a4, .int .i64 a5, .bool a6, .int .i64 a7, .int .i64 a8, .int .i64 a9]] w fun e w' => e = .returned (.agg #[.int .i64 b0, .int .i64 b1, .int .i64 b2, .int .i64 b3, .int .i64 b4, .int .i64 b5, .bool b6, .int .i64 b7, .int .i64 b8, .int .i64 b9]) ∧ Below w.heap.size w w')) (HOF : Aside0 (∀ w, Calls Try.prog 86 #[.agg #[.int .i64 a0, .int .i64 a1, .int .i64 a2, .int .i64 a3, .int .i64 a4, .int .i64 a5, .bool a6, .int .i64 a7, .int .i64 a8, .int .i64 a9]] w fun e w' => e = .returned (.iface T p) ∧ Below w.heap.size w w'))
  (HRT : Aside0 (∀ w, Calls Try.prog FR #[p] w fun e w' => e = .returned (.bool q) ∧ Below w.heap.size w w')) (w : World) : Calls Try.prog 58 #[.agg #[.int .i64 a0, .int .i64 a1, .int .i64 a2, .int .i64 a3, .int .i64 a4, .int .i64 a5, .bool a6, .int .i64 a7, .int .i64 a8, .int .i64 a9]] w fun e w' => e = .returned (.bool (opEq a0 a1 a2 a3 a4 a5 a6 a7 a8 a9 b0 b1 b2 b3 b4 b5 b6 b7 b8 b9 && q)) ∧ Below w.heap.size w w' := by
 have HB := Aside0.mk (below_alloc (Below.refl w.heap.size w) (.cells #[.int .i64 a0, .int .i64 a1, .int .i64 a2, .int .i64 a3, .int .i64 a4, .int .i64 a5, .bool a6, .int .i64 a7, .int .i64 a8, .int .i64 a9] 50))
 have BK := Aside0.mk (heap_alloc_new w (.cells #[.int .i64 a0, .int .i64 a1, .int .i64 a2, .int .i64 a3, .int .i64 a4, .int .i64 a5, .bool a6, .int .i64 a7, .int .i64 a8, .int .i64 a9] 50))
 cases hE : opEq a0 a1 a2 a3 a4 a5 a6 a7 a8 a9 b0 b1 b2 b3 b4 b5 b6 b7 b8 b9 with
 | true =>
  have hEq : ∀ (d : Nat) (W : World), (Op.equalIn (d + 3) 50 (.agg #[.int .i64 a0, .int .i64 a1, .int .i64 a2, .int .i64 a3, .int .i64 a4, .int .i64 a5, .bool a6, .int .i64 a7, .int .i64 a8, .int .i64 a9]) (.agg #[.int .i64 b0, .int .i64 b1, .int .i64 b2, .int .i64 b3, .int .i64 b4, .int .i64 b5, .bool b6, .int .i64 b7, .int .i64 b8, .int .i64 b9])).run Try.prog W = .ok true W := fun d W => by
   rw [eqO10]; unfold opEq at hE; rw [hE]
  clear hE
  go_enter Try.func58, Try.ntmps58
  go_upto_region 1 with (fail)
  (try simp only [Act.put, List.setIfInBounds_toArray, List.set_cons_zero, List.set_cons_succ])
  generalize hW : w.alloc (.cells #[.int .i64 a0, .int .i64 a1, .int .i64 a2, .int .i64 a3, .int .i64 a4, .int .i64 a5, .bool a6, .int .i64 a7, .int .i64 a8, .int .i64 a9] 50) = W at HB BK ⊢
  generalize hg : w.heap.size = gt at BK ⊢
  have HG := Aside0.mk hg
  clear hW hg
  replace HB := Aside0.mk (below_drew1 HB.out)
  replace BK := Aside0.mk (blk_drew BK.out)
  refine start_ (n := 10) (S := fun w' => w'.cell? ⟨gt, 0, none⟩ = some (.int .i64 a0) ∧ w'.cell? ⟨gt, 1, none⟩ = some (.int .i64 a1) ∧ w'.cell? ⟨gt, 2, none⟩ = some (.int .i64 a2) ∧ w'.cell? ⟨gt, 3, none⟩ = some (.int .i64 a3) ∧ w'.cell? ⟨gt, 4, none⟩ = some (.int .i64 a4) ∧ w'.cell? ⟨gt, 5, none⟩ = some (.int .i64 a5) ∧ w'.cell? ⟨gt, 6, none⟩ = some (.bool a6) ∧ w'.cell? ⟨gt, 7, none⟩ = some (.int .i64 a7) ∧ w'.cell? ⟨gt, 8, none⟩ = some (.int .i64 a8) ∧ w'.cell? ⟨gt, 9, none⟩ = some (.int .i64 a9)) (ds := []) (pre_ 10 0) (by kernel_rfl) rfl rfl ⟨(blk_cell BK.out 0).trans rfl, (blk_cell BK.out 1).trans rfl, (blk_cell BK.out 2).trans rfl, (blk_cell BK.out 3).trans rfl, (blk_cell BK.out 4).trans rfl, (blk_cell BK.out 5).trans rfl, (blk_cell BK.out 6).trans rfl, (blk_cell BK.out 7).trans rfl, (blk_cell BK.out 8).trans rfl, (blk_cell BK.out 9).trans rfl⟩ (fun hHeld => ?_); refine with_tabW ops_Check.tab1 ops_Check.bits1 (fun HT_ HW_ => ?_)
  iterate 2 (first
   | (refine pureJ_ (v := undef) (a' := ?_) rfl rfl (any_of HT_.out (by kernel_rfl)) (fun _ _ _ h => h) (by (try simp only [Nat.reduceAdd]); first | done | rfl) (Or.inr ⟨by rfl, rfl⟩) ?_ ?_; rotate_left; (simp only [Act.put, List.setIfInBounds_toArray, List.set_cons_zero, List.set_cons_succ, i64_w, i32_w]; rfl))
   | (refine pureJ_ (v := ?_) (a' := ?_) rfl rfl (any_of HT_.out (by kernel_rfl)) (fun _ _ _ h => h) (by (try simp only [Nat.reduceAdd]); first | done | rfl) (Or.inl ⟨by rfl, ?_⟩) ?_ ?_; rotate_left; (intro w'; go_simp; with_reducible rfl); rotate_left; (simp only [Act.put, List.setIfInBounds_toArray, List.set_cons_zero, List.set_cons_succ, i64_w, i32_w]; rfl))
   | (refine takeJ_ (v := ?_) (a' := ?_) rfl rfl (take_ofW HT_.out HW_.out (by kernel_rfl)) (fun _ _ _ h => h) (by (try simp only [Nat.reduceAdd]); first | done | rfl) (Or.inl ⟨by rfl, ?_⟩) hHeld ?_ ?_; rotate_left; (rintro w' ⟨s0_, s1_, s2_, s3_, s4_, s5_, s6_, s7_, s8_, s9_⟩; go_simp; with_reducible rfl); rotate_left; (simp only [Act.put, List.setIfInBounds_toArray, List.set_cons_zero, List.set_cons_succ, i64_w, i32_w]; rfl)))
  refine one_ (i := 2) (N := some 5) (pre_ 10 3) rfl rfl (one_of HT_.out (by kernel_rfl)) (by decide) (fun K_ hK => ?_)
  refine goes_ Try.func85 (by kernel_rfl) rfl #[.agg #[.int .i64 a0, .int .i64 a1, .int .i64 a2, .int .i64 a3, .int .i64 a4, .int .i64 a5, .bool a6, .int .i64 a7, .int .i64 a8, .int .i64 a9]] (by rfl) rfl rfl (by (try simp only [List.map_toArray, List.map_cons, List.map_nil]); first | done | rfl) ?_
  refine (HBA.out _).mono ?_
  rintro e w3 ⟨rfl, hb1⟩
  refine ⟨_, rfl, ?_⟩
  have n0_ := Aside0.mk (blk_below BK.out hb1)
  have n1_ := Aside0.mk (below_step HB.out hb1)
  clear BK HB hb1
  have BK := n0_
  have HB := n1_
  clear n0_ n1_
  refine hK.out _ _ ⟨(blk_cell BK.out 0).trans rfl, (blk_cell BK.out 1).trans rfl, (blk_cell BK.out 2).trans rfl, (blk_cell BK.out 3).trans rfl, (blk_cell BK.out 4).trans rfl, (blk_cell BK.out 5).trans rfl, (blk_cell BK.out 6).trans rfl, (blk_cell BK.out 7).trans rfl, (blk_cell BK.out 8).trans rfl, (blk_cell BK.out 9).trans rfl⟩ (fun hHeld => ?_)
  clear hK K_
  refine norm_ (a' := ?_) ?_ ?_
  rotate_left; (show Act.put _ (some 5) _ = _; simp only [Act.put, List.setIfInBounds_toArray, List.set_cons_zero, List.set_cons_succ, i64_w, i32_w]; rfl)
  iterate 3 (first
   | (refine pureJ_ (v := undef) (a' := ?_) rfl rfl (any_of HT_.out (by kernel_rfl)) (fun _ _ _ h => h) (by (try simp only [Nat.reduceAdd]); first | done | rfl) (Or.inr ⟨by rfl, rfl⟩) ?_ ?_; rotate_left; (simp only [Act.put, List.setIfInBounds_toArray, List.set_cons_zero, List.set_cons_succ, i64_w, i32_w]; rfl))
   | (refine pureJ_ (v := ?_) (a' := ?_) rfl rfl (any_of HT_.out (by kernel_rfl)) (fun _ _ _ h => h) (by (try simp only [Nat.reduceAdd]); first | done | rfl) (Or.inl ⟨by rfl, ?_⟩) ?_ ?_; rotate_left; (intro w'; go_simp; with_reducible rfl); rotate_left; (simp only [Act.put, List.setIfInBounds_toArray, List.set_cons_zero, List.set_cons_succ, i64_w, i32_w]; rfl))
   | (refine takeJ_ (v := ?_) (a' := ?_) rfl rfl (take_ofW HT_.out HW_.out (by kernel_rfl)) (fun _ _ _ h => h) (by (try simp only [Nat.reduceAdd]); first | done | rfl) (Or.inl ⟨by rfl, ?_⟩) hHeld ?_ ?_; rotate_left; (rintro w' ⟨s0_, s1_, s2_, s3_, s4_, s5_, s6_, s7_, s8_, s9_⟩; go_simp; with_reducible rfl); rotate_left; (simp only [Act.put, List.setIfInBounds_toArray, List.set_cons_zero, List.set_cons_succ, i64_w, i32_w]; rfl)))
  refine one_ (i := 6) (N := some 9) (pre_ 10 7) rfl rfl (one_of HT_.out (by kernel_rfl)) (by decide) (fun K_ hK => ?_)
  refine goes_ Try.func86 (by kernel_rfl) rfl #[.agg #[.int .i64 a0, .int .i64 a1, .int .i64 a2, .int .i64 a3, .int .i64 a4, .int .i64 a5, .bool a6, .int .i64 a7, .int .i64 a8, .int .i64 a9]] (by rfl) rfl rfl (by (try simp only [List.map_toArray, List.map_cons, List.map_nil]); first | done | rfl) ?_
  refine (HOF.out _).mono ?_
  rintro e w4 ⟨rfl, hb1⟩
  refine ⟨_, rfl, ?_⟩
  have n0_ := Aside0.mk (blk_below BK.out hb1)
  have n1_ := Aside0.mk (below_step HB.out hb1)
  clear BK HB hb1
  have BK := n0_
  have HB := n1_
  clear n0_ n1_
  refine hK.out _ _ ⟨(blk_cell BK.out 0).trans rfl, (blk_cell BK.out 1).trans rfl, (blk_cell BK.out 2).trans rfl, (blk_cell BK.out 3).trans rfl, (blk_cell BK.out 4).trans rfl, (blk_cell BK.out 5).trans rfl, (blk_cell BK.out 6).trans rfl, (blk_cell BK.out 7).trans rfl, (blk_cell BK.out 8).trans rfl, (blk_cell BK.out 9).trans rfl⟩ (fun hHeld => ?_)
  clear hK K_
  refine norm_ (a' := ?_) ?_ ?_
  rotate_left; (show Act.put _ (some 9) _ = _; simp only [Act.put, List.setIfInBounds_toArray, List.set_cons_zero, List.set_cons_succ, i64_w, i32_w]; rfl)
  refine one_ (i := 7) (N := some 10) (pre_ 10 8) rfl rfl (one_of HT_.out (by kernel_rfl)) (by decide) (fun K_ hK => ?_)
  refine call_ FR #[p] (by rfl) rfl ?_ ?_
  ·go_simp
  refine (HRT.out _).mono ?_
  rintro e w5 ⟨rfl, hb1⟩
  refine ⟨_, rfl, ?_⟩
  have n0_ := Aside0.mk (blk_below BK.out hb1)
  have n1_ := Aside0.mk (below_step HB.out hb1)
  clear BK HB hb1
  have BK := n0_
  have HB := n1_
  clear n0_ n1_
  refine hK.out _ _ ⟨(blk_cell BK.out 0).trans rfl, (blk_cell BK.out 1).trans rfl, (blk_cell BK.out 2).trans rfl, (blk_cell BK.out 3).trans rfl, (blk_cell BK.out 4).trans rfl, (blk_cell BK.out 5).trans rfl, (blk_cell BK.out 6).trans rfl, (blk_cell BK.out 7).trans rfl, (blk_cell BK.out 8).trans rfl, (blk_cell BK.out 9).trans rfl⟩ (fun hHeld => ?_)
  clear hK K_
  refine norm_ (a' := ?_) ?_ ?_
  rotate_left; (show Act.put _ (some 10) _ = _; simp only [Act.put, List.setIfInBounds_toArray, List.set_cons_zero, List.set_cons_succ, i64_w, i32_w]; rfl)
  iterate 2 (first
   | (refine pureJ_ (v := undef) (a' := ?_) rfl rfl (any_of HT_.out (by kernel_rfl)) (fun _ _ _ h => h) (by (try simp only [Nat.reduceAdd]); first | done | rfl) (Or.inr ⟨by rfl, rfl⟩) ?_ ?_; rotate_left; (simp only [Act.put, List.setIfInBounds_toArray, List.set_cons_zero, List.set_cons_succ, i64_w, i32_w]; rfl))
   | (refine pureJ_ (v := ?_) (a' := ?_) rfl rfl (any_of HT_.out (by kernel_rfl)) (fun _ _ _ h => h) (by (try simp only [Nat.reduceAdd]); first | done | rfl) (Or.inl ⟨by rfl, ?_⟩) ?_ ?_; rotate_left; (intro w'; go_simp; with_reducible rfl); rotate_left; (simp only [Act.put, List.setIfInBounds_toArray, List.set_cons_zero, List.set_cons_succ, i64_w, i32_w]; rfl))
   | (refine takeJ_ (v := ?_) (a' := ?_) rfl rfl (take_ofW HT_.out HW_.out (by kernel_rfl)) (fun _ _ _ h => h) (by (try simp only [Nat.reduceAdd]); first | done | rfl) (Or.inl ⟨by rfl, ?_⟩) hHeld ?_ ?_; rotate_left; (rintro w' ⟨s0_, s1_, s2_, s3_, s4_, s5_, s6_, s7_, s8_, s9_⟩; go_simp; with_reducible rfl); rotate_left; (simp only [Act.put, List.setIfInBounds_toArray, List.set_cons_zero, List.set_cons_succ, i64_w, i32_w]; rfl)))
  refine done_ (done_of HT_.out (by kernel_rfl)) ?_
  try go_wp2
  go_ret
  exact ⟨by first | rfl | (simp; done), HB.out⟩
 | false =>
  have hEq : ∀ (d : Nat) (W : World), (Op.equalIn (d + 3) 50 (.agg #[.int .i64 a0, .int .i64 a1, .int .i64 a2, .int .i64 a3, .int .i64 a4, .int .i64 a5, .bool a6, .int .i64 a7, .int .i64 a8, .int .i64 a9]) (.agg #[.int .i64 b0, .int .i64 b1, .int .i64 b2, .int .i64 b3, .int .i64 b4, .int .i64 b5, .bool b6, .int .i64 b7, .int .i64 b8, .int .i64 b9])).run Try.prog W = .ok false W := fun d W => by
   rw [eqO10]; unfold opEq at hE; rw [hE]
  clear hE
  clear hR hD
  go_enter Try.func58, Try.ntmps58
  go_upto_region 1 with (fail)
  (try simp only [Act.put, List.setIfInBounds_toArray, List.set_cons_zero, List.set_cons_succ])
  generalize hW : w.alloc (.cells #[.int .i64 a0, .int .i64 a1, .int .i64 a2, .int .i64 a3, .int .i64 a4, .int .i64 a5, .bool a6, .int .i64 a7, .int .i64 a8, .int .i64 a9] 50) = W at HB BK ⊢
  generalize hg : w.heap.size = gt at BK ⊢
  have HG := Aside0.mk hg
  clear hW hg
  replace HB := Aside0.mk (below_drew1 HB.out)
  replace BK := Aside0.mk (blk_drew BK.out)
  refine start_ (n := 10) (S := fun w' => w'.cell? ⟨gt, 0, none⟩ = some (.int .i64 a0) ∧ w'.cell? ⟨gt, 1, none⟩ = some (.int .i64 a1) ∧ w'.cell? ⟨gt, 2, none⟩ = some (.int .i64 a2) ∧ w'.cell? ⟨gt, 3, none⟩ = some (.int .i64 a3) ∧ w'.cell? ⟨gt, 4, none⟩ = some (.int .i64 a4) ∧ w'.cell? ⟨gt, 5, none⟩ = some (.int .i64 a5) ∧ w'.cell? ⟨gt, 6, none⟩ = some (.bool a6) ∧ w'.cell? ⟨gt, 7, none⟩ = some (.int .i64 a7) ∧ w'.cell? ⟨gt, 8, none⟩ = some (.int .i64 a8) ∧ w'.cell? ⟨gt, 9, none⟩ = some (.int .i64 a9)) (ds := []) (pre_ 10 0) (by kernel_rfl) rfl rfl ⟨(blk_cell BK.out 0).trans rfl, (blk_cell BK.out 1).trans rfl, (blk_cell BK.out 2).trans rfl, (blk_cell BK.out 3).trans rfl, (blk_cell BK.out 4).trans rfl, (blk_cell BK.out 5).trans rfl, (blk_cell BK.out 6).trans rfl, (blk_cell BK.out 7).trans rfl, (blk_cell BK.out 8).trans rfl, (blk_cell BK.out 9).trans rfl⟩ (fun hHeld => ?_); refine with_tabW ops_Check.tab1 ops_Check.bits1 (fun HT_ HW_ => ?_)
  iterate 2 (first
   | (refine pureJ_ (v := undef) (a' := ?_) rfl rfl (any_of HT_.out (by kernel_rfl)) (fun _ _ _ h => h) (by (try simp only [Nat.reduceAdd]); first | done | rfl) (Or.inr ⟨by rfl, rfl⟩) ?_ ?_; rotate_left; (simp only [Act.put, List.setIfInBounds_toArray, List.set_cons_zero, List.set_cons_succ, i64_w, i32_w]; rfl))
   | (refine pureJ_ (v := ?_) (a' := ?_) rfl rfl (any_of HT_.out (by kernel_rfl)) (fun _ _ _ h => h) (by (try simp only [Nat.reduceAdd]); first | done | rfl) (Or.inl ⟨by rfl, ?_⟩) ?_ ?_; rotate_left; (intro w'; go_simp; with_reducible rfl); rotate_left; (simp only [Act.put, List.setIfInBounds_toArray, List.set_cons_zero, List.set_cons_succ, i64_w, i32_w]; rfl))
   | (refine takeJ_ (v := ?_) (a' := ?_) rfl rfl (take_ofW HT_.out HW_.out (by kernel_rfl)) (fun _ _ _ h => h) (by (try simp only [Nat.reduceAdd]); first | done | rfl) (Or.inl ⟨by rfl, ?_⟩) hHeld ?_ ?_; rotate_left; (rintro w' ⟨s0_, s1_, s2_, s3_, s4_, s5_, s6_, s7_, s8_, s9_⟩; go_simp; with_reducible rfl); rotate_left; (simp only [Act.put, List.setIfInBounds_toArray, List.set_cons_zero, List.set_cons_succ, i64_w, i32_w]; rfl)))
  refine one_ (i := 2) (N := some 5) (pre_ 10 3) rfl rfl (one_of HT_.out (by kernel_rfl)) (by decide) (fun K_ hK => ?_)
  refine goes_ Try.func85 (by kernel_rfl) rfl #[.agg #[.int .i64 a0, .int .i64 a1, .int .i64 a2, .int .i64 a3, .int .i64 a4, .int .i64 a5, .bool a6, .int .i64 a7, .int .i64 a8, .int .i64 a9]] (by rfl) rfl rfl (by (try simp only [List.map_toArray, List.map_cons, List.map_nil]); first | done | rfl) ?_
  refine (HBA.out _).mono ?_
  rintro e w3 ⟨rfl, hb1⟩
  refine ⟨_, rfl, ?_⟩
  have n0_ := Aside0.mk (blk_below BK.out hb1)
  have n1_ := Aside0.mk (below_step HB.out hb1)
  clear BK HB hb1
  have BK := n0_
  have HB := n1_
  clear n0_ n1_
  refine hK.out _ _ ⟨(blk_cell BK.out 0).trans rfl, (blk_cell BK.out 1).trans rfl, (blk_cell BK.out 2).trans rfl, (blk_cell BK.out 3).trans rfl, (blk_cell BK.out 4).trans rfl, (blk_cell BK.out 5).trans rfl, (blk_cell BK.out 6).trans rfl, (blk_cell BK.out 7).trans rfl, (blk_cell BK.out 8).trans rfl, (blk_cell BK.out 9).trans rfl⟩ (fun hHeld => ?_)
  clear hK K_
  refine norm_ (a' := ?_) ?_ ?_
  rotate_left; (show Act.put _ (some 5) _ = _; simp only [Act.put, List.setIfInBounds_toArray, List.set_cons_zero, List.set_cons_succ, i64_w, i32_w]; rfl)
  iterate 3 (first
   | (refine pureJ_ (v := undef) (a' := ?_) rfl rfl (any_of HT_.out (by kernel_rfl)) (fun _ _ _ h => h) (by (try simp only [Nat.reduceAdd]); first | done | rfl) (Or.inr ⟨by rfl, rfl⟩) ?_ ?_; rotate_left; (simp only [Act.put, List.setIfInBounds_toArray, List.set_cons_zero, List.set_cons_succ, i64_w, i32_w]; rfl))
   | (refine pureJ_ (v := ?_) (a' := ?_) rfl rfl (any_of HT_.out (by kernel_rfl)) (fun _ _ _ h => h) (by (try simp only [Nat.reduceAdd]); first | done | rfl) (Or.inl ⟨by rfl, ?_⟩) ?_ ?_; rotate_left; (intro w'; go_simp; with_reducible rfl); rotate_left; (simp only [Act.put, List.setIfInBounds_toArray, List.set_cons_zero, List.set_cons_succ, i64_w, i32_w]; rfl))
   | (refine takeJ_ (v := ?_) (a' := ?_) rfl rfl (take_ofW HT_.out HW_.out (by kernel_rfl)) (fun _ _ _ h => h) (by (try simp only [Nat.reduceAdd]); first | done | rfl) (Or.inl ⟨by rfl, ?_⟩) hHeld ?_ ?_; rotate_left; (rintro w' ⟨s0_, s1_, s2_, s3_, s4_, s5_, s6_, s7_, s8_, s9_⟩; go_simp; with_reducible rfl); rotate_left; (simp only [Act.put, List.setIfInBounds_toArray, List.set_cons_zero, List.set_cons_succ, i64_w, i32_w]; rfl)))
  refine one_ (i := 6) (N := some 9) (pre_ 10 7) rfl rfl (one_of HT_.out (by kernel_rfl)) (by decide) (fun K_ hK => ?_)
  refine off_ (by rfl) ?_
  refine hK.out _ _ ⟨(blk_cell BK.out 0).trans rfl, (blk_cell BK.out 1).trans rfl, (blk_cell BK.out 2).trans rfl, (blk_cell BK.out 3).trans rfl, (blk_cell BK.out 4).trans rfl, (blk_cell BK.out 5).trans rfl, (blk_cell BK.out 6).trans rfl, (blk_cell BK.out 7).trans rfl, (blk_cell BK.out 8).trans rfl, (blk_cell BK.out 9).trans rfl⟩ (fun hHeld => ?_)
  clear hK K_
  refine norm_ (a' := ?_) ?_ ?_
  rotate_left; (show Act.put _ (some 9) _ = _; simp only [Act.put, List.setIfInBounds_toArray, List.set_cons_zero, List.set_cons_succ, i64_w, i32_w]; rfl)
  refine one_ (i := 7) (N := some 10) (pre_ 10 8) rfl rfl (one_of HT_.out (by kernel_rfl)) (by decide) (fun K_ hK => ?_)
  refine off_ (by rfl) ?_
  refine hK.out _ _ ⟨(blk_cell BK.out 0).trans rfl, (blk_cell BK.out 1).trans rfl, (blk_cell BK.out 2).trans rfl, (blk_cell BK.out 3).trans rfl, (blk_cell BK.out 4).trans rfl, (blk_cell BK.out 5).trans rfl, (blk_cell BK.out 6).trans rfl, (blk_cell BK.out 7).trans rfl, (blk_cell BK.out 8).trans rfl, (blk_cell BK.out 9).trans rfl⟩ (fun hHeld => ?_)
  clear hK K_
  refine norm_ (a' := ?_) ?_ ?_
  rotate_left; (show Act.put _ (some 10) _ = _; simp only [Act.put, List.setIfInBounds_toArray, List.set_cons_zero, List.set_cons_succ, i64_w, i32_w]; rfl)
  iterate 2 (first
   | (refine pureJ_ (v := undef) (a' := ?_) rfl rfl (any_of HT_.out (by kernel_rfl)) (fun _ _ _ h => h) (by (try simp only [Nat.reduceAdd]); first | done | rfl) (Or.inr ⟨by rfl, rfl⟩) ?_ ?_; rotate_left; (simp only [Act.put, List.setIfInBounds_toArray, List.set_cons_zero, List.set_cons_succ, i64_w, i32_w]; rfl))
   | (refine pureJ_ (v := ?_) (a' := ?_) rfl rfl (any_of HT_.out (by kernel_rfl)) (fun _ _ _ h => h) (by (try simp only [Nat.reduceAdd]); first | done | rfl) (Or.inl ⟨by rfl, ?_⟩) ?_ ?_; rotate_left; (intro w'; go_simp; with_reducible rfl); rotate_left; (simp only [Act.put, List.setIfInBounds_toArray, List.set_cons_zero, List.set_cons_succ, i64_w, i32_w]; rfl))
   | (refine takeJ_ (v := ?_) (a' := ?_) rfl rfl (take_ofW HT_.out HW_.out (by kernel_rfl)) (fun _ _ _ h => h) (by (try simp only [Nat.reduceAdd]); first | done | rfl) (Or.inl ⟨by rfl, ?_⟩) hHeld ?_ ?_; rotate_left; (rintro w' ⟨s0_, s1_, s2_, s3_, s4_, s5_, s6_, s7_, s8_, s9_⟩; go_simp; with_reducible rfl); rotate_left; (simp only [Act.put, List.setIfInBounds_toArray, List.set_cons_zero, List.set_cons_succ, i64_w, i32_w]; rfl)))
  refine done_ (done_of HT_.out (by kernel_rfl)) ?_
  try go_wp2
  go_ret
  exact ⟨by first | rfl | (simp; done), HB.out⟩
theorem opsCheck_admit (a1 a2 a3 a4 a5 : Int) (a6 : Bool) (a7 a8 a9 : Int) (w : World) : Calls Try.prog 58 #[.agg #[.int .i64 1, .int .i64 a1, .int .i64 a2, .int .i64 a3, .int .i64 a4, .int .i64 a5, .bool a6, .int .i64 a7, .int .i64 a8, .int .i64 a9]] w fun e w' => e = .returned (.bool (opEq 1 a1 a2 a3 a4 a5 a6 a7 a8 a9 1 a1 a2 a3 a4 a5 a6 0 0 0 && (taskB ⟨a1, a2, a3, a4, a5⟩ && (!a6 || decide (a3 = a4))))) ∧ Below w.heap.size w w' :=
 opsCheckG 152 149 (.agg #[.int .i64 a1, .int .i64 a2, .int .i64 a3, .int .i64 a4, .int .i64 a5, .bool a6]) 1 a1 a2 a3 a4 a5 a6 a7 a8 a9 1 a1 a2 a3 a4 a5 a6 0 0 0 _ opR_admit opD_admit ⟨opsBare_admit a1 a2 a3 a4 a5 a6 a7 a8 a9⟩ ⟨opsOf_admit a1 a2 a3 a4 a5 a6 a7 a8 a9⟩ ⟨opRt_admit 0 a1 a2 a3 a4 a5 a6 a7 a8 a9⟩ w
theorem opsCheck_remove (a1 a2 a3 a4 a5 : Int) (a6 : Bool) (a7 a8 a9 : Int) (w : World) : Calls Try.prog 58 #[.agg #[.int .i64 2, .int .i64 a1, .int .i64 a2, .int .i64 a3, .int .i64 a4, .int .i64 a5, .bool a6, .int .i64 a7, .int .i64 a8, .int .i64 a9]] w fun e w' => e = .returned (.bool (opEq 2 a1 a2 a3 a4 a5 a6 a7 a8 a9 2 0 0 0 0 0 false a7 0 0 && (decide (0 ≤ a7) && decide (a7 ≤ 1023)))) ∧ Below w.heap.size w w' :=
 opsCheckG 154 152 (.agg #[.int .i64 a7]) 2 a1 a2 a3 a4 a5 a6 a7 a8 a9 2 0 0 0 0 0 false a7 0 0 _ opR_remove opD_remove ⟨opsBare_remove a1 a2 a3 a4 a5 a6 a7 a8 a9⟩ ⟨opsOf_remove a1 a2 a3 a4 a5 a6 a7 a8 a9⟩ ⟨opRt_remove 0 a1 a2 a3 a4 a5 a6 a7 a8 a9⟩ w
theorem opsCheck_resize (a1 a2 a3 a4 a5 : Int) (a6 : Bool) (a7 a8 a9 : Int) (w : World) : Calls Try.prog 58 #[.agg #[.int .i64 3, .int .i64 a1, .int .i64 a2, .int .i64 a3, .int .i64 a4, .int .i64 a5, .bool a6, .int .i64 a7, .int .i64 a8, .int .i64 a9]] w fun e w' => e = .returned (.bool (opEq 3 a1 a2 a3 a4 a5 a6 a7 a8 a9 3 0 0 0 0 0 false a7 a8 0 && (decide (0 ≤ a7) && (decide (a7 ≤ 1023) && (decide (1 ≤ a8) && decide (a8 ≤ 2147483648)))))) ∧ Below w.heap.size w w' :=
 opsCheckG 156 155 (.agg #[.int .i64 a7, .int .i64 a8]) 3 a1 a2 a3 a4 a5 a6 a7 a8 a9 3 0 0 0 0 0 false a7 a8 0 _ opR_resize opD_resize ⟨opsBare_resize a1 a2 a3 a4 a5 a6 a7 a8 a9⟩ ⟨opsOf_resize a1 a2 a3 a4 a5 a6 a7 a8 a9⟩ ⟨opRt_resize 0 a1 a2 a3 a4 a5 a6 a7 a8 a9⟩ w
theorem opsCheck_mode (a1 a2 a3 a4 a5 : Int) (a6 : Bool) (a7 a8 a9 : Int) (w : World) : Calls Try.prog 58 #[.agg #[.int .i64 4, .int .i64 a1, .int .i64 a2, .int .i64 a3, .int .i64 a4, .int .i64 a5, .bool a6, .int .i64 a7, .int .i64 a8, .int .i64 a9]] w fun e w' => e = .returned (.bool (opEq 4 a1 a2 a3 a4 a5 a6 a7 a8 a9 4 0 0 0 0 0 false 0 0 a9 && (decide (0 ≤ a9) && decide (a9 < 4)))) ∧ Below w.heap.size w w' :=
 opsCheckG 158 158 (.agg #[.int .i64 a9]) 4 a1 a2 a3 a4 a5 a6 a7 a8 a9 4 0 0 0 0 0 false 0 0 a9 _ opR_mode opD_mode ⟨opsBare_mode a1 a2 a3 a4 a5 a6 a7 a8 a9⟩ ⟨opsOf_mode a1 a2 a3 a4 a5 a6 a7 a8 a9⟩ ⟨opRt_mode 0 a1 a2 a3 a4 a5 a6 a7 a8 a9⟩ w
theorem opsCheck_other (a0 a1 a2 a3 a4 a5 : Int) (a6 : Bool) (a7 a8 a9 : Int) (h1 : a0 ≠ 1) (h2 : a0 ≠ 2) (h3 : a0 ≠ 3) (h4 : a0 ≠ 4) (w : World) : Calls Try.prog 58 #[.agg #[.int .i64 a0, .int .i64 a1, .int .i64 a2, .int .i64 a3, .int .i64 a4, .int .i64 a5, .bool a6, .int .i64 a7, .int .i64 a8, .int .i64 a9]] w fun e w' => e = .returned (.bool (opEq a0 a1 a2 a3 a4 a5 a6 a7 a8 a9 a0 0 0 0 0 0 false 0 0 0 && (false))) ∧ Below w.heap.size w w' :=
 opsCheckG 160 161 (.agg #[.int .i64 a0]) a0 a1 a2 a3 a4 a5 a6 a7 a8 a9 a0 0 0 0 0 0 false 0 0 0 _ opR_other opD_other ⟨opsBare_other a0 a1 a2 a3 a4 a5 a6 a7 a8 a9 h1 h2 h3 h4⟩ ⟨opsOf_other a0 a1 a2 a3 a4 a5 a6 a7 a8 a9 h1 h2 h3 h4⟩ ⟨opRt_other a0 a1 a2 a3 a4 a5 a6 a7 a8 a9⟩ w
def opB (a0 a1 a2 a3 a4 a5 : Int) (a6 : Bool) (a7 a8 a9 : Int) : Bool := if a0 = 1 then opEq a0 a1 a2 a3 a4 a5 a6 a7 a8 a9 1 a1 a2 a3 a4 a5 a6 0 0 0 && (taskB ⟨a1, a2, a3, a4, a5⟩ && (!a6 || decide (a3 = a4))) else if a0 = 2 then opEq a0 a1 a2 a3 a4 a5 a6 a7 a8 a9 2 0 0 0 0 0 false a7 0 0 && (decide (0 ≤ a7) && decide (a7 ≤ 1023)) else if a0 = 3 then opEq a0 a1 a2 a3 a4 a5 a6 a7 a8 a9 3 0 0 0 0 0 false a7 a8 0 && (decide (0 ≤ a7) && (decide (a7 ≤ 1023) && (decide (1 ≤ a8) && decide (a8 ≤ 2147483648)))) else if a0 = 4 then opEq a0 a1 a2 a3 a4 a5 a6 a7 a8 a9 4 0 0 0 0 0 false 0 0 a9 && (decide (0 ≤ a9) && decide (a9 < 4)) else opEq a0 a1 a2 a3 a4 a5 a6 a7 a8 a9 a0 0 0 0 0 0 false 0 0 0 && (false)
def ops_Check.f (a0_0 a0_1 a0_2 a0_3 a0_4 a0_5 : Int) (a0_6 : Bool) (a0_7 a0_8 a0_9 : Int) : Option Bool := some (opB a0_0 a0_1 a0_2 a0_3 a0_4 a0_5 a0_6 a0_7 a0_8 a0_9)
theorem opsCheckAll (a0 a1 a2 a3 a4 a5 : Int) (a6 : Bool) (a7 a8 a9 : Int) (w : World) : Calls Try.prog 58 #[.agg #[.int .i64 a0, .int .i64 a1, .int .i64 a2, .int .i64 a3, .int .i64 a4, .int .i64 a5, .bool a6, .int .i64 a7, .int .i64 a8, .int .i64 a9]] w fun e w' => e = .returned (.bool (opB a0 a1 a2 a3 a4 a5 a6 a7 a8 a9)) ∧ Below w.heap.size w w' := by
 revert a0
 refine op_cases ?_ ?_ ?_ ?_ ?_
 ·exact opsCheck_admit a1 a2 a3 a4 a5 a6 a7 a8 a9 w
 ·exact opsCheck_remove a1 a2 a3 a4 a5 a6 a7 a8 a9 w
 ·exact opsCheck_resize a1 a2 a3 a4 a5 a6 a7 a8 a9 w
 ·exact opsCheck_mode a1 a2 a3 a4 a5 a6 a7 a8 a9 w
 ·intro a h1 h2 h3 h4
  unfold opB
  rw [if4 h1 h2 h3 h4]
  exact opsCheck_other a a1 a2 a3 a4 a5 a6 a7 a8 a9 h1 h2 h3 h4 w
theorem ops_Check.calls (a0_0 a0_1 a0_2 a0_3 a0_4 a0_5 : Int) (a0_6 : Bool) (a0_7 a0_8 a0_9 : Int) (r : Bool) (w : World) (h : ops_Check.f a0_0 a0_1 a0_2 a0_3 a0_4 a0_5 a0_6 a0_7 a0_8 a0_9 = some r) :
  Calls Try.prog 58 #[.agg #[.int .i64 a0_0, .int .i64 a0_1, .int .i64 a0_2, .int .i64 a0_3, .int .i64 a0_4, .int .i64 a0_5, .bool a0_6, .int .i64 a0_7, .int .i64 a0_8, .int .i64 a0_9]] w fun e w' => e = .returned (.bool r) ∧ Below w.heap.size w w' := by
 obtain rfl := Option.some.inj h
 exact opsCheckAll _ _ _ _ _ _ _ _ _ _ w

/-! ### cmp_isNaN_int: function 113 -/
def cmp_isNaN_int.f (a0 : Int) : Option (Bool) := some (a0 != a0)
set_option maxHeartbeats 8000000 in
set_option maxRecDepth 100000 in
theorem cmp_isNaN_int.calls (a0 : Int) (r : Bool) (w : World) (h : cmp_isNaN_int.f a0 = some r) :
  Calls Try.prog 113 #[.int .i64 a0] w fun e w' => e = .returned (.bool r) ∧ Drawn0 w w' := by
 have H : (some (a0 != a0)) = some r := h
 clear h
 obtain rfl := Option.some.inj H
 go_enter Try.func113, Try.ntmps113
 go_wp2
 go_ret
 exact ⟨by first | rfl | (simp; done) | (simp only [i64_w]; done) | (simp [*]; done), by repeat (first | exact Drawn0.refl _ | apply Drawn0.step)⟩

/-! ### cmp_Compare_int: function 89 -/
def cmp_Compare_int.f (a0 : Int) (a1 : Int) : Option (Int) := (cmp_isNaN_int.f a0).bind fun t136 => ((cmp_isNaN_int.f a1).bind fun t137 => (if t136 = true then (if t137 = true then (some 0) else (some (-1))) else (if t137 = true then (some 1) else (if a0 < a1 then (some (-1)) else (if a0 > a1 then (some 1) else (some 0))))))
set_option maxHeartbeats 8000000 in
set_option maxRecDepth 100000 in
theorem cmp_Compare_int.calls (a0 : Int) (a1 : Int) (r : Int) (w : World) (h : cmp_Compare_int.f a0 a1 = some r) :
  Calls Try.prog 89 #[.int .i64 a0, .int .i64 a1] w fun e w' => e = .returned (.int .i64 r) ∧ Drawn0 w w' := by
 have H : ((cmp_isNaN_int.f a0).bind fun t136 => ((cmp_isNaN_int.f a1).bind fun t137 => (if t136 = true then (if t137 = true then (some 0) else (some (-1))) else (if t137 = true then (some 1) else (if a0 < a1 then (some (-1)) else (if a0 > a1 then (some 1) else (some 0))))))) = some r := h
 clear h
 replace H := Option.bind_eq_some_iff.mp H
 obtain ⟨t136, A30, H⟩ := H
 replace H : ((cmp_isNaN_int.f a1).bind fun t137 => (if t136 = true then (if t137 = true then (some 0) else (some (-1))) else (if t137 = true then (some 1) else (if a0 < a1 then (some (-1)) else (if a0 > a1 then (some 1) else (some 0)))))) = some r := H
 have A3 := Aside0.mk A30
 clear A30
 replace H := Option.bind_eq_some_iff.mp H
 obtain ⟨t137, A40, H⟩ := H
 replace H : (if t136 = true then (if t137 = true then (some 0) else (some (-1))) else (if t137 = true then (some 1) else (if a0 < a1 then (some (-1)) else (if a0 > a1 then (some 1) else (some 0))))) = some r := H
 have A4 := Aside0.mk A40
 clear A40
 by_cases c5 : t136 = true
 ·subst c5
  have H1 : (if t137 = true then (some 0) else (some (-1))) = some r := by rw [if_pos rfl] at H; exact H
  clear H
  have H := H1
  clear H1
  by_cases c6 : t137 = true
  ·subst c6
   have H1 : (some 0) = some r := by rw [if_pos rfl] at H; exact H
   clear H
   have H := H1
   clear H1
   obtain rfl := Option.some.inj H
   go_enter Try.func89, Try.ntmps89
   go_wp2_with (first | ((with_reducible refine gate_callee (f := 113) rfl ?_); refine goesL_ (some 8) rfl rfl Try.func113 (by kernel_rfl) rfl #[.int .i64 a0] rfl (by (try simp only [List.map_toArray, List.map_cons, List.map_nil]); first | done | rfl | (simp only [List.length_drop, List.length_take]; rfl)) ?_; (with_reducible refine (cmp_isNaN_int.calls a0 true _ A3.out).mono ?_); rintro e w' ⟨rfl, ⟨nd, rfl⟩⟩; refine ⟨_, rfl, ?_⟩) | ((with_reducible refine gate_callee (f := 113) rfl ?_); refine goesL_ (some 10) rfl rfl Try.func113 (by kernel_rfl) rfl #[.int .i64 a1] rfl (by (try simp only [List.map_toArray, List.map_cons, List.map_nil]); first | done | rfl | (simp only [List.length_drop, List.length_take]; rfl)) ?_; (with_reducible refine (cmp_isNaN_int.calls a1 true _ A4.out).mono ?_); rintro e w' ⟨rfl, ⟨nd, rfl⟩⟩; refine ⟨_, rfl, ?_⟩))
   go_ret
   exact ⟨by first | rfl | (simp; done) | (simp only [i64_w]; done) | (simp [*]; done), by repeat (first | exact Drawn0.refl _ | apply Drawn0.step)⟩
  ·replace c6 := Bool.eq_false_iff.mpr c6
   subst c6
   have H1 : (some (-1)) = some r := by rw [if_neg (show ¬ (false = true) by decide)] at H; exact H
   clear H
   have H := H1
   clear H1
   obtain rfl := Option.some.inj H
   go_enter Try.func89, Try.ntmps89
   go_wp2_with (first | ((with_reducible refine gate_callee (f := 113) rfl ?_); refine goesL_ (some 8) rfl rfl Try.func113 (by kernel_rfl) rfl #[.int .i64 a0] rfl (by (try simp only [List.map_toArray, List.map_cons, List.map_nil]); first | done | rfl | (simp only [List.length_drop, List.length_take]; rfl)) ?_; (with_reducible refine (cmp_isNaN_int.calls a0 true _ A3.out).mono ?_); rintro e w' ⟨rfl, ⟨nd, rfl⟩⟩; refine ⟨_, rfl, ?_⟩) | ((with_reducible refine gate_callee (f := 113) rfl ?_); refine goesL_ (some 10) rfl rfl Try.func113 (by kernel_rfl) rfl #[.int .i64 a1] rfl (by (try simp only [List.map_toArray, List.map_cons, List.map_nil]); first | done | rfl | (simp only [List.length_drop, List.length_take]; rfl)) ?_; (with_reducible refine (cmp_isNaN_int.calls a1 false _ A4.out).mono ?_); rintro e w' ⟨rfl, ⟨nd, rfl⟩⟩; refine ⟨_, rfl, ?_⟩))
   go_ret
   exact ⟨by first | rfl | (simp; done) | (simp only [i64_w]; done) | (simp [*]; done), by repeat (first | exact Drawn0.refl _ | apply Drawn0.step)⟩
 ·replace c5 := Bool.eq_false_iff.mpr c5
  subst c5
  have H1 : (if t137 = true then (some 1) else (if a0 < a1 then (some (-1)) else (if a0 > a1 then (some 1) else (some 0)))) = some r := by rw [if_neg (show ¬ (false = true) by decide)] at H; exact H
  clear H
  have H := H1
  clear H1
  by_cases c7 : t137 = true
  ·subst c7
   have H1 : (some 1) = some r := by rw [if_pos rfl] at H; exact H
   clear H
   have H := H1
   clear H1
   obtain rfl := Option.some.inj H
   go_enter Try.func89, Try.ntmps89
   go_wp2_with (first | ((with_reducible refine gate_callee (f := 113) rfl ?_); refine goesL_ (some 8) rfl rfl Try.func113 (by kernel_rfl) rfl #[.int .i64 a0] rfl (by (try simp only [List.map_toArray, List.map_cons, List.map_nil]); first | done | rfl | (simp only [List.length_drop, List.length_take]; rfl)) ?_; (with_reducible refine (cmp_isNaN_int.calls a0 false _ A3.out).mono ?_); rintro e w' ⟨rfl, ⟨nd, rfl⟩⟩; refine ⟨_, rfl, ?_⟩) | ((with_reducible refine gate_callee (f := 113) rfl ?_); refine goesL_ (some 10) rfl rfl Try.func113 (by kernel_rfl) rfl #[.int .i64 a1] rfl (by (try simp only [List.map_toArray, List.map_cons, List.map_nil]); first | done | rfl | (simp only [List.length_drop, List.length_take]; rfl)) ?_; (with_reducible refine (cmp_isNaN_int.calls a1 true _ A4.out).mono ?_); rintro e w' ⟨rfl, ⟨nd, rfl⟩⟩; refine ⟨_, rfl, ?_⟩))
   go_ret
   exact ⟨by first | rfl | (simp; done) | (simp only [i64_w]; done) | (simp [*]; done), by repeat (first | exact Drawn0.refl _ | apply Drawn0.step)⟩
  ·replace c7 := Bool.eq_false_iff.mpr c7
   subst c7
   have H1 : (if a0 < a1 then (some (-1)) else (if a0 > a1 then (some 1) else (some 0))) = some r := by rw [if_neg (show ¬ (false = true) by decide)] at H; exact H
   clear H
   have H := H1
   clear H1
   by_cases c8 : a0 < a1
   ·rw [if_pos c8] at H
    have c8b0 : decide (a0 < a1) = true := decide_eq_true c8
    clear c8
    obtain rfl := Option.some.inj H
    go_enter Try.func89, Try.ntmps89
    go_wp2_with (first | ((with_reducible refine gate_callee (f := 113) rfl ?_); refine goesL_ (some 8) rfl rfl Try.func113 (by kernel_rfl) rfl #[.int .i64 a0] rfl (by (try simp only [List.map_toArray, List.map_cons, List.map_nil]); first | done | rfl | (simp only [List.length_drop, List.length_take]; rfl)) ?_; (with_reducible refine (cmp_isNaN_int.calls a0 false _ A3.out).mono ?_); rintro e w' ⟨rfl, ⟨nd, rfl⟩⟩; refine ⟨_, rfl, ?_⟩) | ((with_reducible refine gate_callee (f := 113) rfl ?_); refine goesL_ (some 10) rfl rfl Try.func113 (by kernel_rfl) rfl #[.int .i64 a1] rfl (by (try simp only [List.map_toArray, List.map_cons, List.map_nil]); first | done | rfl | (simp only [List.length_drop, List.length_take]; rfl)) ?_; (with_reducible refine (cmp_isNaN_int.calls a1 false _ A4.out).mono ?_); rintro e w' ⟨rfl, ⟨nd, rfl⟩⟩; refine ⟨_, rfl, ?_⟩))
    go_ret
    exact ⟨by first | rfl | (simp; done) | (simp only [i64_w]; done) | (simp [*]; done), by repeat (first | exact Drawn0.refl _ | apply Drawn0.step)⟩
   ·rw [if_neg c8] at H
    have c8b0 : decide (a0 < a1) = false := decide_eq_false c8
    clear c8
    by_cases c9 : a0 > a1
    ·rw [if_pos c9] at H
     have c9b0 : decide (a1 < a0) = true := decide_eq_true c9
     clear c9
     obtain rfl := Option.some.inj H
     go_enter Try.func89, Try.ntmps89
     go_wp2_with (first | ((with_reducible refine gate_callee (f := 113) rfl ?_); refine goesL_ (some 8) rfl rfl Try.func113 (by kernel_rfl) rfl #[.int .i64 a0] rfl (by (try simp only [List.map_toArray, List.map_cons, List.map_nil]); first | done | rfl | (simp only [List.length_drop, List.length_take]; rfl)) ?_; (with_reducible refine (cmp_isNaN_int.calls a0 false _ A3.out).mono ?_); rintro e w' ⟨rfl, ⟨nd, rfl⟩⟩; refine ⟨_, rfl, ?_⟩) | ((with_reducible refine gate_callee (f := 113) rfl ?_); refine goesL_ (some 10) rfl rfl Try.func113 (by kernel_rfl) rfl #[.int .i64 a1] rfl (by (try simp only [List.map_toArray, List.map_cons, List.map_nil]); first | done | rfl | (simp only [List.length_drop, List.length_take]; rfl)) ?_; (with_reducible refine (cmp_isNaN_int.calls a1 false _ A4.out).mono ?_); rintro e w' ⟨rfl, ⟨nd, rfl⟩⟩; refine ⟨_, rfl, ?_⟩))
     go_ret
     exact ⟨by first | rfl | (simp; done) | (simp only [i64_w]; done) | (simp [*]; done), by repeat (first | exact Drawn0.refl _ | apply Drawn0.step)⟩
    ·rw [if_neg c9] at H
     have c9b0 : decide (a1 < a0) = false := decide_eq_false c9
     clear c9
     obtain rfl := Option.some.inj H
     go_enter Try.func89, Try.ntmps89
     go_wp2_with (first | ((with_reducible refine gate_callee (f := 113) rfl ?_); refine goesL_ (some 8) rfl rfl Try.func113 (by kernel_rfl) rfl #[.int .i64 a0] rfl (by (try simp only [List.map_toArray, List.map_cons, List.map_nil]); first | done | rfl | (simp only [List.length_drop, List.length_take]; rfl)) ?_; (with_reducible refine (cmp_isNaN_int.calls a0 false _ A3.out).mono ?_); rintro e w' ⟨rfl, ⟨nd, rfl⟩⟩; refine ⟨_, rfl, ?_⟩) | ((with_reducible refine gate_callee (f := 113) rfl ?_); refine goesL_ (some 10) rfl rfl Try.func113 (by kernel_rfl) rfl #[.int .i64 a1] rfl (by (try simp only [List.map_toArray, List.map_cons, List.map_nil]); first | done | rfl | (simp only [List.length_drop, List.length_take]; rfl)) ?_; (with_reducible refine (cmp_isNaN_int.calls a1 false _ A4.out).mono ?_); rintro e w' ⟨rfl, ⟨nd, rfl⟩⟩; refine ⟨_, rfl, ?_⟩))
     go_ret
     exact ⟨by first | rfl | (simp; done) | (simp only [i64_w]; done) | (simp [*]; done), by repeat (first | exact Drawn0.refl _ | apply Drawn0.step)⟩

/-! ### table_at_1: function 88 -/
def table_at_1.f (a0_0 : Int) (a0_1 : Int) (a0_2 : Int) (a0_3 : Int) (a0_4 : Int) (a0_5 : Bool) (a1 : Int) : Option (Int) := (cmp_Compare_int.f a0_0 a1).bind fun t139 => (some t139)
set_option maxHeartbeats 8000000 in
set_option maxRecDepth 100000 in
theorem table_at_1.calls (a0_0 : Int) (a0_1 : Int) (a0_2 : Int) (a0_3 : Int) (a0_4 : Int) (a0_5 : Bool) (a1 : Int) (r : Int) (w : World) (h : table_at_1.f a0_0 a0_1 a0_2 a0_3 a0_4 a0_5 a1 = some r) :
  Calls Try.prog 88 #[.agg #[.int .i64 a0_0, .int .i64 a0_1, .int .i64 a0_2, .int .i64 a0_3, .int .i64 a0_4, .bool a0_5], .int .i64 a1] w fun e w' => e = .returned (.int .i64 r) ∧ Below w.heap.size w w' := by
 have hu60 := Try.underlying60
 have HB := Aside0.mk (Below.refl w.heap.size w)
 have H : ((cmp_Compare_int.f a0_0 a1).bind fun t139 => (some t139)) = some r := h
 clear h
 replace H := Option.bind_eq_some_iff.mp H
 obtain ⟨t139, A30, H⟩ := H
 replace H : (some t139) = some r := H
 have A3 := Aside0.mk A30
 clear A30
 obtain rfl := Option.some.inj H
 go_enter Try.func88, Try.ntmps88
 go_wp2_with (first | ((with_reducible refine gate_dst (N := 2) rfl ?_); refine box_event ?hg (N := 2) ?hd (cs := #[.int .i64 a0_0, .int .i64 a0_1, .int .i64 a0_2, .int .i64 a0_3, .int .i64 a0_4, .bool a0_5]) (t := 60) ?hr ?_; (case hd => rfl); (case hg => rfl); (case hr => first | (go_simp; done) | (go_simp; rfl)); intro gb138 hg w4 hbox hb; have n0_ := Aside0.mk (below_step bl_ hb); have n1_ := Aside0.mk (hbox); have n2_ := Aside0.mk ((by rw [hg]; exact (below_size bl_) : w.heap.size ≤ gb138)); have n3_ := Aside0.mk ((by rw [hg]; exact (below_size bl_) : w.heap.size ≤ gb138)); clear HB; have HB := n0_; have BK138 := n1_; have GW138 := n2_; have GE138 := n3_; clear n0_ n1_ n2_ n3_; clear hb hbox hg; have hcz5_0 : w4.cell? ⟨gb138, 0, none⟩ = some (.int .i64 a0_0) := (blk_cell BK138.out 0).trans rfl; have hcz5_1 : w4.cell? ⟨gb138, 1, none⟩ = some (.int .i64 a0_1) := (blk_cell BK138.out 1).trans rfl; have hcz5_2 : w4.cell? ⟨gb138, 2, none⟩ = some (.int .i64 a0_2) := (blk_cell BK138.out 2).trans rfl; have hcz5_3 : w4.cell? ⟨gb138, 3, none⟩ = some (.int .i64 a0_3) := (blk_cell BK138.out 3).trans rfl; have hcz5_4 : w4.cell? ⟨gb138, 4, none⟩ = some (.int .i64 a0_4) := (blk_cell BK138.out 4).trans rfl; have hcz5_5 : w4.cell? ⟨gb138, 5, none⟩ = some (.bool a0_5) := (blk_cell BK138.out 5).trans rfl; have hfz5_0 := blk_frozen BK138.out 0; have hfz5_1 := blk_frozen BK138.out 1; have hfz5_2 := blk_frozen BK138.out 2; have hfz5_3 := blk_frozen BK138.out 3; have hfz5_4 := blk_frozen BK138.out 4; have hfz5_5 := blk_frozen BK138.out 5) | ((with_reducible refine gate_callee (f := 89) rfl ?_); refine goesL_ (some 9) rfl rfl Try.func89 (by kernel_rfl) rfl #[.int .i64 a0_0, .int .i64 a1] rfl (by (try simp only [List.map_toArray, List.map_cons, List.map_nil]); first | done | rfl | (simp only [List.length_drop, List.length_take]; rfl)) ?_; (with_reducible refine (cmp_Compare_int.calls a0_0 a1 t139 _ A3.out).mono ?_); rintro e w' ⟨rfl, ⟨nd, rfl⟩⟩; refine ⟨_, rfl, ?_⟩))
 go_ret
 exact ⟨by first | rfl | (simp [errW_none, errW_some] <;> rfl) | (simp [*, errW_none, errW_some] <;> rfl), bl_⟩

end Go.Proofs.Ythkagoomlmgcdaa.PJudgeFits
