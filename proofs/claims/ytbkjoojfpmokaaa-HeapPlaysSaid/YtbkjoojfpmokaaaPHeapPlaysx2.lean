-- Made by px.py (a program of this session, over the kit's printer) out of the translation. Not trusted: Lean checks it.
import Derived.Test.YtbkjoojfpmokaaaPHeapPlaysx0
import Derived.Test.YtbkjoojfpmokaaaPHeapPlaysx1
namespace Go.Proofs.Ytbkjoojfpmokaaa.PHeapPlays
open Go.RowKit Go.Proofs.YtbkjoojfpmokaaaW.PrintWords Go.Proofs.YtbkjoojfpmokaaaW.PrintLast Go.Proofs.YtbkjoojfpmokaaaW.PrintMore
attribute [local go_sem] max2_int min2_int max_two min_two max_three min_three max_four min_four   -- for this text's walks alone
set_option linter.unusedVariables false
set_option linter.unusedSimpArgs false

/-! ### horariumlaw16_HeapPlays: function 6 (by hand) -/
open Hm in
/-- A tree in memory. -/
def Nd (w : World) : Option Addr → HT Int → Prop
  | p, .leaf => p = none
  | p, .node x l r => ∃ (b : Nat) (d : Int) (pl pr : Option Addr), p = some ⟨b, 0, none⟩ ∧ w.heap[b]? = some (.cells #[.int .i64 x, .int .i64 d, .pointer pl, .pointer pr] 104 (0, 0)) ∧ Nd w pl l ∧ Nd w pr r
open Hm in
theorem Nd.grown {w w' : World} {row : Option Nat} (hg : w.grownBy w' row) (hr : ∀ r cs, row = some r → w.heap[r]? ≠ some (.cells cs 104 (0, 0))) : ∀ {p : Option Addr} {t : HT Int}, Nd w p t → Nd w' p t
  | _, .leaf, h => h
  | _, .node x l r, h => by
    obtain ⟨b, d, pl, pr, h1, h2, h3, h4⟩ := h
    exact ⟨b, d, pl, pr, h1, blk_grown h2 hg (fun e => hr b _ e.symm h2), h3.grown hg hr, h4.grown hg hr⟩
open Hm in
theorem Nd.below {w w' : World} (hb : Below w.heap.size w w') {p : Option Addr} {t : HT Int} (h : Nd w p t) : Nd w' p t := h.grown (grown_of_below hb none) (fun r cs e => by cases e)
theorem Nd.drew {w : World} {p : Option Addr} {t : Hm.HT Int} (h : Nd w p t) : Nd w.drew p t := h.below (below_drew (Below.refl _ _))
theorem Nd.alloc {w : World} {p : Option Addr} {t : Hm.HT Int} (h : Nd w p t) (o : Obj) : Nd (w.alloc o) p t := h.below (below_alloc (Below.refl _ _) o)
open Hm in
theorem Nd.set {w : World} {g T : Nat} {cs : Array Value} (hg : w.heap[g]? = some (.cells cs T (0, 0))) (hT : T ≠ 104) (j : Nat) (u : Value) {p : Option Addr} {t : HT Int} (h : Nd w p t) : Nd (w.setCell ⟨g, j, none⟩ u) p t :=
  h.grown (PxR.grown_set w ⟨g, j, none⟩ u) (fun r cs' e h2 => by
    cases e
    rw [hg] at h2
    injection h2 with h2
    injection h2 with _ h2
    exact hT h2)
open Hm in
/-- A heap in memory, with the numbers of a row (in any order). -/
def HpP (w : World) (g : Nat) (L : List Int) : Prop := ∃ (v : Option Addr) (t : HT Int), w.heap[g]? = some (.cells #[.func (.func 21) #[] #[], .pointer v, .int .i64 (L.length : Int)] 41 (0, 0)) ∧ Nd w v t ∧ t.ord (fun a b => decide (a < b)) ∧ t.toL.Perm L
theorem less.calls (a b : Int) (w : World) : Calls Try.prog 21 #[.int .i64 a, .int .i64 b] w fun e w' => e = .returned (.bool (decide (a < b))) ∧ w = w' := by
  go_enter Try.func21, Try.ntmps21
  go_wp2
  go_ret
  exact ⟨rfl, rfl⟩
open Hm in
theorem way.calls (v : Option Addr) (t : HT Int) (w : World) (h : Nd w v t) : ∃ d : Int, Calls Try.prog 102 #[.pointer v] w fun e w' => e = .returned (.int .i64 d) ∧ w = w' := by
  cases t with
  | leaf =>
    obtain rfl : v = none := h
    refine ⟨0, ?_⟩
    go_enter Try.func102, Try.ntmps102
    go_wp2
    go_ret
    exact ⟨rfl, rfl⟩
  | node x l r =>
    obtain ⟨b, d, vl, vr, rfl, h2, _, _⟩ := h
    refine ⟨d, ?_⟩
    have c1 : w.cell? ⟨b, 1, none⟩ = some (.int .i64 d) := (blk_cell h2 1).trans rfl
    clear h2
    go_enter Try.func102, Try.ntmps102
    go_wp2
    go_ret
    exact ⟨rfl, rfl⟩
theorem eqlFn_no {P : Program} (w : World) {t : TypeId} {x : TypeDesc} (f : Fn) (a b : Array Value) (h : P.underlying t = some x) (hx : ∃ p q r, x = .func p q r) : (binOp .eql t (.func f a b) .nilFunc).run P w = .ok (.bool false) w := by
  obtain ⟨p, q, r, rfl⟩ := hx
  have key1 : ∀ d, (Op.equalIn (d + 1) t (.func f a b) .nilFunc).run P w = .ok false w := by
    intro d; simp [Op.equalIn, run_underlying h]
  have key : (Op.equal t (.func f a b) .nilFunc).run P w = .ok false w := key1 9999
  simp only [binOp]
  simp [key]
theorem eqlFn_yes {P : Program} (w : World) {t : TypeId} {x : TypeDesc} (h : P.underlying t = some x) (hx : ∃ p q r, x = .func p q r) : (binOp .eql t .nilFunc .nilFunc).run P w = .ok (.bool true) w := by
  obtain ⟨p, q, r, rfl⟩ := hx
  have key1 : ∀ d, (Op.equalIn (d + 1) t .nilFunc .nilFunc).run P w = .ok true w := by
    intro d; simp [Op.equalIn, run_underlying h]
  have key : (Op.equal t .nilFunc .nilFunc).run P w = .ok true w := key1 9999
  simp only [binOp]
  simp [key]
theorem eqlLess_no (w : World) (f : Fn) (a b : Array Value) : (binOp .eql 26 (.func f a b) .nilFunc).run Try.prog w = .ok (.bool false) w := eqlFn_no w f a b Try.underlying26 ⟨_, _, _, rfl⟩
theorem eqlLess_yes (w : World) : (binOp .eql 26 .nilFunc .nilFunc).run Try.prog w = .ok (.bool true) w := eqlFn_yes w Try.underlying26 ⟨_, _, _, rfl⟩
attribute [local go_sem] eqlLess_no eqlLess_yes
set_option maxRecDepth 100000 in
theorem none_no.calls (g : Nat) (f v n : Value) (w : World) (hf : f = .func (.func 21) #[] #[]) (hg : w.heap[g]? = some (.cells #[f, v, n] 41 (0, 0))) : Calls Try.prog 69 #[.pointer (some ⟨g, 0, none⟩)] w fun e w' => e = .returned (.bool false) ∧ w = w' := by
  subst hf
  have c0 : w.cell? ⟨g, 0, none⟩ = some (.func (.func 21) #[] #[]) := (blk_cell hg 0).trans rfl
  clear hg
  go_enter Try.func69, Try.ntmps69
  go_wp2
  go_ret
  exact ⟨rfl, rfl⟩
set_option maxRecDepth 100000 in
theorem new.calls (w : World) : Calls Try.prog 20 #[.func (.func 21) #[] #[]] w fun e w' => ∃ g, e = .returned (.pointer (some ⟨g, 0, none⟩)) ∧ w.heap.size ≤ g ∧ HpP w' g [] ∧ Below w.heap.size w w' := by
  go_enter Try.func20, Try.ntmps20
  go_wp2
  go_ret
  exact ⟨w.heap.size, rfl, Nat.le_refl _, ⟨_, .leaf, heap_alloc_new w _, rfl, trivial, List.Perm.refl _⟩, below_alloc (Below.refl _ _) _⟩
theorem goesv_ {P : Program} {ops : Array Oper} {Q : Exit → Act → World → Prop} {oi : Oper} {N : Option Tmp} {a : Act} {w : World} {K : Act → World → Prop} {f : FuncId} {fn : Func} {as_ : Array Operand} {ts : Array TypeId} (hf : P.funcs[f]? = some fn) (hname : (fn.name == "runtime.NumGoroutine") = false) (hb : fn.body.isSome = true) (c : Operand) (bound : Array Value) (args : Array Value)
    (hc : a.eval c = .func (.func f) #[] bound) (hw : Region.wanted oi (yielded ops a.tmps) = true) (hN : oi.dst = N) (hop : oi.op = .call { callee := .value c, args := as_, argTypes := ts }) (hargs : as_.map a.eval ++ bound = args)
    (h : Calls P f args w fun e w' => ∃ v, e = .returned v ∧ K (a.put N v) w') : if Region.wanted oi (yielded ops a.tmps) = true then Oper.wp P oi a w K Q else K (a.put N undef) w := by
  refine call_ f args hw hN ?_ h
  have he := enters_ hf hname hb args w
  unfold execOp
  simp [hop, hc, resolve, Deferred.ofValue, invoke, hargs, he]
def meld.T5 : Bool × List (List Nat × List Nat) := (true, [([], []), ([0], [0]), ([1], [1]), ([2], [2]), ([], []), ([4], [4]), ([5], [5]), ([6], [6]), ([], []), ([8], [8]), ([9], [9]), ([10], [10]), ([3, 7, 11], [3, 7, 11]), ([12, 12], [12])])
def meld.B5 : List Nat := [0, 1, 3, 7, 0, 16, 48, 112, 0, 256, 768, 1792, 4095, 8191]
theorem meld.tab5 : rtab .any (opsOf Try.f70 5) = meld.T5 := by kernel_rfl
theorem meld.bits5 : waitsOk meld.T5.2 meld.B5 = true := by kernel_rfl
def meld.T7 : Bool × List (List Nat × List Nat) := (true, [([], []), ([0], [0]), ([1], [1]), ([2], [2]), ([], []), ([], []), ([5], [5]), ([6], [6]), ([7], [7]), ([], []), ([4, 8, 9], [4, 8, 9]), ([3, 10, 0, 1, 2, 3], [3]), ([10, 11, 0, 1, 2, 3, 4, 5, 6, 7, 8, 9, 10, 11], [10])])
def meld.B7 : List Nat := [0, 1, 3, 7, 0, 0, 32, 96, 224, 0, 1008, 2047, 4095]
theorem meld.tab7 : rtab .any (opsOf Try.f70 7) = meld.T7 := by kernel_rfl
theorem meld.bits7 : waitsOk meld.T7.2 meld.B7 = true := by kernel_rfl
def meld.T10 : Bool × List (List Nat × List Nat) := (true, [([], []), ([0], [0]), ([1], [1]), ([2], [2]), ([], []), ([4], [4]), ([5], [5]), ([], []), ([], []), ([3, 6, 7, 8], [3, 6, 7, 8]), ([9], [9]), ([10, 5, 0, 1, 2, 3, 4, 5, 6, 7, 8, 9, 10], [10])])
def meld.B10 : List Nat := [0, 1, 3, 7, 0, 16, 48, 0, 0, 511, 1023, 2047]
theorem meld.tab10 : rtab .any (opsOf Try.f70 10) = meld.T10 := by kernel_rfl
theorem meld.bits10 : waitsOk meld.T10.2 meld.B10 = true := by kernel_rfl
open Hm in
set_option maxHeartbeats 8000000 in
set_option maxRecDepth 100000 in
theorem meld.calls (g : Nat) (v0 n0 : Value) : ∀ (m : Nat) (a b : HT Int) (va vb : Option Addr) (w : World), 2 * (a.toL.length + b.toL.length) + HT.sw (fun a b => decide (a < b)) a b ≤ m → w.heap[g]? = some (.cells #[.func (.func 21) #[] #[], v0, n0] 41 (0, 0)) → Nd w va a → Nd w vb b → a.ord (fun a b => decide (a < b)) → b.ord (fun a b => decide (a < b)) →
    Calls Try.prog 70 #[.pointer (some ⟨g, 0, none⟩), .pointer va, .pointer vb] w fun e w' => ∃ (v : Option Addr) (t : HT Int), e = .returned (.pointer v) ∧ Nd w' v t ∧ t.ord (fun a b => decide (a < b)) ∧ t.toL.Perm (a.toL ++ b.toL) ∧ Below w.heap.size w w' := by
  intro m
  induction m with
  | zero =>
    intro a b va vb w hm hg ha hb oa ob
    have ea : a = .leaf := by cases a with | leaf => rfl | node x l r => simp [HT.toL] at hm; omega
    subst ea
    obtain rfl : va = none := ha
    have HB := Lib.hid hb
    have OB := Lib.hid ob
    clear hb oa ob hm hg
    go_enter Try.func70, Try.ntmps70
    go_wp2
    go_ret
    exact ⟨_, b, rfl, HB.out, OB.out, by simp [HT.toL], Below.refl _ _⟩
  | succ m ih =>
    intro a b va vb w hm hg ha hb oa ob
    cases a with
    | leaf =>
      obtain rfl : va = none := ha
      have HB := Lib.hid hb
      have OB := Lib.hid ob
      clear hb oa ob hm hg ih
      go_enter Try.func70, Try.ntmps70
      go_wp2
      go_ret
      exact ⟨_, b, rfl, HB.out, OB.out, by simp [HT.toL], Below.refl _ _⟩
    | node x l r =>
    obtain ⟨ba, da, val, var, rfl, hba, hal, har⟩ := ha
    cases b with
    | leaf =>
      obtain rfl : vb = none := hb
      have HA := Lib.hid (show Nd w (some ⟨ba, 0, none⟩) (.node x l r) from ⟨ba, da, val, var, rfl, hba, hal, har⟩)
      have OA := Lib.hid oa
      clear hba hal har oa ob hm hg ih
      go_enter Try.func70, Try.ntmps70
      go_wp2
      go_ret
      exact ⟨_, .node x l r, rfl, HA.out, OA.out, by simp [HT.toL], Below.refl _ _⟩
    | node y bl br =>
    obtain ⟨bb, db, vbl, vbr, rfl, hbb, hbl, hbr⟩ := hb
    have cg : w.cell? ⟨g, 0, none⟩ = some (.func (.func 21) #[] #[]) := (blk_cell hg 0).trans rfl
    have cax : w.cell? ⟨ba, 0, none⟩ = some (.int .i64 x) := (blk_cell hba 0).trans rfl
    have cbx : w.cell? ⟨bb, 0, none⟩ = some (.int .i64 y) := (blk_cell hbb 0).trans rfl
    have HBA := Lib.hid hba
    have HBB := Lib.hid hbb
    have HG := Lib.hid hg
    have HAL := Lib.hid hal
    have HAR := Lib.hid har
    have NB := Lib.hid (show Nd w (some ⟨bb, 0, none⟩) (.node y bl br) from ⟨bb, db, vbl, vbr, rfl, hbb, hbl, hbr⟩)
    have NA := Lib.hid (show Nd w (some ⟨ba, 0, none⟩) (.node x l r) from ⟨ba, da, val, var, rfl, hba, hal, har⟩)
    have OA := Lib.hid oa
    have OB := Lib.hid ob
    by_cases hxy : y < x
    · have hlt : decide (y < x) = true := decide_eq_true hxy
      have hm2 : 2 * ((HT.node y bl br).toL.length + (HT.node x l r).toL.length) + HT.sw (fun a b => decide (a < b)) (HT.node y bl br) (HT.node x l r) ≤ m := by
        simp only [HT.sw, hlt, if_true] at hm ⊢
        rw [if_neg (by simp; omega)]
        omega
      have HI := Lib.hid (fun (W : World) (hG : W.heap[g]? = some (.cells #[.func (.func 21) #[] #[], v0, n0] 41 (0, 0))) (hA : Nd W (some ⟨ba, 0, none⟩) (.node x l r)) (hB : Nd W (some ⟨bb, 0, none⟩) (.node y bl br)) => ih (.node y bl br) (.node x l r) (some ⟨bb, 0, none⟩) (some ⟨ba, 0, none⟩) W hm2 hG hB hA OB.out OA.out)
      clear hm2
      clear hba hbb hg hal har hbl hbr oa ob hm ih
      go_enter Try.func70, Try.ntmps70
      go_wp2
      have HBW := Lib.hid (below_drew (Below.refl w.heap.size w))
      replace HG := Lib.hid (blk_drew HG.out)
      replace NA := Lib.hid NA.out.drew
      replace NB := Lib.hid NB.out.drew
      refine start_ (n := 14) (S := fun w' => w'.cell? ⟨g, 0, none⟩ = some (.func (.func 21) #[] #[]) ∧ w'.cell? ⟨bb, 0, none⟩ = some (.int .i64 y) ∧ w'.cell? ⟨ba, 0, none⟩ = some (.int .i64 x)) (ds := []) #[false, false, false, false, false, false, false, false, false, false, false, false, false, false] (by kernel_rfl) rfl rfl ⟨cg, cbx, cax⟩ (fun hHeld => ?_); refine with_tabW meld.tab5 meld.bits5 (fun HT_ HW_ => ?_)
      generalize w.drew = w1 at HG NA NB HBW hHeld ⊢
      refine pure_ (i := 0) (N := some 18) (v := ?_) (a' := ?_) #[true, false, false, false, false, false, false, false, false, false, false, false, false, false] rfl rfl (any_of HT_.out (by kernel_rfl)) (fun _ _ _ h => h) (Or.inl ⟨by rfl, ?_⟩) ?_ ?_
      rotate_left
      · intro w'
        go_simp
        with_reducible rfl
      rotate_left
      · simp only [Act.put, List.setIfInBounds_toArray, List.set_cons_zero, List.set_cons_succ, i64_w, i32_w]
        rfl
      refine pure_ (i := 1) (N := some 19) (v := ?_) (a' := ?_) #[true, true, false, false, false, false, false, false, false, false, false, false, false, false] rfl rfl (any_of HT_.out (by kernel_rfl)) (fun _ _ _ h => h) (Or.inl ⟨by rfl, ?_⟩) ?_ ?_
      rotate_left
      · intro w'
        go_simp
        with_reducible rfl
      rotate_left
      · simp only [Act.put, List.setIfInBounds_toArray, List.set_cons_zero, List.set_cons_succ, i64_w, i32_w]
        rfl
      refine pure_ (i := 2) (N := some 20) (v := ?_) (a' := ?_) #[true, true, true, false, false, false, false, false, false, false, false, false, false, false] rfl rfl (any_of HT_.out (by kernel_rfl)) (fun _ _ _ h => h) (Or.inl ⟨by rfl, ?_⟩) ?_ ?_
      rotate_left
      · intro w'
        go_simp
        with_reducible rfl
      rotate_left
      · simp only [Act.put, List.setIfInBounds_toArray, List.set_cons_zero, List.set_cons_succ, i64_w, i32_w]
        rfl
      refine take_ (i := 3) (N := some 21) (v := ?_) (a' := ?_) #[true, true, true, true, false, false, false, false, false, false, false, false, false, false] rfl rfl (take_ofW HT_.out HW_.out (by kernel_rfl)) (fun _ _ _ h => h) (Or.inl ⟨by rfl, ?_⟩) hHeld ?_ ?_
      rotate_left
      · rintro w' ⟨s0, s1, s2⟩
        go_simp
        with_reducible rfl
      rotate_left
      · simp only [Act.put, List.setIfInBounds_toArray, List.set_cons_zero, List.set_cons_succ, i64_w, i32_w]
        rfl
      refine pure_ (i := 4) (N := some 22) (v := ?_) (a' := ?_) #[true, true, true, true, true, false, false, false, false, false, false, false, false, false] rfl rfl (any_of HT_.out (by kernel_rfl)) (fun _ _ _ h => h) (Or.inl ⟨by rfl, ?_⟩) ?_ ?_
      rotate_left
      · intro w'
        go_simp
        with_reducible rfl
      rotate_left
      · simp only [Act.put, List.setIfInBounds_toArray, List.set_cons_zero, List.set_cons_succ, i64_w, i32_w]
        rfl
      refine pure_ (i := 5) (N := some 23) (v := ?_) (a' := ?_) #[true, true, true, true, true, true, false, false, false, false, false, false, false, false] rfl rfl (any_of HT_.out (by kernel_rfl)) (fun _ _ _ h => h) (Or.inl ⟨by rfl, ?_⟩) ?_ ?_
      rotate_left
      · intro w'
        go_simp
        with_reducible rfl
      rotate_left
      · simp only [Act.put, List.setIfInBounds_toArray, List.set_cons_zero, List.set_cons_succ, i64_w, i32_w]
        rfl
      refine pure_ (i := 6) (N := some 24) (v := ?_) (a' := ?_) #[true, true, true, true, true, true, true, false, false, false, false, false, false, false] rfl rfl (any_of HT_.out (by kernel_rfl)) (fun _ _ _ h => h) (Or.inl ⟨by rfl, ?_⟩) ?_ ?_
      rotate_left
      · intro w'
        go_simp
        with_reducible rfl
      rotate_left
      · simp only [Act.put, List.setIfInBounds_toArray, List.set_cons_zero, List.set_cons_succ, i64_w, i32_w]
        rfl
      refine take_ (i := 7) (N := some 25) (v := ?_) (a' := ?_) #[true, true, true, true, true, true, true, true, false, false, false, false, false, false] rfl rfl (take_ofW HT_.out HW_.out (by kernel_rfl)) (fun _ _ _ h => h) (Or.inl ⟨by rfl, ?_⟩) hHeld ?_ ?_
      rotate_left
      · rintro w' ⟨s0, s1, s2⟩
        go_simp
        with_reducible rfl
      rotate_left
      · simp only [Act.put, List.setIfInBounds_toArray, List.set_cons_zero, List.set_cons_succ, i64_w, i32_w]
        rfl
      refine pure_ (i := 8) (N := some 26) (v := ?_) (a' := ?_) #[true, true, true, true, true, true, true, true, true, false, false, false, false, false] rfl rfl (any_of HT_.out (by kernel_rfl)) (fun _ _ _ h => h) (Or.inl ⟨by rfl, ?_⟩) ?_ ?_
      rotate_left
      · intro w'
        go_simp
        with_reducible rfl
      rotate_left
      · simp only [Act.put, List.setIfInBounds_toArray, List.set_cons_zero, List.set_cons_succ, i64_w, i32_w]
        rfl
      refine pure_ (i := 9) (N := some 27) (v := ?_) (a' := ?_) #[true, true, true, true, true, true, true, true, true, true, false, false, false, false] rfl rfl (any_of HT_.out (by kernel_rfl)) (fun _ _ _ h => h) (Or.inl ⟨by rfl, ?_⟩) ?_ ?_
      rotate_left
      · intro w'
        go_simp
        with_reducible rfl
      rotate_left
      · simp only [Act.put, List.setIfInBounds_toArray, List.set_cons_zero, List.set_cons_succ, i64_w, i32_w]
        rfl
      refine pure_ (i := 10) (N := some 28) (v := ?_) (a' := ?_) #[true, true, true, true, true, true, true, true, true, true, true, false, false, false] rfl rfl (any_of HT_.out (by kernel_rfl)) (fun _ _ _ h => h) (Or.inl ⟨by rfl, ?_⟩) ?_ ?_
      rotate_left
      · intro w'
        go_simp
        with_reducible rfl
      rotate_left
      · simp only [Act.put, List.setIfInBounds_toArray, List.set_cons_zero, List.set_cons_succ, i64_w, i32_w]
        rfl
      refine take_ (i := 11) (N := some 29) (v := ?_) (a' := ?_) #[true, true, true, true, true, true, true, true, true, true, true, true, false, false] rfl rfl (take_ofW HT_.out HW_.out (by kernel_rfl)) (fun _ _ _ h => h) (Or.inl ⟨by rfl, ?_⟩) hHeld ?_ ?_
      rotate_left
      · rintro w' ⟨s0, s1, s2⟩
        go_simp
        with_reducible rfl
      rotate_left
      · simp only [Act.put, List.setIfInBounds_toArray, List.set_cons_zero, List.set_cons_succ, i64_w, i32_w]
        rfl
      refine one_ (i := 12) (N := some 30) #[true, true, true, true, true, true, true, true, true, true, true, true, true, false] rfl rfl (one_of HT_.out (by kernel_rfl)) (by decide) (fun K hK => ?_)
      refine goesv_ Try.func21 (by kernel_rfl) rfl (.tmp 21) #[] #[.int .i64 y, .int .i64 x] (by rfl) (by rfl) (by rfl) rfl (by (try simp only [List.map_toArray, List.map_cons, List.map_nil]); first | done | rfl) ?_
      refine (less.calls y x w1).mono ?_
      rintro e w2 ⟨rfl, rfl⟩
      refine ⟨_, rfl, ?_⟩
      refine hK.out _ _ hHeld (fun hHeld => ?_)
      clear hK K
      refine norm_ (a' := ?_) ?_ ?_
      rotate_left
      · show Act.put _ (some 30) _ = _
        simp only [Act.put, List.setIfInBounds_toArray, List.set_cons_zero, List.set_cons_succ, i64_w, i32_w]
        rfl
      refine pure_ (i := 13) (N := some 17) (v := ?_) (a' := ?_) #[true, true, true, true, true, true, true, true, true, true, true, true, true, true] rfl rfl (any_of HT_.out (by kernel_rfl)) (fun _ _ _ h => h) (Or.inl ⟨by rfl, ?_⟩) ?_ ?_
      rotate_left
      · intro w'
        go_simp
        with_reducible rfl
      rotate_left
      · simp only [Act.put, List.setIfInBounds_toArray, List.set_cons_zero, List.set_cons_succ, i64_w, i32_w]
        rfl
      refine done_ (done_of HT_.out (by kernel_rfl)) ?_
      go_wp2_with (go_at_call 70; refine (HI.out w1 HG.out NA.out NB.out).mono ?_; rintro e w3 ⟨v3, t3, rfl, h1, h2, h3, h4⟩)
      go_ret
      exact ⟨v3, t3, rfl, h1, h2, h3.trans List.perm_append_comm, below_step HBW.out h4⟩
    · have hlt : decide (y < x) = false := decide_eq_false hxy
      have hm2 : 2 * (r.toL.length + (HT.node y bl br).toL.length) + HT.sw (fun a b => decide (a < b)) r (HT.node y bl br) ≤ m := by
        have := HT.sw_le (fun a b : Int => decide (a < b)) r (HT.node y bl br)
        simp only [HT.toL, List.length_cons, List.length_append] at hm ⊢
        omega
      have HM := Lib.hid hm2
      have ORR := Lib.hid oa.2.2
      clear hm2 hm hba hbb hg hal har hbl hbr oa ob
      have ih := Lib.hid ih
      go_enter Try.func70, Try.ntmps70
      go_wp2
      have HBW := Lib.hid (below_drew (Below.refl w.heap.size w))
      replace HG := Lib.hid (blk_drew HG.out)
      replace HBA := Lib.hid (blk_drew HBA.out)
      replace HAL := Lib.hid HAL.out.drew
      replace HAR := Lib.hid HAR.out.drew
      replace NB := Lib.hid NB.out.drew
      refine start_ (n := 14) (S := fun w' => w'.cell? ⟨g, 0, none⟩ = some (.func (.func 21) #[] #[]) ∧ w'.cell? ⟨bb, 0, none⟩ = some (.int .i64 y) ∧ w'.cell? ⟨ba, 0, none⟩ = some (.int .i64 x)) (ds := []) #[false, false, false, false, false, false, false, false, false, false, false, false, false, false] (by kernel_rfl) rfl rfl ⟨cg, cbx, cax⟩ (fun hHeld => ?_); refine with_tabW meld.tab5 meld.bits5 (fun HT_ HW_ => ?_)
      generalize w.drew = w1 at HG HBA HAL HAR NB HBW hHeld ⊢
      refine pure_ (i := 0) (N := some 18) (v := ?_) (a' := ?_) #[true, false, false, false, false, false, false, false, false, false, false, false, false, false] rfl rfl (any_of HT_.out (by kernel_rfl)) (fun _ _ _ h => h) (Or.inl ⟨by rfl, ?_⟩) ?_ ?_
      rotate_left
      · intro w'
        go_simp
        with_reducible rfl
      rotate_left
      · simp only [Act.put, List.setIfInBounds_toArray, List.set_cons_zero, List.set_cons_succ, i64_w, i32_w]
        rfl
      refine pure_ (i := 1) (N := some 19) (v := ?_) (a' := ?_) #[true, true, false, false, false, false, false, false, false, false, false, false, false, false] rfl rfl (any_of HT_.out (by kernel_rfl)) (fun _ _ _ h => h) (Or.inl ⟨by rfl, ?_⟩) ?_ ?_
      rotate_left
      · intro w'
        go_simp
        with_reducible rfl
      rotate_left
      · simp only [Act.put, List.setIfInBounds_toArray, List.set_cons_zero, List.set_cons_succ, i64_w, i32_w]
        rfl
      refine pure_ (i := 2) (N := some 20) (v := ?_) (a' := ?_) #[true, true, true, false, false, false, false, false, false, false, false, false, false, false] rfl rfl (any_of HT_.out (by kernel_rfl)) (fun _ _ _ h => h) (Or.inl ⟨by rfl, ?_⟩) ?_ ?_
      rotate_left
      · intro w'
        go_simp
        with_reducible rfl
      rotate_left
      · simp only [Act.put, List.setIfInBounds_toArray, List.set_cons_zero, List.set_cons_succ, i64_w, i32_w]
        rfl
      refine take_ (i := 3) (N := some 21) (v := ?_) (a' := ?_) #[true, true, true, true, false, false, false, false, false, false, false, false, false, false] rfl rfl (take_ofW HT_.out HW_.out (by kernel_rfl)) (fun _ _ _ h => h) (Or.inl ⟨by rfl, ?_⟩) hHeld ?_ ?_
      rotate_left
      · rintro w' ⟨s0, s1, s2⟩
        go_simp
        with_reducible rfl
      rotate_left
      · simp only [Act.put, List.setIfInBounds_toArray, List.set_cons_zero, List.set_cons_succ, i64_w, i32_w]
        rfl
      refine pure_ (i := 4) (N := some 22) (v := ?_) (a' := ?_) #[true, true, true, true, true, false, false, false, false, false, false, false, false, false] rfl rfl (any_of HT_.out (by kernel_rfl)) (fun _ _ _ h => h) (Or.inl ⟨by rfl, ?_⟩) ?_ ?_
      rotate_left
      · intro w'
        go_simp
        with_reducible rfl
      rotate_left
      · simp only [Act.put, List.setIfInBounds_toArray, List.set_cons_zero, List.set_cons_succ, i64_w, i32_w]
        rfl
      refine pure_ (i := 5) (N := some 23) (v := ?_) (a' := ?_) #[true, true, true, true, true, true, false, false, false, false, false, false, false, false] rfl rfl (any_of HT_.out (by kernel_rfl)) (fun _ _ _ h => h) (Or.inl ⟨by rfl, ?_⟩) ?_ ?_
      rotate_left
      · intro w'
        go_simp
        with_reducible rfl
      rotate_left
      · simp only [Act.put, List.setIfInBounds_toArray, List.set_cons_zero, List.set_cons_succ, i64_w, i32_w]
        rfl
      refine pure_ (i := 6) (N := some 24) (v := ?_) (a' := ?_) #[true, true, true, true, true, true, true, false, false, false, false, false, false, false] rfl rfl (any_of HT_.out (by kernel_rfl)) (fun _ _ _ h => h) (Or.inl ⟨by rfl, ?_⟩) ?_ ?_
      rotate_left
      · intro w'
        go_simp
        with_reducible rfl
      rotate_left
      · simp only [Act.put, List.setIfInBounds_toArray, List.set_cons_zero, List.set_cons_succ, i64_w, i32_w]
        rfl
      refine take_ (i := 7) (N := some 25) (v := ?_) (a' := ?_) #[true, true, true, true, true, true, true, true, false, false, false, false, false, false] rfl rfl (take_ofW HT_.out HW_.out (by kernel_rfl)) (fun _ _ _ h => h) (Or.inl ⟨by rfl, ?_⟩) hHeld ?_ ?_
      rotate_left
      · rintro w' ⟨s0, s1, s2⟩
        go_simp
        with_reducible rfl
      rotate_left
      · simp only [Act.put, List.setIfInBounds_toArray, List.set_cons_zero, List.set_cons_succ, i64_w, i32_w]
        rfl
      refine pure_ (i := 8) (N := some 26) (v := ?_) (a' := ?_) #[true, true, true, true, true, true, true, true, true, false, false, false, false, false] rfl rfl (any_of HT_.out (by kernel_rfl)) (fun _ _ _ h => h) (Or.inl ⟨by rfl, ?_⟩) ?_ ?_
      rotate_left
      · intro w'
        go_simp
        with_reducible rfl
      rotate_left
      · simp only [Act.put, List.setIfInBounds_toArray, List.set_cons_zero, List.set_cons_succ, i64_w, i32_w]
        rfl
      refine pure_ (i := 9) (N := some 27) (v := ?_) (a' := ?_) #[true, true, true, true, true, true, true, true, true, true, false, false, false, false] rfl rfl (any_of HT_.out (by kernel_rfl)) (fun _ _ _ h => h) (Or.inl ⟨by rfl, ?_⟩) ?_ ?_
      rotate_left
      · intro w'
        go_simp
        with_reducible rfl
      rotate_left
      · simp only [Act.put, List.setIfInBounds_toArray, List.set_cons_zero, List.set_cons_succ, i64_w, i32_w]
        rfl
      refine pure_ (i := 10) (N := some 28) (v := ?_) (a' := ?_) #[true, true, true, true, true, true, true, true, true, true, true, false, false, false] rfl rfl (any_of HT_.out (by kernel_rfl)) (fun _ _ _ h => h) (Or.inl ⟨by rfl, ?_⟩) ?_ ?_
      rotate_left
      · intro w'
        go_simp
        with_reducible rfl
      rotate_left
      · simp only [Act.put, List.setIfInBounds_toArray, List.set_cons_zero, List.set_cons_succ, i64_w, i32_w]
        rfl
      refine take_ (i := 11) (N := some 29) (v := ?_) (a' := ?_) #[true, true, true, true, true, true, true, true, true, true, true, true, false, false] rfl rfl (take_ofW HT_.out HW_.out (by kernel_rfl)) (fun _ _ _ h => h) (Or.inl ⟨by rfl, ?_⟩) hHeld ?_ ?_
      rotate_left
      · rintro w' ⟨s0, s1, s2⟩
        go_simp
        with_reducible rfl
      rotate_left
      · simp only [Act.put, List.setIfInBounds_toArray, List.set_cons_zero, List.set_cons_succ, i64_w, i32_w]
        rfl
      refine one_ (i := 12) (N := some 30) #[true, true, true, true, true, true, true, true, true, true, true, true, true, false] rfl rfl (one_of HT_.out (by kernel_rfl)) (by decide) (fun K hK => ?_)
      refine goesv_ Try.func21 (by kernel_rfl) rfl (.tmp 21) #[] #[.int .i64 y, .int .i64 x] (by rfl) (by rfl) (by rfl) rfl (by (try simp only [List.map_toArray, List.map_cons, List.map_nil]); first | done | rfl) ?_
      refine (less.calls y x w1).mono ?_
      rintro e w2 ⟨rfl, rfl⟩
      refine ⟨_, rfl, ?_⟩
      refine hK.out _ _ hHeld (fun hHeld => ?_)
      clear hK K
      refine norm_ (a' := ?_) ?_ ?_
      rotate_left
      · show Act.put _ (some 30) _ = _
        simp only [Act.put, List.setIfInBounds_toArray, List.set_cons_zero, List.set_cons_succ, i64_w, i32_w]
        rfl
      refine pure_ (i := 13) (N := some 17) (v := ?_) (a' := ?_) #[true, true, true, true, true, true, true, true, true, true, true, true, true, true] rfl rfl (any_of HT_.out (by kernel_rfl)) (fun _ _ _ h => h) (Or.inl ⟨by rfl, ?_⟩) ?_ ?_
      rotate_left
      · intro w'
        go_simp
        with_reducible rfl
      rotate_left
      · simp only [Act.put, List.setIfInBounds_toArray, List.set_cons_zero, List.set_cons_succ, i64_w, i32_w]
        rfl
      refine done_ (done_of HT_.out (by kernel_rfl)) ?_
      go_wp2
      replace HBW := Lib.hid (below_drew1 HBW.out)
      replace HG := Lib.hid (blk_drew HG.out)
      replace HBA := Lib.hid (blk_drew HBA.out)
      replace HAL := Lib.hid HAL.out.drew
      replace HAR := Lib.hid HAR.out.drew
      replace NB := Lib.hid NB.out.drew
      refine start_ (n := 13) (S := fun w' => w'.cell? ⟨ba, 2, none⟩ = some (.pointer val) ∧ w'.cell? ⟨ba, 3, none⟩ = some (.pointer var)) (ds := []) #[false, false, false, false, false, false, false, false, false, false, false, false, false] (by kernel_rfl) rfl rfl ⟨(blk_cell HBA.out 2).trans rfl, (blk_cell HBA.out 3).trans rfl⟩ (fun hHeld => ?_); refine with_tabW meld.tab7 meld.bits7 (fun HT_ HW_ => ?_)
      generalize w1.drew = w2 at HG HBA NB HAL HAR HBW hHeld ⊢
      refine pure_ (i := 0) (N := some 35) (v := ?_) (a' := ?_) #[true, false, false, false, false, false, false, false, false, false, false, false, false] rfl rfl (any_of HT_.out (by kernel_rfl)) (fun _ _ _ h => h) (Or.inl ⟨by rfl, ?_⟩) ?_ ?_
      rotate_left
      · intro w'
        go_simp
        with_reducible rfl
      rotate_left
      · simp only [Act.put, List.setIfInBounds_toArray, List.set_cons_zero, List.set_cons_succ, i64_w, i32_w]
        rfl
      refine pure_ (i := 1) (N := some 36) (v := ?_) (a' := ?_) #[true, true, false, false, false, false, false, false, false, false, false, false, false] rfl rfl (any_of HT_.out (by kernel_rfl)) (fun _ _ _ h => h) (Or.inl ⟨by rfl, ?_⟩) ?_ ?_
      rotate_left
      · intro w'
        go_simp
        with_reducible rfl
      rotate_left
      · simp only [Act.put, List.setIfInBounds_toArray, List.set_cons_zero, List.set_cons_succ, i64_w, i32_w]
        rfl
      refine pure_ (i := 2) (N := some 37) (v := ?_) (a' := ?_) #[true, true, true, false, false, false, false, false, false, false, false, false, false] rfl rfl (any_of HT_.out (by kernel_rfl)) (fun _ _ _ h => h) (Or.inl ⟨by rfl, ?_⟩) ?_ ?_
      rotate_left
      · intro w'
        go_simp
        with_reducible rfl
      rotate_left
      · simp only [Act.put, List.setIfInBounds_toArray, List.set_cons_zero, List.set_cons_succ, i64_w, i32_w]
        rfl
      refine take_ (i := 3) (N := some 38) (v := ?_) (a' := ?_) #[true, true, true, true, false, false, false, false, false, false, false, false, false] rfl rfl (take_ofW HT_.out HW_.out (by kernel_rfl)) (fun _ _ _ h => h) (Or.inl ⟨by rfl, ?_⟩) hHeld ?_ ?_
      rotate_left
      · rintro w' ⟨s0, s1⟩
        go_simp
        with_reducible rfl
      rotate_left
      · simp only [Act.put, List.setIfInBounds_toArray, List.set_cons_zero, List.set_cons_succ, i64_w, i32_w]
        rfl
      refine pure_ (i := 4) (N := some 39) (v := ?_) (a' := ?_) #[true, true, true, true, true, false, false, false, false, false, false, false, false] rfl rfl (any_of HT_.out (by kernel_rfl)) (fun _ _ _ h => h) (Or.inl ⟨by rfl, ?_⟩) ?_ ?_
      rotate_left
      · intro w'
        go_simp
        with_reducible rfl
      rotate_left
      · simp only [Act.put, List.setIfInBounds_toArray, List.set_cons_zero, List.set_cons_succ, i64_w, i32_w]
        rfl
      refine pure_ (i := 5) (N := some 40) (v := ?_) (a' := ?_) #[true, true, true, true, true, true, false, false, false, false, false, false, false] rfl rfl (any_of HT_.out (by kernel_rfl)) (fun _ _ _ h => h) (Or.inl ⟨by rfl, ?_⟩) ?_ ?_
      rotate_left
      · intro w'
        go_simp
        with_reducible rfl
      rotate_left
      · simp only [Act.put, List.setIfInBounds_toArray, List.set_cons_zero, List.set_cons_succ, i64_w, i32_w]
        rfl
      refine pure_ (i := 6) (N := some 41) (v := ?_) (a' := ?_) #[true, true, true, true, true, true, true, false, false, false, false, false, false] rfl rfl (any_of HT_.out (by kernel_rfl)) (fun _ _ _ h => h) (Or.inl ⟨by rfl, ?_⟩) ?_ ?_
      rotate_left
      · intro w'
        go_simp
        with_reducible rfl
      rotate_left
      · simp only [Act.put, List.setIfInBounds_toArray, List.set_cons_zero, List.set_cons_succ, i64_w, i32_w]
        rfl
      refine pure_ (i := 7) (N := some 42) (v := ?_) (a' := ?_) #[true, true, true, true, true, true, true, true, false, false, false, false, false] rfl rfl (any_of HT_.out (by kernel_rfl)) (fun _ _ _ h => h) (Or.inl ⟨by rfl, ?_⟩) ?_ ?_
      rotate_left
      · intro w'
        go_simp
        with_reducible rfl
      rotate_left
      · simp only [Act.put, List.setIfInBounds_toArray, List.set_cons_zero, List.set_cons_succ, i64_w, i32_w]
        rfl
      refine take_ (i := 8) (N := some 43) (v := ?_) (a' := ?_) #[true, true, true, true, true, true, true, true, true, false, false, false, false] rfl rfl (take_ofW HT_.out HW_.out (by kernel_rfl)) (fun _ _ _ h => h) (Or.inl ⟨by rfl, ?_⟩) hHeld ?_ ?_
      rotate_left
      · rintro w' ⟨s0, s1⟩
        go_simp
        with_reducible rfl
      rotate_left
      · simp only [Act.put, List.setIfInBounds_toArray, List.set_cons_zero, List.set_cons_succ, i64_w, i32_w]
        rfl
      refine pure_ (i := 9) (N := some 44) (v := ?_) (a' := ?_) #[true, true, true, true, true, true, true, true, true, true, false, false, false] rfl rfl (any_of HT_.out (by kernel_rfl)) (fun _ _ _ h => h) (Or.inl ⟨by rfl, ?_⟩) ?_ ?_
      rotate_left
      · intro w'
        go_simp
        with_reducible rfl
      rotate_left
      · simp only [Act.put, List.setIfInBounds_toArray, List.set_cons_zero, List.set_cons_succ, i64_w, i32_w]
        rfl
      refine one_ (i := 10) (N := some 45) #[true, true, true, true, true, true, true, true, true, true, true, false, false] rfl rfl (one_of HT_.out (by kernel_rfl)) (by decide) (fun K hK => ?_)
      refine goes_ Try.func70 (by kernel_rfl) rfl #[.pointer (some ⟨g, 0, none⟩), .pointer var, .pointer (some ⟨bb, 0, none⟩)] (by rfl) rfl rfl (by (try simp only [List.map_toArray, List.map_cons, List.map_nil]); first | done | rfl) ?_
      refine (ih.out r (.node y bl br) var (some ⟨bb, 0, none⟩) w2 HM.out HG.out HAR.out NB.out ORR.out OB.out).mono ?_
      rintro e w3 ⟨v3, t3, rfl, h1, h2, h3, h4⟩
      refine ⟨_, rfl, ?_⟩
      have N3 := Lib.hid h1
      have O3 := Lib.hid h2
      have P3 := Lib.hid h3
      replace HBA := Lib.hid (blk_below HBA.out h4)
      replace HAL := Lib.hid (HAL.out.below h4)
      replace HBW := Lib.hid (below_step HBW.out h4)
      clear h1 h2 h3 h4 NB HAR HG
      refine hK.out _ _ ⟨(blk_cell HBA.out 2).trans rfl, (blk_cell HBA.out 3).trans rfl⟩ (fun hHeld => ?_)
      clear hK K
      refine norm_ (a' := ?_) ?_ ?_
      rotate_left
      · show Act.put _ (some 45) _ = _
        simp only [Act.put, List.setIfInBounds_toArray, List.set_cons_zero, List.set_cons_succ, i64_w, i32_w]
        rfl
      refine pure_ (i := 11) (N := some 7) (v := ?_) (a' := ?_) #[true, true, true, true, true, true, true, true, true, true, true, true, false] rfl rfl (any_of HT_.out (by kernel_rfl)) (fun _ _ _ h => h) (Or.inl ⟨by rfl, ?_⟩) ?_ ?_
      rotate_left
      · intro w'
        go_simp
        with_reducible rfl
      rotate_left
      · simp only [Act.put, List.setIfInBounds_toArray, List.set_cons_zero, List.set_cons_succ, i64_w, i32_w]
        rfl
      refine pure_ (i := 12) (N := some 8) (v := ?_) (a' := ?_) #[true, true, true, true, true, true, true, true, true, true, true, true, true] rfl rfl (any_of HT_.out (by kernel_rfl)) (fun _ _ _ h => h) (Or.inl ⟨by rfl, ?_⟩) ?_ ?_
      rotate_left
      · intro w'
        go_simp
        with_reducible rfl
      rotate_left
      · simp only [Act.put, List.setIfInBounds_toArray, List.set_cons_zero, List.set_cons_succ, i64_w, i32_w]
        rfl
      refine done_ (done_of HT_.out (by kernel_rfl)) ?_
      obtain ⟨dl, hdl⟩ := way.calls val l w3 HAL.out
      obtain ⟨dr, hdr⟩ := way.calls v3 t3 w3 N3.out
      have HDL := Lib.hid hdl
      have HDR := Lib.hid hdr
      clear hdl hdr
      by_cases hlr : dl < dr
      · go_wp2_with (go_at_call 102; (first | refine HDL.out.mono ?_ | refine HDR.out.mono ?_); rintro e w4 ⟨rfl, rfl⟩)
        replace HBW := Lib.hid (below_drew1 HBW.out)
        replace HBA := Lib.hid (blk_drew HBA.out)
        replace HAL := Lib.hid HAL.out.drew
        replace N3 := Lib.hid N3.out.drew
        refine start_ (n := 12) (S := fun w' => w'.cell? ⟨ba, 0, none⟩ = some (.int .i64 x)) (ds := []) #[false, false, false, false, false, false, false, false, false, false, false, false] (by kernel_rfl) rfl rfl ((blk_cell HBA.out 0).trans rfl) (fun hHeld => ?_); refine with_tabW meld.tab10 meld.bits10 (fun HT_ HW_ => ?_)
        generalize w3.drew = w4 at HBA HAL N3 HBW hHeld ⊢
        refine pure_ (i := 0) (N := some 53) (v := ?_) (a' := ?_) #[true, false, false, false, false, false, false, false, false, false, false, false] rfl rfl (any_of HT_.out (by kernel_rfl)) (fun _ _ _ h => h) (Or.inl ⟨by rfl, ?_⟩) ?_ ?_
        rotate_left
        · intro w'
          go_simp
          with_reducible rfl
        rotate_left
        · simp only [Act.put, List.setIfInBounds_toArray, List.set_cons_zero, List.set_cons_succ, i64_w, i32_w]
          rfl
        refine pure_ (i := 1) (N := some 54) (v := ?_) (a' := ?_) #[true, true, false, false, false, false, false, false, false, false, false, false] rfl rfl (any_of HT_.out (by kernel_rfl)) (fun _ _ _ h => h) (Or.inl ⟨by rfl, ?_⟩) ?_ ?_
        rotate_left
        · intro w'
          go_simp
          with_reducible rfl
        rotate_left
        · simp only [Act.put, List.setIfInBounds_toArray, List.set_cons_zero, List.set_cons_succ, i64_w, i32_w]
          rfl
        refine pure_ (i := 2) (N := some 55) (v := ?_) (a' := ?_) #[true, true, true, false, false, false, false, false, false, false, false, false] rfl rfl (any_of HT_.out (by kernel_rfl)) (fun _ _ _ h => h) (Or.inl ⟨by rfl, ?_⟩) ?_ ?_
        rotate_left
        · intro w'
          go_simp
          with_reducible rfl
        rotate_left
        · simp only [Act.put, List.setIfInBounds_toArray, List.set_cons_zero, List.set_cons_succ, i64_w, i32_w]
          rfl
        refine take_ (i := 3) (N := some 56) (v := ?_) (a' := ?_) #[true, true, true, true, false, false, false, false, false, false, false, false] rfl rfl (take_ofW HT_.out HW_.out (by kernel_rfl)) (fun _ _ _ h => h) (Or.inl ⟨by rfl, ?_⟩) hHeld ?_ ?_
        rotate_left
        · rintro w' s0
          go_simp
          with_reducible rfl
        rotate_left
        · simp only [Act.put, List.setIfInBounds_toArray, List.set_cons_zero, List.set_cons_succ, i64_w, i32_w]
          rfl
        refine pure_ (i := 4) (N := some 57) (v := ?_) (a' := ?_) #[true, true, true, true, true, false, false, false, false, false, false, false] rfl rfl (any_of HT_.out (by kernel_rfl)) (fun _ _ _ h => h) (Or.inl ⟨by rfl, ?_⟩) ?_ ?_
        rotate_left
        · intro w'
          go_simp
          with_reducible rfl
        rotate_left
        · simp only [Act.put, List.setIfInBounds_toArray, List.set_cons_zero, List.set_cons_succ, i64_w, i32_w]
          rfl
        refine pure_ (i := 7) (N := some 60) (v := ?_) (a' := ?_) #[true, true, true, true, true, false, false, true, false, false, false, false] rfl rfl (any_of HT_.out (by kernel_rfl)) (fun _ _ _ h => h) (Or.inl ⟨by rfl, ?_⟩) ?_ ?_
        rotate_left
        · intro w'
          go_simp
          with_reducible rfl
        rotate_left
        · simp only [Act.put, List.setIfInBounds_toArray, List.set_cons_zero, List.set_cons_succ, i64_w, i32_w]
          rfl
        refine pure_ (i := 8) (N := some 61) (v := ?_) (a' := ?_) #[true, true, true, true, true, false, false, true, true, false, false, false] rfl rfl (any_of HT_.out (by kernel_rfl)) (fun _ _ _ h => h) (Or.inl ⟨by rfl, ?_⟩) ?_ ?_
        rotate_left
        · intro w'
          go_simp
          with_reducible rfl
        rotate_left
        · simp only [Act.put, List.setIfInBounds_toArray, List.set_cons_zero, List.set_cons_succ, i64_w, i32_w]
          rfl
        obtain ⟨d8, hw8⟩ := way.calls val _ w4 HAL.out
        refine one_ (i := 5) (N := some 58) #[true, true, true, true, true, true, false, true, true, false, false, false] rfl rfl (one_of HT_.out (by kernel_rfl)) (by decide) (fun K hK => ?_)
        refine goes_ Try.func102 (by kernel_rfl) rfl #[.pointer val] (by rfl) rfl rfl (by (try simp only [List.map_toArray, List.map_cons, List.map_nil]); first | done | rfl) ?_
        refine (hw8).mono ?_
        rintro e w5 ⟨rfl, rfl⟩
        refine ⟨_, rfl, ?_⟩
        refine hK.out _ _ hHeld (fun hHeld => ?_)
        clear hK K
        refine norm_ (a' := ?_) ?_ ?_
        rotate_left
        · show Act.put _ (some 58) _ = _
          simp only [Act.put, List.setIfInBounds_toArray, List.set_cons_zero, List.set_cons_succ, i64_w, i32_w]
          rfl
        refine pure_ (i := 6) (N := some 59) (v := ?_) (a' := ?_) #[true, true, true, true, true, true, true, true, true, false, false, false] rfl rfl (any_of HT_.out (by kernel_rfl)) (fun _ _ _ h => h) (Or.inl ⟨by rfl, ?_⟩) ?_ ?_
        rotate_left
        · intro w'
          go_simp
          with_reducible rfl
        rotate_left
        · simp only [Act.put, List.setIfInBounds_toArray, List.set_cons_zero, List.set_cons_succ, i64_w, i32_w]
          rfl
        refine pure_ (i := 9) (N := some 62) (v := ?_) (a' := ?_) #[true, true, true, true, true, true, true, true, true, true, false, false] rfl rfl (any_of HT_.out (by kernel_rfl)) (fun _ _ _ h => h) (Or.inl ⟨by rfl, ?_⟩) ?_ ?_
        rotate_left
        · intro w'
          go_simp
          with_reducible rfl
        rotate_left
        · simp only [Act.put, List.setIfInBounds_toArray, List.set_cons_zero, List.set_cons_succ, i64_w, i32_w]
          rfl
        refine one_ (i := 10) (N := some 63) #[true, true, true, true, true, true, true, true, true, true, true, false] rfl rfl (one_of HT_.out (by kernel_rfl)) (by decide) (fun K hK => ?_)
        refine event_step (w1 := w4.alloc (.cells #[.int .i64 x, .int .i64 (wrap64 (d8 + 1)), .pointer v3, .pointer val] 104)) (v := .pointer (some ⟨w4.heap.size, 0, none⟩)) (by rfl) (by go_simp) ?_
        refine hK.out _ _ ((blk_cell (blk_alloc HBA.out _) 0).trans rfl) (fun hHeld => ?_)
        clear hK K
        refine norm_ (a' := ?_) ?_ ?_
        rotate_left
        · show Act.put _ (some 63) _ = _
          simp only [Act.put, List.setIfInBounds_toArray, List.set_cons_zero, List.set_cons_succ, i64_w, i32_w]
          rfl
        refine pure_ (i := 11) (N := some 6) (v := ?_) (a' := ?_) #[true, true, true, true, true, true, true, true, true, true, true, true] rfl rfl (any_of HT_.out (by kernel_rfl)) (fun _ _ _ h => h) (Or.inl ⟨by rfl, ?_⟩) ?_ ?_
        rotate_left
        · intro w'
          go_simp
          with_reducible rfl
        rotate_left
        · simp only [Act.put, List.setIfInBounds_toArray, List.set_cons_zero, List.set_cons_succ, i64_w, i32_w]
          rfl
        refine done_ (done_of HT_.out (by kernel_rfl)) ?_
        go_wp2
        go_ret
        obtain ⟨_, q1, q2⟩ := HT.meld_one ltI_wo OA.out OB.out hlt O3.out P3.out
        exact ⟨_, .node x t3 l, rfl, ⟨w4.heap.size, _, v3, val, rfl, heap_alloc_new w4 _, N3.out.alloc _, HAL.out.alloc _⟩, q1, q2, below_alloc HBW.out _⟩
      · go_wp2_with (go_at_call 102; (first | refine HDL.out.mono ?_ | refine HDR.out.mono ?_); rintro e w4 ⟨rfl, rfl⟩)
        replace HBW := Lib.hid (below_drew1 HBW.out)
        replace HBA := Lib.hid (blk_drew HBA.out)
        replace HAL := Lib.hid HAL.out.drew
        replace N3 := Lib.hid N3.out.drew
        refine start_ (n := 12) (S := fun w' => w'.cell? ⟨ba, 0, none⟩ = some (.int .i64 x)) (ds := []) #[false, false, false, false, false, false, false, false, false, false, false, false] (by kernel_rfl) rfl rfl ((blk_cell HBA.out 0).trans rfl) (fun hHeld => ?_); refine with_tabW meld.tab10 meld.bits10 (fun HT_ HW_ => ?_)
        generalize w3.drew = w4 at HBA HAL N3 HBW hHeld ⊢
        refine pure_ (i := 0) (N := some 53) (v := ?_) (a' := ?_) #[true, false, false, false, false, false, false, false, false, false, false, false] rfl rfl (any_of HT_.out (by kernel_rfl)) (fun _ _ _ h => h) (Or.inl ⟨by rfl, ?_⟩) ?_ ?_
        rotate_left
        · intro w'
          go_simp
          with_reducible rfl
        rotate_left
        · simp only [Act.put, List.setIfInBounds_toArray, List.set_cons_zero, List.set_cons_succ, i64_w, i32_w]
          rfl
        refine pure_ (i := 1) (N := some 54) (v := ?_) (a' := ?_) #[true, true, false, false, false, false, false, false, false, false, false, false] rfl rfl (any_of HT_.out (by kernel_rfl)) (fun _ _ _ h => h) (Or.inl ⟨by rfl, ?_⟩) ?_ ?_
        rotate_left
        · intro w'
          go_simp
          with_reducible rfl
        rotate_left
        · simp only [Act.put, List.setIfInBounds_toArray, List.set_cons_zero, List.set_cons_succ, i64_w, i32_w]
          rfl
        refine pure_ (i := 2) (N := some 55) (v := ?_) (a' := ?_) #[true, true, true, false, false, false, false, false, false, false, false, false] rfl rfl (any_of HT_.out (by kernel_rfl)) (fun _ _ _ h => h) (Or.inl ⟨by rfl, ?_⟩) ?_ ?_
        rotate_left
        · intro w'
          go_simp
          with_reducible rfl
        rotate_left
        · simp only [Act.put, List.setIfInBounds_toArray, List.set_cons_zero, List.set_cons_succ, i64_w, i32_w]
          rfl
        refine take_ (i := 3) (N := some 56) (v := ?_) (a' := ?_) #[true, true, true, true, false, false, false, false, false, false, false, false] rfl rfl (take_ofW HT_.out HW_.out (by kernel_rfl)) (fun _ _ _ h => h) (Or.inl ⟨by rfl, ?_⟩) hHeld ?_ ?_
        rotate_left
        · rintro w' s0
          go_simp
          with_reducible rfl
        rotate_left
        · simp only [Act.put, List.setIfInBounds_toArray, List.set_cons_zero, List.set_cons_succ, i64_w, i32_w]
          rfl
        refine pure_ (i := 4) (N := some 57) (v := ?_) (a' := ?_) #[true, true, true, true, true, false, false, false, false, false, false, false] rfl rfl (any_of HT_.out (by kernel_rfl)) (fun _ _ _ h => h) (Or.inl ⟨by rfl, ?_⟩) ?_ ?_
        rotate_left
        · intro w'
          go_simp
          with_reducible rfl
        rotate_left
        · simp only [Act.put, List.setIfInBounds_toArray, List.set_cons_zero, List.set_cons_succ, i64_w, i32_w]
          rfl
        refine pure_ (i := 7) (N := some 60) (v := ?_) (a' := ?_) #[true, true, true, true, true, false, false, true, false, false, false, false] rfl rfl (any_of HT_.out (by kernel_rfl)) (fun _ _ _ h => h) (Or.inl ⟨by rfl, ?_⟩) ?_ ?_
        rotate_left
        · intro w'
          go_simp
          with_reducible rfl
        rotate_left
        · simp only [Act.put, List.setIfInBounds_toArray, List.set_cons_zero, List.set_cons_succ, i64_w, i32_w]
          rfl
        refine pure_ (i := 8) (N := some 61) (v := ?_) (a' := ?_) #[true, true, true, true, true, false, false, true, true, false, false, false] rfl rfl (any_of HT_.out (by kernel_rfl)) (fun _ _ _ h => h) (Or.inl ⟨by rfl, ?_⟩) ?_ ?_
        rotate_left
        · intro w'
          go_simp
          with_reducible rfl
        rotate_left
        · simp only [Act.put, List.setIfInBounds_toArray, List.set_cons_zero, List.set_cons_succ, i64_w, i32_w]
          rfl
        obtain ⟨d8, hw8⟩ := way.calls v3 _ w4 N3.out
        refine one_ (i := 5) (N := some 58) #[true, true, true, true, true, true, false, true, true, false, false, false] rfl rfl (one_of HT_.out (by kernel_rfl)) (by decide) (fun K hK => ?_)
        refine goes_ Try.func102 (by kernel_rfl) rfl #[.pointer v3] (by rfl) rfl rfl (by (try simp only [List.map_toArray, List.map_cons, List.map_nil]); first | done | rfl) ?_
        refine (hw8).mono ?_
        rintro e w5 ⟨rfl, rfl⟩
        refine ⟨_, rfl, ?_⟩
        refine hK.out _ _ hHeld (fun hHeld => ?_)
        clear hK K
        refine norm_ (a' := ?_) ?_ ?_
        rotate_left
        · show Act.put _ (some 58) _ = _
          simp only [Act.put, List.setIfInBounds_toArray, List.set_cons_zero, List.set_cons_succ, i64_w, i32_w]
          rfl
        refine pure_ (i := 6) (N := some 59) (v := ?_) (a' := ?_) #[true, true, true, true, true, true, true, true, true, false, false, false] rfl rfl (any_of HT_.out (by kernel_rfl)) (fun _ _ _ h => h) (Or.inl ⟨by rfl, ?_⟩) ?_ ?_
        rotate_left
        · intro w'
          go_simp
          with_reducible rfl
        rotate_left
        · simp only [Act.put, List.setIfInBounds_toArray, List.set_cons_zero, List.set_cons_succ, i64_w, i32_w]
          rfl
        refine pure_ (i := 9) (N := some 62) (v := ?_) (a' := ?_) #[true, true, true, true, true, true, true, true, true, true, false, false] rfl rfl (any_of HT_.out (by kernel_rfl)) (fun _ _ _ h => h) (Or.inl ⟨by rfl, ?_⟩) ?_ ?_
        rotate_left
        · intro w'
          go_simp
          with_reducible rfl
        rotate_left
        · simp only [Act.put, List.setIfInBounds_toArray, List.set_cons_zero, List.set_cons_succ, i64_w, i32_w]
          rfl
        refine one_ (i := 10) (N := some 63) #[true, true, true, true, true, true, true, true, true, true, true, false] rfl rfl (one_of HT_.out (by kernel_rfl)) (by decide) (fun K hK => ?_)
        refine event_step (w1 := w4.alloc (.cells #[.int .i64 x, .int .i64 (wrap64 (d8 + 1)), .pointer val, .pointer v3] 104)) (v := .pointer (some ⟨w4.heap.size, 0, none⟩)) (by rfl) (by go_simp) ?_
        refine hK.out _ _ ((blk_cell (blk_alloc HBA.out _) 0).trans rfl) (fun hHeld => ?_)
        clear hK K
        refine norm_ (a' := ?_) ?_ ?_
        rotate_left
        · show Act.put _ (some 63) _ = _
          simp only [Act.put, List.setIfInBounds_toArray, List.set_cons_zero, List.set_cons_succ, i64_w, i32_w]
          rfl
        refine pure_ (i := 11) (N := some 6) (v := ?_) (a' := ?_) #[true, true, true, true, true, true, true, true, true, true, true, true] rfl rfl (any_of HT_.out (by kernel_rfl)) (fun _ _ _ h => h) (Or.inl ⟨by rfl, ?_⟩) ?_ ?_
        rotate_left
        · intro w'
          go_simp
          with_reducible rfl
        rotate_left
        · simp only [Act.put, List.setIfInBounds_toArray, List.set_cons_zero, List.set_cons_succ, i64_w, i32_w]
          rfl
        refine done_ (done_of HT_.out (by kernel_rfl)) ?_
        go_wp2
        go_ret
        obtain ⟨⟨q1, q2⟩, _⟩ := HT.meld_one ltI_wo OA.out OB.out hlt O3.out P3.out
        exact ⟨_, .node x l t3, rfl, ⟨w4.heap.size, _, val, v3, rfl, heap_alloc_new w4 _, HAL.out.alloc _, N3.out.alloc _⟩, q1, q2, below_alloc HBW.out _⟩
theorem HpP.of_perm {w : World} {g : Nat} {L M : List Int} (h : HpP w g L) (hp : L.Perm M) : HpP w g M := by
  obtain ⟨v, t, h1, h2, h3, h4⟩ := h
  exact ⟨v, t, by rw [← hp.length_eq]; exact h1, h2, h3, h4.trans hp⟩
theorem HpP.grown {w w' : World} {g : Nat} {L : List Int} {row : Option Nat} (h : HpP w g L) (hg : w.grownBy w' row) (hne : some g ≠ row) (hr : ∀ r cs, row = some r → w.heap[r]? ≠ some (.cells cs 104 (0, 0))) : HpP w' g L := by
  obtain ⟨v, t, h1, h2, h3, h4⟩ := h
  exact ⟨v, t, blk_grown h1 hg hne, h2.grown hg hr, h3, h4⟩
theorem HpP.below {w w' : World} {g : Nat} {L : List Int} (h : HpP w g L) (hb : Below w.heap.size w w') : HpP w' g L := h.grown (grown_of_below hb none) (fun e => by cases e) (fun r cs e => by cases e)
theorem HpP.no_node {w : World} {g : Nat} {L : List Int} (h : HpP w g L) : ∀ r cs, some g = some r → w.heap[r]? ≠ some (.cells cs 104 (0, 0)) := by
  obtain ⟨v, t, h1, _⟩ := h
  intro r cs e h2
  cases e
  rw [h1] at h2
  injection h2 with h2
  injection h2 with _ h2
  exact absurd h2 (by decide)
/-- Two heaps: one has been turned. -/
theorem HpP.other {w w' : World} {g g' : Nat} {L L' : List Int} (h : HpP w g L) (h' : HpP w g' L') (hne : g ≠ g') (hg : w.grownBy w' (some g')) : HpP w' g L := h.grown hg (fun e => hne (by cases e; rfl)) h'.no_node
theorem HpP.lt {w : World} {g : Nat} {L : List Int} (h : HpP w g L) : g < w.heap.size := by
  obtain ⟨v, t, h1, _⟩ := h
  exact blk_lt h1

set_option maxHeartbeats 4000000 in
set_option maxRecDepth 100000 in
theorem len.calls (g : Nat) (L : List Int) (w : World) (h : HpP w g L) : Calls Try.prog 24 #[.pointer (some ⟨g, 0, none⟩)] w fun e w' => e = .returned (.int .i64 (L.length : Int)) ∧ w = w' := by
  obtain ⟨v, t, h1, h2, h3, h4⟩ := h
  have HN := Lib.hid (none_no.calls g _ _ _ w rfl h1)
  have c2 : w.cell? ⟨g, 2, none⟩ = some (.int .i64 (L.length : Int)) := (blk_cell h1 2).trans rfl
  clear h1 h2 h3 h4
  generalize (L.length : Int) = n at *
  go_enter Try.func24, Try.ntmps24
  go_wp2_with (go_at_call 69; refine HN.out.mono ?_; rintro e w1 ⟨rfl, rfl⟩)
  go_ret
  exact ⟨rfl, rfl⟩

open Hm in
set_option maxHeartbeats 8000000 in
set_option maxRecDepth 100000 in
theorem put.calls (g : Nat) (x : Int) (L : List Int) (w : World) (h : HpP w g L) (hl : L.length < 1000000) : Calls Try.prog 22 #[.pointer (some ⟨g, 0, none⟩), .int .i64 x] w fun e w' => e = .returned (.bool true) ∧ HpP w' g (x :: L) ∧ w.grownBy w' (some g) := by
  obtain ⟨v, t, h1, h2, h3, h4⟩ := h
  have HN := Lib.hid (none_no.calls g _ _ _ w rfl h1)
  have c1 : w.cell? ⟨g, 1, none⟩ = some (.pointer v) := (blk_cell h1 1).trans rfl
  have HM := Lib.hid (meld.calls g _ _ _ t (.node x .leaf .leaf) v (some ⟨w.heap.size, 0, none⟩) (w.alloc (.cells #[.int .i64 x, .int .i64 1, .pointer none, .pointer none] 104)) (Nat.le_refl _) (blk_alloc h1 _) (h2.alloc _) ⟨w.heap.size, 1, none, none, rfl, heap_alloc_new w _, rfl, rfl⟩ h3 ⟨by simp [HT.toL], trivial, trivial⟩)
  have HG := Lib.hid h1
  have H4 := Lib.hid h4
  clear h1 h2 h3 h4
  obtain ⟨n, hn⟩ : ∃ n : Int, (L.length : Int) = n := ⟨_, rfl⟩
  have hn0 : 0 ≤ n := by omega
  have hn1 : n < 1000000 := by omega
  rw [hn] at HG
  have HNN := Lib.hid hn
  clear hn hl
  go_enter Try.func22, Try.ntmps22
  go_wp2_with (first | (go_at_call 69; refine HN.out.mono ?_; rintro e w1 ⟨rfl, rfl⟩) | (go_at_call 70; refine HM.out.mono ?_; rintro e w3 ⟨v3, t3, rfl, q1, q2, q3, q4⟩; have HG3 := Lib.hid (blk_below (blk_alloc HG.out _) q4); have HQ1 := Lib.hid q1; have HQ2 := Lib.hid q2; have HQ3 := Lib.hid q3; have HQ4 := Lib.hid q4; have d1 : w3.cell? ⟨g, 1, none⟩ = some (.pointer v) := (blk_cell HG3.out 1).trans rfl; have d2 : w3.cell? ⟨g, 2, none⟩ = some (.int .i64 n) := (blk_cell HG3.out 2).trans rfl; have f1 := blk_frozen HG3.out 1; have f2 := blk_frozen HG3.out 2; clear q1 q2 q3 q4))
  go_ret
  refine ⟨rfl, ⟨v3, t3, ?_, ?_, HQ2.out, ?_⟩, ?_⟩
  · have e : ((x :: L).length : Int) = n + 1 := by rw [← HNN.out]; simp
    rw [e]
    refine blk_put (cs := #[.func (.func 21) #[] #[], .pointer v3, .int .i64 n]) ?_ 2 _ rfl
    exact blk_put (cs := #[.func (.func 21) #[] #[], .pointer v, .int .i64 n]) HG3.out 1 _ rfl
  · exact Nd.set (blk_put (cs := #[.func (.func 21) #[] #[], .pointer v, .int .i64 n]) HG3.out 1 (.pointer v3) rfl) (by decide) 2 _ (Nd.set HG3.out (by decide) 1 _ HQ1.out)
  · refine HQ3.out.trans ((List.Perm.append_right _ H4.out).trans ?_)
    show (L ++ [x]).Perm (x :: L)
    exact List.perm_append_comm
  · have a1 := (World.grownBy_alloc w (.cells #[.int .i64 x, .int .i64 1, .pointer none, .pointer none] 104) (some g)).trans (grown_of_below HQ4.out (some g))
    exact (a1.trans (PxR.grown_set w3 ⟨g, 1, none⟩ _)).trans (PxR.grown_set _ ⟨g, 2, none⟩ _)

open Hm in
set_option maxHeartbeats 4000000 in
set_option maxRecDepth 100000 in
theorem min_none.calls (g : Nat) (w : World) (h : HpP w g []) : Calls Try.prog 26 #[.pointer (some ⟨g, 0, none⟩)] w fun e w' => e = .returned (.tuple #[.int .i64 0, .bool false]) ∧ w = w' := by
  have HL := Lib.hid (len.calls g [] w h)
  clear h
  go_enter Try.func26, Try.ntmps26
  go_wp2_with (go_at_call 24; refine HL.out.mono ?_; rintro e w1 ⟨rfl, rfl⟩)
  go_ret2
  exact ⟨rfl, rfl⟩
open Hm in
set_option maxHeartbeats 4000000 in
set_option maxRecDepth 100000 in
theorem min.calls (g : Nat) (b : Nat) (d : Int) (pl pr : Option Addr) (x : Int) (L : List Int) (w : World) (h : HpP w g L) (hL : L ≠ []) (n : Value) (hg : w.heap[g]? = some (.cells #[.func (.func 21) #[] #[], .pointer (some ⟨b, 0, none⟩), n] 41 (0, 0))) (hb : w.heap[b]? = some (.cells #[.int .i64 x, .int .i64 d, .pointer pl, .pointer pr] 104 (0, 0))) : Calls Try.prog 26 #[.pointer (some ⟨g, 0, none⟩)] w fun e w' => e = .returned (.tuple #[.int .i64 x, .bool true]) ∧ w = w' := by
  have HL := Lib.hid (len.calls g L w h)
  have c1 : w.cell? ⟨g, 1, none⟩ = some (.pointer (some ⟨b, 0, none⟩)) := (blk_cell hg 1).trans rfl
  have c2 : w.cell? ⟨b, 0, none⟩ = some (.int .i64 x) := (blk_cell hb 0).trans rfl
  have hz : ((L.length : Int) == 0) = false := by rw [beq_eq_false_iff_ne]; intro e; exact hL (List.length_eq_zero_iff.1 (by omega))
  clear h hg hb hL
  generalize (L.length : Int) = nn at *
  go_enter Try.func26, Try.ntmps26
  go_wp2_with (go_at_call 24; refine HL.out.mono ?_; rintro e w1 ⟨rfl, rfl⟩)
  go_ret2
  exact ⟨rfl, rfl⟩

def take.T3 : Bool × List (List Nat × List Nat) := (true, [([], []), ([], []), ([], []), ([2], [2]), ([3], [3]), ([4], [4]), ([5], [5]), ([6], [6]), ([7], [7]), ([], []), ([9], [9]), ([10], [10]), ([11], [11]), ([12], [12]), ([13], [13]), ([14], [14]), ([1, 8, 15], [1, 8, 15]), ([0, 0, 1, 2, 3, 4, 5, 6, 7, 8, 9, 10, 11, 12, 13, 14, 15, 16], [0]), ([17, 0, 1, 2, 3, 4, 5, 6, 7, 8, 9, 10, 11, 12, 13, 14, 15, 16], [17]), ([18, 16, 16, 0, 1, 2, 3, 4, 5, 6, 7, 8, 9, 10, 11, 12, 13, 14, 15, 16], [16, 18])])
def take.B3 : List Nat := [0, 0, 0, 4, 12, 28, 60, 124, 252, 0, 512, 1536, 3584, 7680, 15872, 32256, 65534, 131071, 262143, 524287]
theorem take.tab3 : rtab .any (opsOf Try.f23 3) = take.T3 := by kernel_rfl
theorem take.bits3 : waitsOk take.T3.2 take.B3 = true := by kernel_rfl

open Hm in
set_option maxHeartbeats 8000000 in
set_option maxRecDepth 100000 in
theorem take.calls (g : Nat) (L : List Int) (w : World) (h : HpP w g L) (hL : L ≠ []) (hl : L.length < 1000000) : ∃ (x : Int) (R : List Int), (x :: R).Perm L ∧ (∀ y ∈ R, decide (y < x) = false) ∧ Calls Try.prog 23 #[.pointer (some ⟨g, 0, none⟩)] w fun e w' => e = .returned (.tuple #[.int .i64 x, .bool true]) ∧ HpP w' g R ∧ w.grownBy w' (some g) := by
  have hh := h
  obtain ⟨v, t, h1, h2, h3, h4⟩ := h
  cases t with
  | leaf => exact absurd (List.Perm.nil_eq h4).symm hL
  | node x l r =>
  obtain ⟨b, d, pl, pr, rfl, hb, hpl, hpr⟩ := h2
  refine ⟨x, l.toL ++ r.toL, h4, h3.1, ?_⟩
  have HMIN := Lib.hid (min.calls g b d pl pr x L w hh hL _ h1 hb)
  have hnl : L.length = (l.toL ++ r.toL).length + 1 := by rw [← h4.length_eq]; simp [HT.toL]
  have HOL := Lib.hid h3.2.1
  have HOR := Lib.hid h3.2.2
  have HG := Lib.hid (blk_drew h1)
  have HBB := Lib.hid (blk_drew hb)
  have HPL := Lib.hid hpl.drew
  have HPR := Lib.hid hpr.drew
  have HW := Lib.hid (below_drew (Below.refl w.heap.size w))
  obtain ⟨n, hn⟩ : ∃ n : Int, (L.length : Int) = n := ⟨_, rfl⟩
  have hn0 : 0 < n := by omega
  have hn1 : n < 1000000 := by omega
  rw [hn] at HG
  have HNN := Lib.hid hn
  have HNL := Lib.hid hnl
  clear hn hl hnl h1 h3 h4 hb hpl hpr hh hL
  go_enter Try.func23, Try.ntmps23
  go_wp2_with (go_at_call 26; refine HMIN.out.mono ?_; rintro e w1 ⟨rfl, rfl⟩)
  refine start_ (n := 20) (S := fun w' => w'.cell? ⟨g, 1, none⟩ = some (.pointer (some ⟨b, 0, none⟩)) ∧ w'.cell? ⟨b, 2, none⟩ = some (.pointer pl) ∧ w'.cell? ⟨b, 3, none⟩ = some (.pointer pr)) (ds := [19]) #[false, false, false, false, false, false, false, false, false, false, false, false, false, false, false, false, false, false, false, false] (by kernel_rfl) rfl rfl ⟨(blk_cell HG.out 1).trans rfl, (blk_cell HBB.out 2).trans rfl, (blk_cell HBB.out 3).trans rfl⟩ (fun hHeld => ?_); refine with_tabW take.tab3 take.bits3 (fun HT_ HW_ => ?_)
  generalize w.drew = w1 at HG HBB HPL HPR HW hHeld ⊢
  refine pure_ (i := 0) (N := some 10) (v := ?_) (a' := ?_) #[true, false, false, false, false, false, false, false, false, false, false, false, false, false, false, false, false, false, false, false] rfl rfl (any_of HT_.out (by kernel_rfl)) (fun _ _ _ h => h) (Or.inl ⟨by rfl, ?_⟩) ?_ ?_
  rotate_left
  · intro w'
    go_simp
    with_reducible rfl
  rotate_left
  · simp only [Act.put, List.setIfInBounds_toArray, List.set_cons_zero, List.set_cons_succ, i64_w, i32_w]
    rfl
  refine pure_ (i := 1) (N := some 11) (v := ?_) (a' := ?_) #[true, true, false, false, false, false, false, false, false, false, false, false, false, false, false, false, false, false, false, false] rfl rfl (any_of HT_.out (by kernel_rfl)) (fun _ _ _ h => h) (Or.inl ⟨by rfl, ?_⟩) ?_ ?_
  rotate_left
  · intro w'
    go_simp
    with_reducible rfl
  rotate_left
  · simp only [Act.put, List.setIfInBounds_toArray, List.set_cons_zero, List.set_cons_succ, i64_w, i32_w]
    rfl
  refine pure_ (i := 2) (N := some 12) (v := ?_) (a' := ?_) #[true, true, true, false, false, false, false, false, false, false, false, false, false, false, false, false, false, false, false, false] rfl rfl (any_of HT_.out (by kernel_rfl)) (fun _ _ _ h => h) (Or.inl ⟨by rfl, ?_⟩) ?_ ?_
  rotate_left
  · intro w'
    go_simp
    with_reducible rfl
  rotate_left
  · simp only [Act.put, List.setIfInBounds_toArray, List.set_cons_zero, List.set_cons_succ, i64_w, i32_w]
    rfl
  refine pure_ (i := 3) (N := some 13) (v := ?_) (a' := ?_) #[true, true, true, true, false, false, false, false, false, false, false, false, false, false, false, false, false, false, false, false] rfl rfl (any_of HT_.out (by kernel_rfl)) (fun _ _ _ h => h) (Or.inl ⟨by rfl, ?_⟩) ?_ ?_
  rotate_left
  · intro w'
    go_simp
    with_reducible rfl
  rotate_left
  · simp only [Act.put, List.setIfInBounds_toArray, List.set_cons_zero, List.set_cons_succ, i64_w, i32_w]
    rfl
  refine pure_ (i := 4) (N := some 14) (v := ?_) (a' := ?_) #[true, true, true, true, true, false, false, false, false, false, false, false, false, false, false, false, false, false, false, false] rfl rfl (any_of HT_.out (by kernel_rfl)) (fun _ _ _ h => h) (Or.inl ⟨by rfl, ?_⟩) ?_ ?_
  rotate_left
  · intro w'
    go_simp
    with_reducible rfl
  rotate_left
  · simp only [Act.put, List.setIfInBounds_toArray, List.set_cons_zero, List.set_cons_succ, i64_w, i32_w]
    rfl
  refine take_ (i := 5) (N := some 15) (v := ?_) (a' := ?_) #[true, true, true, true, true, true, false, false, false, false, false, false, false, false, false, false, false, false, false, false] rfl rfl (take_ofW HT_.out HW_.out (by kernel_rfl)) (fun _ _ _ h => h) (Or.inl ⟨by rfl, ?_⟩) hHeld ?_ ?_
  rotate_left
  · rintro w' ⟨s0, s1, s2⟩
    go_simp
    with_reducible rfl
  rotate_left
  · simp only [Act.put, List.setIfInBounds_toArray, List.set_cons_zero, List.set_cons_succ, i64_w, i32_w]
    rfl
  refine pure_ (i := 6) (N := some 16) (v := ?_) (a' := ?_) #[true, true, true, true, true, true, true, false, false, false, false, false, false, false, false, false, false, false, false, false] rfl rfl (any_of HT_.out (by kernel_rfl)) (fun _ _ _ h => h) (Or.inl ⟨by rfl, ?_⟩) ?_ ?_
  rotate_left
  · intro w'
    go_simp
    with_reducible rfl
  rotate_left
  · simp only [Act.put, List.setIfInBounds_toArray, List.set_cons_zero, List.set_cons_succ, i64_w, i32_w]
    rfl
  refine pure_ (i := 7) (N := some 17) (v := ?_) (a' := ?_) #[true, true, true, true, true, true, true, true, false, false, false, false, false, false, false, false, false, false, false, false] rfl rfl (any_of HT_.out (by kernel_rfl)) (fun _ _ _ h => h) (Or.inl ⟨by rfl, ?_⟩) ?_ ?_
  rotate_left
  · intro w'
    go_simp
    with_reducible rfl
  rotate_left
  · simp only [Act.put, List.setIfInBounds_toArray, List.set_cons_zero, List.set_cons_succ, i64_w, i32_w]
    rfl
  refine take_ (i := 8) (N := some 18) (v := ?_) (a' := ?_) #[true, true, true, true, true, true, true, true, true, false, false, false, false, false, false, false, false, false, false, false] rfl rfl (take_ofW HT_.out HW_.out (by kernel_rfl)) (fun _ _ _ h => h) (Or.inl ⟨by rfl, ?_⟩) hHeld ?_ ?_
  rotate_left
  · rintro w' ⟨s0, s1, s2⟩
    go_simp
    with_reducible rfl
  rotate_left
  · simp only [Act.put, List.setIfInBounds_toArray, List.set_cons_zero, List.set_cons_succ, i64_w, i32_w]
    rfl
  refine pure_ (i := 9) (N := some 19) (v := ?_) (a' := ?_) #[true, true, true, true, true, true, true, true, true, true, false, false, false, false, false, false, false, false, false, false] rfl rfl (any_of HT_.out (by kernel_rfl)) (fun _ _ _ h => h) (Or.inl ⟨by rfl, ?_⟩) ?_ ?_
  rotate_left
  · intro w'
    go_simp
    with_reducible rfl
  rotate_left
  · simp only [Act.put, List.setIfInBounds_toArray, List.set_cons_zero, List.set_cons_succ, i64_w, i32_w]
    rfl
  refine pure_ (i := 10) (N := some 20) (v := ?_) (a' := ?_) #[true, true, true, true, true, true, true, true, true, true, true, false, false, false, false, false, false, false, false, false] rfl rfl (any_of HT_.out (by kernel_rfl)) (fun _ _ _ h => h) (Or.inl ⟨by rfl, ?_⟩) ?_ ?_
  rotate_left
  · intro w'
    go_simp
    with_reducible rfl
  rotate_left
  · simp only [Act.put, List.setIfInBounds_toArray, List.set_cons_zero, List.set_cons_succ, i64_w, i32_w]
    rfl
  refine pure_ (i := 11) (N := some 21) (v := ?_) (a' := ?_) #[true, true, true, true, true, true, true, true, true, true, true, true, false, false, false, false, false, false, false, false] rfl rfl (any_of HT_.out (by kernel_rfl)) (fun _ _ _ h => h) (Or.inl ⟨by rfl, ?_⟩) ?_ ?_
  rotate_left
  · intro w'
    go_simp
    with_reducible rfl
  rotate_left
  · simp only [Act.put, List.setIfInBounds_toArray, List.set_cons_zero, List.set_cons_succ, i64_w, i32_w]
    rfl
  refine take_ (i := 12) (N := some 22) (v := ?_) (a' := ?_) #[true, true, true, true, true, true, true, true, true, true, true, true, true, false, false, false, false, false, false, false] rfl rfl (take_ofW HT_.out HW_.out (by kernel_rfl)) (fun _ _ _ h => h) (Or.inl ⟨by rfl, ?_⟩) hHeld ?_ ?_
  rotate_left
  · rintro w' ⟨s0, s1, s2⟩
    go_simp
    with_reducible rfl
  rotate_left
  · simp only [Act.put, List.setIfInBounds_toArray, List.set_cons_zero, List.set_cons_succ, i64_w, i32_w]
    rfl
  refine pure_ (i := 13) (N := some 23) (v := ?_) (a' := ?_) #[true, true, true, true, true, true, true, true, true, true, true, true, true, true, false, false, false, false, false, false] rfl rfl (any_of HT_.out (by kernel_rfl)) (fun _ _ _ h => h) (Or.inl ⟨by rfl, ?_⟩) ?_ ?_
  rotate_left
  · intro w'
    go_simp
    with_reducible rfl
  rotate_left
  · simp only [Act.put, List.setIfInBounds_toArray, List.set_cons_zero, List.set_cons_succ, i64_w, i32_w]
    rfl
  refine pure_ (i := 14) (N := some 24) (v := ?_) (a' := ?_) #[true, true, true, true, true, true, true, true, true, true, true, true, true, true, true, false, false, false, false, false] rfl rfl (any_of HT_.out (by kernel_rfl)) (fun _ _ _ h => h) (Or.inl ⟨by rfl, ?_⟩) ?_ ?_
  rotate_left
  · intro w'
    go_simp
    with_reducible rfl
  rotate_left
  · simp only [Act.put, List.setIfInBounds_toArray, List.set_cons_zero, List.set_cons_succ, i64_w, i32_w]
    rfl
  refine take_ (i := 15) (N := some 25) (v := ?_) (a' := ?_) #[true, true, true, true, true, true, true, true, true, true, true, true, true, true, true, true, false, false, false, false] rfl rfl (take_ofW HT_.out HW_.out (by kernel_rfl)) (fun _ _ _ h => h) (Or.inl ⟨by rfl, ?_⟩) hHeld ?_ ?_
  rotate_left
  · rintro w' ⟨s0, s1, s2⟩
    go_simp
    with_reducible rfl
  rotate_left
  · simp only [Act.put, List.setIfInBounds_toArray, List.set_cons_zero, List.set_cons_succ, i64_w, i32_w]
    rfl
  refine one_ (i := 16) (N := some 26) #[true, true, true, true, true, true, true, true, true, true, true, true, true, true, true, true, true, false, false, false] rfl rfl (one_of HT_.out (by kernel_rfl)) (by decide) (fun K hK => ?_)
  refine goes_ Try.func70 (by kernel_rfl) rfl #[.pointer (some ⟨g, 0, none⟩), .pointer pl, .pointer pr] (by rfl) rfl rfl (by (try simp only [List.map_toArray, List.map_cons, List.map_nil]); first | done | rfl) ?_
  refine (meld.calls g _ _ _ l r pl pr w1 (Nat.le_refl _) HG.out HPL.out HPR.out HOL.out HOR.out).mono ?_
  rintro e w3 ⟨v3, t3, rfl, q1, q2, q3, q4⟩
  refine ⟨_, rfl, ?_⟩
  have HQ1 := Lib.hid q1
  have HQ2 := Lib.hid q2
  have HQ3 := Lib.hid q3
  replace HG := Lib.hid (blk_below HG.out q4)
  replace HBB := Lib.hid (blk_below HBB.out q4)
  replace HW := Lib.hid (below_step HW.out q4)
  clear q1 q2 q3 q4 HPL HPR
  refine hK.out _ _ ⟨(blk_cell HG.out 1).trans rfl, (blk_cell HBB.out 2).trans rfl, (blk_cell HBB.out 3).trans rfl⟩ (fun hHeld => ?_)
  clear hK K
  refine norm_ (a' := ?_) ?_ ?_
  rotate_left
  · show Act.put _ (some 26) _ = _
    simp only [Act.put, List.setIfInBounds_toArray, List.set_cons_zero, List.set_cons_succ, i64_w, i32_w]
    rfl
  refine pure_ (i := 17) (N := some 27) (v := ?_) (a' := ?_) #[true, true, true, true, true, true, true, true, true, true, true, true, true, true, true, true, true, true, false, false] rfl rfl (any_of HT_.out (by kernel_rfl)) (fun _ _ _ h => h) (Or.inl ⟨by rfl, ?_⟩) ?_ ?_
  rotate_left
  · intro w'
    go_simp
    with_reducible rfl
  rotate_left
  · simp only [Act.put, List.setIfInBounds_toArray, List.set_cons_zero, List.set_cons_succ, i64_w, i32_w]
    rfl
  refine pure_ (i := 18) (N := some 28) (v := ?_) (a' := ?_) #[true, true, true, true, true, true, true, true, true, true, true, true, true, true, true, true, true, true, true, false] rfl rfl (any_of HT_.out (by kernel_rfl)) (fun _ _ _ h => h) (Or.inl ⟨by rfl, ?_⟩) ?_ ?_
  rotate_left
  · intro w'
    go_simp
    with_reducible rfl
  rotate_left
  · simp only [Act.put, List.setIfInBounds_toArray, List.set_cons_zero, List.set_cons_succ, i64_w, i32_w]
    rfl
  refine last_ (i := 19) (N := none) #[true, true, true, true, true, true, true, true, true, true, true, true, true, true, true, true, true, true, true, true] rfl rfl (one_of HT_.out (by kernel_rfl)) (by decide) (fun K hK => ?_)
  have d1 : w3.cell? ⟨g, 1, none⟩ = some (.pointer (some ⟨b, 0, none⟩)) := (blk_cell HG.out 1).trans rfl
  have d2 : w3.cell? ⟨g, 2, none⟩ = some (.int .i64 n) := (blk_cell HG.out 2).trans rfl
  have f1 := blk_frozen HG.out 1
  have f2 := blk_frozen HG.out 2
  refine skip_ (w1 := ?_) (by rfl) rfl ?_ ?_
  rotate_left
  · go_simp
    rfl
  refine hK.out _ _ ?_
  clear hK K
  refine done_ (done_of HT_.out (by kernel_rfl)) ?_
  go_wp2
  go_ret2
  have hgr : w.grownBy ((w3.setCell ⟨g, 1, none⟩ (.pointer v3)).setCell ⟨g, 2, none⟩ (.int .i64 (n - 1))) (some g) := ((grown_of_below HW.out (some g)).trans (PxR.grown_set w3 ⟨g, 1, none⟩ _)).trans (PxR.grown_set _ ⟨g, 2, none⟩ _)
  refine ⟨rfl, ⟨v3, t3, ?_, ?_, HQ2.out, HQ3.out⟩, hgr⟩
  · have e : ((l.toL ++ r.toL).length : Int) = n - 1 := by have := HNL.out; rw [← HNN.out]; omega
    rw [e]
    refine blk_put (cs := #[.func (.func 21) #[] #[], .pointer v3, .int .i64 n]) ?_ 2 _ rfl
    exact blk_put (cs := #[.func (.func 21) #[] #[], .pointer (some ⟨b, 0, none⟩), .int .i64 n]) HG.out 1 _ rfl
  · exact Nd.set (blk_put (cs := #[.func (.func 21) #[] #[], .pointer (some ⟨b, 0, none⟩), .int .i64 n]) HG.out 1 (.pointer v3) rfl) (by decide) 2 _ (Nd.set HG.out (by decide) 1 _ HQ1.out)

set_option maxHeartbeats 4000000 in
set_option maxRecDepth 100000 in
theorem take_none.calls (g : Nat) (w : World) (h : HpP w g []) : Calls Try.prog 23 #[.pointer (some ⟨g, 0, none⟩)] w fun e w' => e = .returned (.tuple #[.int .i64 0, .bool false]) ∧ w = w' := by
  have HM := Lib.hid (min_none.calls g w h)
  clear h
  go_enter Try.func23, Try.ntmps23
  go_wp2_with (go_at_call 26; refine HM.out.mono ?_; rintro e w1 ⟨rfl, rfl⟩)
  go_ret2
  exact ⟨rfl, rfl⟩
set_option maxHeartbeats 4000000 in
set_option maxRecDepth 100000 in
theorem change_none.calls (g : Nat) (x : Int) (w : World) (h : HpP w g []) : Calls Try.prog 31 #[.pointer (some ⟨g, 0, none⟩), .int .i64 x] w fun e w' => e = .returned (.bool false) ∧ w = w' := by
  have HM := Lib.hid (take_none.calls g w h)
  clear h
  go_enter Try.func31, Try.ntmps31
  go_wp2_with (go_at_call 23; refine HM.out.mono ?_; rintro e w1 ⟨rfl, rfl⟩)
  go_ret
  exact ⟨rfl, rfl⟩
set_option maxHeartbeats 4000000 in
set_option maxRecDepth 100000 in
theorem change.calls (g : Nat) (z : Int) (L : List Int) (w : World) (h : HpP w g L) (hL : L ≠ []) (hl : L.length < 1000000) : ∃ (x : Int) (R : List Int), (x :: R).Perm L ∧ (∀ y ∈ R, decide (y < x) = false) ∧ Calls Try.prog 31 #[.pointer (some ⟨g, 0, none⟩), .int .i64 z] w fun e w' => e = .returned (.bool true) ∧ HpP w' g (z :: R) ∧ w.grownBy w' (some g) := by
  obtain ⟨x, R, h1, h2, h3⟩ := take.calls g L w h hL hl
  refine ⟨x, R, h1, h2, ?_⟩
  have HT := Lib.hid h3
  have hR : R.length < 1000000 := by have := h1.length_eq; simp at this; omega
  have HP := Lib.hid (fun (w1 : World) (h : HpP w1 g R) => put.calls g z R w1 h hR)
  clear h1 h2 h3 h hL hl hR
  go_enter Try.func31, Try.ntmps31
  go_wp2_with (first | (go_at_call 23; refine HT.out.mono ?_; rintro e w1 ⟨rfl, q1, q2⟩; have HQ1 := Lib.hid q1; have HQ2 := Lib.hid q2; clear q1 q2) | (go_at_call 22; refine (HP.out _ HQ1.out).mono ?_; rintro e w2 ⟨rfl, q3, q4⟩; have HQ3 := Lib.hid q3; have HQ4 := Lib.hid q4; clear q3 q4))
  go_ret
  exact ⟨rfl, HQ3.out, HQ2.out.trans HQ4.out⟩
def heapSeq.T2 : Bool × List (List Nat × List Nat) := (true, [([], []), ([], []), ([1], [1]), ([2], [2]), ([3], [3]), ([], []), ([5], [5]), ([6], [6]), ([7], [7]), ([0, 4, 8], [0, 4, 8]), ([9, 9, 0, 1, 2, 3, 4, 5, 6, 7, 8, 9], [1, 5, 9])])
def heapSeq.B2 : List Nat := [0, 0, 2, 6, 14, 0, 32, 96, 224, 511, 1023]
theorem heapSeq.tab2 : rtab .any (opsOf Try.f103 2) = heapSeq.T2 := by kernel_rfl
theorem heapSeq.bits2 : waitsOk heapSeq.T2.2 heapSeq.B2 = true := by kernel_rfl

/-- What a round of a loop over a heap keeps: the heap, and all nodes. -/
def HKeep (g Bh : Nat) (W W' : World) : Prop := W'.heap[Bh]? = W.heap[Bh]? ∧ W'.heap[g]? = W.heap[g]? ∧ ∀ (b : Nat) (cs : Array Value), W.heap[b]? = some (Obj.cells cs 104 (0, 0)) → W'.heap[b]? = some (Obj.cells cs 104 (0, 0))
open Hm in
theorem Nd.keep {g Bh : Nat} {W W' : World} (hk : HKeep g Bh W W') : ∀ {p : Option Addr} {t : HT Int}, Nd W p t → Nd W' p t
  | _, .leaf, h => h
  | _, .node x l r, h => by
    obtain ⟨b, d, pl, pr, h1, h2, h3, h4⟩ := h
    exact ⟨b, d, pl, pr, h1, hk.2.2 b _ h2, h3.keep hk, h4.keep hk⟩
def Desc (l : List Int) : Prop := l.Pairwise (fun a b => decide (b < a) = false)
set_option maxHeartbeats 4000000 in
set_option maxRecDepth 100000 in
theorem heapAll.calls (g : Nat) (w : World) : Calls Try.prog 71 #[.pointer (some ⟨g, 0, none⟩)] w fun e w' => ∃ Bh, e = .returned (.func (.func 103) #[] #[.pointer (some ⟨Bh, 0, none⟩)]) ∧ w.heap.size ≤ Bh ∧ w'.heap[Bh]? = some (.cells #[.pointer (some ⟨g, 0, none⟩)] 24 (0, 0)) ∧ Below w.heap.size w w' := by
  go_enter Try.func71, Try.ntmps71
  go_wp2
  go_ret
  exact ⟨w.heap.size, rfl, Nat.le_refl _, heap_alloc_new w _, below_alloc (Below.refl _ _) _⟩
open Hm in
set_option maxHeartbeats 8000000 in
set_option maxRecDepth 100000 in
attribute [local go_sem] Oper.semAt_some in
theorem heap_seq (g Bh : Nat) (L : List Int) (w : World) (hB : w.heap[Bh]? = some (.cells #[.pointer (some ⟨g, 0, none⟩)] 24 (0, 0))) (hg : HpP w g L) (n : Nat) (hn : 3 ≤ n) :
    PxR.SeqX Fence.wide n Try.prog 103 #[.pointer (some ⟨Bh, 0, none⟩)] (fun x : Int => #[.int .i64 x]) (HKeep g Bh) (fun _ _ => False) (fun ys => ys.Perm L ∧ Desc ys) (fun _ => True) L.length w := by
  intro l J Jx W hW hJ hJx hY h0
  refine callsIn_wide.2 ?_
  simp only [List.append_toArray, List.cons_append, List.nil_append]
  replace hB := blk_below hB hW
  obtain ⟨v, t, g1, g2, g3, g4⟩ := hg.below hW
  have c1 : W.cell? ⟨Bh, 0, none⟩ = some (.pointer (some ⟨g, 0, none⟩)) := (blk_cell hB 0).trans rfl
  have c2 : W.cell? ⟨g, 1, none⟩ = some (.pointer v) := (blk_cell g1 1).trans rfl
  have HBH := Lib.hid hB
  have HG := Lib.hid g1
  have HND := Lib.hid g2
  have HO := Lib.hid g3
  have HPM := Lib.hid g4
  have HN := Lib.hid hn
  have HJ := Lib.hid hJ
  have HY := Lib.hid hY
  have H0 := Lib.hid h0
  obtain ⟨nn, hnn⟩ : ∃ nn : Value, .int .i64 (L.length : Int) = nn := ⟨_, rfl⟩
  rw [hnn] at HG
  clear hB g1 g2 g3 g4 hg hn hJ hJx hY h0 hW hnn
  go_enter Try.func103, Try.ntmps103
  go_wp2
  refine (wpIn_wide (n := n)).1 ?_
  gi_loopg [3] (L.length + 1) (fun k v3 wr => ∃ (pre : List Int) (t : HT Int) (p : Option Addr), v3 = .pointer p ∧ Hid (t.toL.length < k) ∧ Hid (Nd wr p t ∧ t.ord (fun a b => decide (a < b)) ∧ (pre ++ t.toL).Perm L ∧ Desc pre ∧ ∀ x ∈ pre, ∀ y ∈ t.toL, decide (y < x) = false) ∧ Hid (wr.heap[Bh]? = some (.cells #[.pointer (some ⟨g, 0, none⟩)] 24 (0, 0))) ∧ Hid (wr.heap[g]? = some (.cells #[.func (.func 21) #[] #[], .pointer v, nn] 41 (0, 0))) ∧ Hid (J pre wr))
  case atStart => exact ⟨[], t, v, rfl, Lib.hid (by have := HPM.out.length_eq; omega), ⟨HND.out, HO.out, HPM.out, List.Pairwise.nil, fun x hx => by cases hx⟩, HBH, HG, H0⟩
  case round =>
    clear HND HO HPM H0 HBH HG
    obtain ⟨pre, t, p, rfl, HK, HTR, HBH, HG, HJ0⟩ := hrel
    cases t with
    | leaf =>
      have hp : p = none := HTR.out.1
      subst hp
      have HE : Hid (J pre wr ∧ pre.Perm L ∧ Desc pre) := ⟨HJ0.out, by have := HTR.out.2.2.1; simpa [HT.toL] using this, HTR.out.2.2.2.1⟩
      gi_wp2
      try rw [Exit.noGoto_normal]
      go_end0
      exact ⟨⟨_, rfl⟩, Or.inl ⟨pre, HE.out.2, HE.out.1⟩⟩
    | node x l0 r0 =>
      obtain ⟨b, d, pl, pr, hp, hb, hpl, hpr⟩ := HTR.out.1
      subst hp
      have cx : wr.cell? ⟨b, 0, none⟩ = some (.int .i64 x) := (blk_cell hb 0).trans rfl
      have HOL := Lib.hid HTR.out.2.1.2.1
      have HOR := Lib.hid HTR.out.2.1.2.2
      have HXR := Lib.hid HTR.out.2.1.1
      have HND := Lib.hid HTR.out.1
      have hlen : pre.length < L.length := by have := HTR.out.2.2.1.length_eq; simp [HT.toL] at this; omega
      have HLE := Lib.hid hlen
      have HPM := Lib.hid HTR.out.2.2
      clear hb hpl hpr hlen HTR
      obtain ⟨fn, tmps, assign, body, hy, hR⟩ := HY.out pre x wr HJ0.out HLE.out
      have HR1 := Lib.hid hR
      clear hR
      gi_wp2
      refine ⟨fun _ => by have := HN.out; omega, HR1.out.mono ?_⟩
      rintro e W3 (⟨rfl, hJ3, hk3⟩ | ⟨rfl, hJx3⟩)
      · have HB3 : Hid (W3.heap[Bh]? = some (.cells #[.pointer (some ⟨g, 0, none⟩)] 24 (0, 0))) := hk3.1.trans HBH.out
        have HG3 : Hid (W3.heap[g]? = some (.cells #[.func (.func 21) #[] #[], .pointer v, nn] 41 (0, 0))) := hk3.2.1.trans HG.out
        have HN3 := Lib.hid (HND.out.keep hk3)
        have HJ3 := Lib.hid hJ3
        clear hJ3 hk3 HBH HG HND HJ0
        gi_wp2
        obtain ⟨b', d', pl', pr', e', hb', hpl', hpr'⟩ := HN3.out
        cases e'
        have HBB := Lib.hid (blk_drew hb')
        have HPL := Lib.hid hpl'.drew
        have HPR := Lib.hid hpr'.drew
        have HBH := Lib.hid (blk_drew HB3.out)
        have HG := Lib.hid (blk_drew HG3.out)
        have HJ4 : Hid (J (pre ++ [x]) W3.drew) := HJ.out _ _ _ none HJ3.out (grown_of_below (below_drew (Below.refl _ _)) none) (fun r e => by cases e)
        clear hb' hpl' hpr' HB3 HG3 HN3 HJ3
        refine (wpIn_wide (n := n)).2 ?_
        refine start_ (n := 11) (S := fun w' => w'.cell? ⟨Bh, 0, none⟩ = some (.pointer (some ⟨g, 0, none⟩)) ∧ w'.cell? ⟨b, 2, none⟩ = some (.pointer pl') ∧ w'.cell? ⟨b, 3, none⟩ = some (.pointer pr')) (ds := []) #[false, false, false, false, false, false, false, false, false, false, false] (by kernel_rfl) rfl rfl ⟨(blk_cell HBH.out 0).trans rfl, (blk_cell HBB.out 2).trans rfl, (blk_cell HBB.out 3).trans rfl⟩ (fun hHeld => ?_); refine with_tabW heapSeq.tab2 heapSeq.bits2 (fun HT_ HW_ => ?_)
        generalize W3.drew = w4 at HBH HG HBB HPL HPR HJ4 hHeld ⊢
        refine take_ (i := 0) (N := some 10) (v := ?_) (a' := ?_) #[true, false, false, false, false, false, false, false, false, false, false] rfl rfl (take_ofW HT_.out HW_.out (by kernel_rfl)) (fun _ _ _ h => h) (Or.inl ⟨by rfl, ?_⟩) hHeld ?_ ?_
        rotate_left
        · rintro w' ⟨s0, s1, s2⟩
          go_simp
          with_reducible rfl
        rotate_left
        · simp only [Act.put, List.setIfInBounds_toArray, List.set_cons_zero, List.set_cons_succ, i64_w, i32_w]
          rfl
        refine pure_ (i := 1) (N := some 11) (v := ?_) (a' := ?_) #[true, true, false, false, false, false, false, false, false, false, false] rfl rfl (any_of HT_.out (by kernel_rfl)) (fun _ _ _ h => h) (Or.inl ⟨by rfl, ?_⟩) ?_ ?_
        rotate_left
        · intro w'
          go_simp
          with_reducible rfl
        rotate_left
        · simp only [Act.put, List.setIfInBounds_toArray, List.set_cons_zero, List.set_cons_succ, i64_w, i32_w]
          rfl
        refine pure_ (i := 2) (N := some 12) (v := ?_) (a' := ?_) #[true, true, true, false, false, false, false, false, false, false, false] rfl rfl (any_of HT_.out (by kernel_rfl)) (fun _ _ _ h => h) (Or.inl ⟨by rfl, ?_⟩) ?_ ?_
        rotate_left
        · intro w'
          go_simp
          with_reducible rfl
        rotate_left
        · simp only [Act.put, List.setIfInBounds_toArray, List.set_cons_zero, List.set_cons_succ, i64_w, i32_w]
          rfl
        refine pure_ (i := 3) (N := some 13) (v := ?_) (a' := ?_) #[true, true, true, true, false, false, false, false, false, false, false] rfl rfl (any_of HT_.out (by kernel_rfl)) (fun _ _ _ h => h) (Or.inl ⟨by rfl, ?_⟩) ?_ ?_
        rotate_left
        · intro w'
          go_simp
          with_reducible rfl
        rotate_left
        · simp only [Act.put, List.setIfInBounds_toArray, List.set_cons_zero, List.set_cons_succ, i64_w, i32_w]
          rfl
        refine take_ (i := 4) (N := some 14) (v := ?_) (a' := ?_) #[true, true, true, true, true, false, false, false, false, false, false] rfl rfl (take_ofW HT_.out HW_.out (by kernel_rfl)) (fun _ _ _ h => h) (Or.inl ⟨by rfl, ?_⟩) hHeld ?_ ?_
        rotate_left
        · rintro w' ⟨s0, s1, s2⟩
          go_simp
          with_reducible rfl
        rotate_left
        · simp only [Act.put, List.setIfInBounds_toArray, List.set_cons_zero, List.set_cons_succ, i64_w, i32_w]
          rfl
        refine pure_ (i := 5) (N := some 15) (v := ?_) (a' := ?_) #[true, true, true, true, true, true, false, false, false, false, false] rfl rfl (any_of HT_.out (by kernel_rfl)) (fun _ _ _ h => h) (Or.inl ⟨by rfl, ?_⟩) ?_ ?_
        rotate_left
        · intro w'
          go_simp
          with_reducible rfl
        rotate_left
        · simp only [Act.put, List.setIfInBounds_toArray, List.set_cons_zero, List.set_cons_succ, i64_w, i32_w]
          rfl
        refine pure_ (i := 6) (N := some 16) (v := ?_) (a' := ?_) #[true, true, true, true, true, true, true, false, false, false, false] rfl rfl (any_of HT_.out (by kernel_rfl)) (fun _ _ _ h => h) (Or.inl ⟨by rfl, ?_⟩) ?_ ?_
        rotate_left
        · intro w'
          go_simp
          with_reducible rfl
        rotate_left
        · simp only [Act.put, List.setIfInBounds_toArray, List.set_cons_zero, List.set_cons_succ, i64_w, i32_w]
          rfl
        refine pure_ (i := 7) (N := some 17) (v := ?_) (a' := ?_) #[true, true, true, true, true, true, true, true, false, false, false] rfl rfl (any_of HT_.out (by kernel_rfl)) (fun _ _ _ h => h) (Or.inl ⟨by rfl, ?_⟩) ?_ ?_
        rotate_left
        · intro w'
          go_simp
          with_reducible rfl
        rotate_left
        · simp only [Act.put, List.setIfInBounds_toArray, List.set_cons_zero, List.set_cons_succ, i64_w, i32_w]
          rfl
        refine take_ (i := 8) (N := some 18) (v := ?_) (a' := ?_) #[true, true, true, true, true, true, true, true, true, false, false] rfl rfl (take_ofW HT_.out HW_.out (by kernel_rfl)) (fun _ _ _ h => h) (Or.inl ⟨by rfl, ?_⟩) hHeld ?_ ?_
        rotate_left
        · rintro w' ⟨s0, s1, s2⟩
          go_simp
          with_reducible rfl
        rotate_left
        · simp only [Act.put, List.setIfInBounds_toArray, List.set_cons_zero, List.set_cons_succ, i64_w, i32_w]
          rfl
        refine one_ (i := 9) (N := some 19) #[true, true, true, true, true, true, true, true, true, true, false] rfl rfl (one_of HT_.out (by kernel_rfl)) (by decide) (fun K hK => ?_)
        refine goes_ Try.func70 (by kernel_rfl) rfl #[.pointer (some ⟨g, 0, none⟩), .pointer pl', .pointer pr'] (by rfl) rfl rfl (by (try simp only [List.map_toArray, List.map_cons, List.map_nil]); first | done | rfl) ?_
        refine (meld.calls g _ _ _ l0 r0 pl' pr' w4 (Nat.le_refl _) HG.out HPL.out HPR.out HOL.out HOR.out).mono ?_
        rintro e w5 ⟨v5, t5, rfl, q1, q2, q3, q4⟩
        refine ⟨_, rfl, ?_⟩
        have HQ1 := Lib.hid q1
        have HQ2 := Lib.hid q2
        have HQ3 := Lib.hid q3
        replace HG := Lib.hid (blk_below HG.out q4)
        replace HBH := Lib.hid (blk_below HBH.out q4)
        replace HBB := Lib.hid (blk_below HBB.out q4)
        replace HJ4 := Lib.hid (HJ.out _ _ _ none HJ4.out (grown_of_below q4 none) (fun r e => by cases e))
        clear q1 q2 q3 q4 HPL HPR
        refine hK.out _ _ ⟨(blk_cell HBH.out 0).trans rfl, (blk_cell HBB.out 2).trans rfl, (blk_cell HBB.out 3).trans rfl⟩ (fun hHeld => ?_)
        clear hK K
        refine norm_ (a' := ?_) ?_ ?_
        rotate_left
        · show Act.put _ (some 19) _ = _
          simp only [Act.put, List.setIfInBounds_toArray, List.set_cons_zero, List.set_cons_succ, i64_w, i32_w]
          rfl
        refine pure_ (i := 10) (N := some 3) (v := ?_) (a' := ?_) #[true, true, true, true, true, true, true, true, true, true, true] rfl rfl (any_of HT_.out (by kernel_rfl)) (fun _ _ _ h => h) (Or.inl ⟨by rfl, ?_⟩) ?_ ?_
        rotate_left
        · intro w'
          go_simp
          with_reducible rfl
        rotate_left
        · simp only [Act.put, List.setIfInBounds_toArray, List.set_cons_zero, List.set_cons_succ, i64_w, i32_w]
          rfl
        refine done_ (done_of HT_.out (by kernel_rfl)) ?_
        try gi_wp2
        go_roundg (t5.toL.length + 1)
        case measure => have := HK.out; have := HQ3.out.length_eq; simp [HT.toL] at *; omega
        case rel =>
          have hpm := HPM.out
          have hp3 : (pre ++ [x] ++ t5.toL).Perm L := by
            rw [List.append_assoc]
            exact (List.Perm.append_left pre (List.Perm.cons x HQ3.out)).trans hpm.1
          refine ⟨pre ++ [x], t5, v5, rfl, Lib.hid (Nat.lt_succ_self _), ⟨HQ1.out, HQ2.out, hp3, ?_, ?_⟩, HBH, HG, HJ4⟩
          · refine List.pairwise_append.2 ⟨hpm.2.1, by simp, fun a ha c hc => ?_⟩
            obtain rfl := List.mem_singleton.1 hc
            exact hpm.2.2 a ha c (by simp [HT.toL])
          · intro a ha y hy
            have hy2 := HQ3.out.mem_iff.1 hy
            rcases List.mem_append.1 ha with h | h
            · exact hpm.2.2 a h y (List.mem_cons_of_mem _ hy2)
            · obtain rfl := List.mem_singleton.1 h
              exact HXR.out y hy2
      · have HJX3 := Lib.hid hJx3
        clear hJx3
        gi_wp2
        try rw [Exit.noGoto_ret]
        try simp only [Exit.inBlock, Exit.then]
        refine bodyPost_ret (results_none rfl _ _ _) rfl ?_
        exact ⟨⟨_, rfl⟩, Or.inr ⟨pre ++ [x], trivial, HJX3.out⟩⟩
theorem own_R {W : World} {base base' e : Nat} {v : Value} {xs : List Int} (h : W.ownsRow base e 1 v xs.length (xs.map (Value.int .i64))) (hb : base' ≤ base) : Kd.R (Kd.int .i64) e W base' (fun _ => True) v xs := by
  refine ⟨fun _ _ => trivial, xs.map (Value.int .i64), ⟨h.1, ?_⟩, by show (xs.map (Value.int .i64)).length = xs.length * 1; simp, fun j p hp => ?_⟩
  · rcases h.2 with h' | ⟨g, cap, cur, h1, h2, h3⟩
    · exact .inl h'
    · exact .inr ⟨g, cap, cur, h1, Nat.le_trans hb h2, h3⟩
  · obtain ⟨hj, rfl⟩ := List.getElem?_eq_some_iff.1 hp
    show List.take 1 (List.drop (j * 1) (xs.map (Value.int .i64))) = [Value.int .i64 xs[j]]
    rw [Nat.mul_one, List.drop_eq_getElem_cons (by simpa using hj)]; simp
theorem node_row {W : World} {base n b : Nat} {v : Value} {xs : List Value} {cs : Array Value} (h : W.ownsRow base 3 1 v n xs) (hb : W.heap[b]? = some (.cells cs 104 (0, 0))) : some b ≠ v.ownBlock := fun e => by
  obtain ⟨cells, hc⟩ := own_typed h b e.symm
  rw [hb] at hc
  injection hc with hc
  injection hc with _ hc
  exact absurd hc (by decide)
set_option maxHeartbeats 8000000 in
set_option maxRecDepth 100000 in
attribute [local go_sem] Oper.semAt_some in
theorem list.calls (g : Nat) (L : List Int) (w : World) (h : HpP w g L) (hl : L.length < 1000000) : Calls Try.prog 25 #[.pointer (some ⟨g, 0, none⟩)] w fun e w' => ∃ (v : Value) (xs : List Int), e = .returned v ∧ xs.Perm L ∧ Desc xs ∧ Kd.R (Kd.int .i64) 3 w' w.heap.size (fun _ => True) v xs ∧ Below w.heap.size w w' := by
  obtain ⟨v0, t0, g1, _⟩ := id h
  have HN := Lib.hid (none_no.calls g _ _ _ w rfl g1)
  have HH := Lib.hid h
  have glt := h.lt
  clear h g1
  refine (callsIn_wide (n := 5)).1 ?_
  refine callsIn_of_wp_marks Try.func25 rfl trivial ?_ rfl
  simp only [Try.ntmps25, List.size_toArray, List.length_cons, List.length_nil, Nat.reduceAdd, Nat.reduceSub, Array.replicate_succ, Array.replicate_zero, List.push_toArray, List.append_toArray, List.nil_append, List.cons_append]
  refine (wpIn_wide (n := 5)).2 ?_
  go_wp2_with (first
    | (go_at_call 69; refine HN.out.mono ?_; rintro e w1 ⟨rfl, rfl⟩)
    | (go_at_call 71; refine (heapAll.calls g _).mono ?_; rintro e w2 ⟨Bh, rfl, q1, q2, q3⟩; have HQ1 := Lib.hid q1; have HQ2 := Lib.hid q2; have HQ3 := Lib.hid q3; clear q1 q2 q3))
  obtain ⟨be, hbe⟩ : ∃ b, w.heap.size = b := ⟨_, rfl⟩
  have q3 := HQ3.out
  have q1 := HQ1.out
  have he2 : w2.heap[be]? = some (.cells #[.slice none 0 0] 22 (0, 0)) := (q3.block _ (by simp; omega)).trans (by rw [← hbe]; exact heap_alloc_new w _)
  have hww : Below w.heap.size w w2 := below_step (below_alloc (Below.refl _ _) _) q3
  have hh2 : HpP w2 g L := HH.out.below hww
  have sl : be < Bh := by simp at q1; omega
  have zl : Bh < w2.heap.size := blk_lt HQ2.out
  have HB2 := HQ2.out
  rw [hbe]
  have hw1 : w.heap.size ≤ be := by omega
  have gbe : g ≠ be := by omega
  have hgb : g ≠ Bh := by omega
  clear HQ1 HQ2 HQ3 q1 q3
  have g2lt := hh2.lt
  obtain ⟨i0, hi0, hz0, hz1, hz2⟩ := info_parts info3
  refine (wpIn_wide (n := 5)).1 ?_
  refine PxR.rangeX rfl (by omega) (gf := 103) (lb := #[.pointer (some ⟨Bh, 0, none⟩)]) rfl trivial (enters_of Try.func103 (by kernel_rfl) rfl) (heap_seq g Bh L w2 HB2 hh2 4 (by omega)) ?kt ?kb (Below.refl _ _) (fun _ => rfl) ?ok (fun pre W => Below w.heap.size w W ∧ w2.heap.size ≤ W.heap.size ∧ ∃ v, W.heap[be]? = some (.cells #[v] 22 (0, 0)) ∧ W.ownsRow w2.heap.size 3 1 v pre.length (pre.map (fun p => Value.int .i64 p))) (fun _ _ _ => False) ?hI ?hIx ⟨hww, Nat.le_refl _, _, he2, by simp, .inl ⟨rfl, rfl⟩⟩ (fun x => { tmps := #[.pointer (some ⟨g, 0, none⟩), undef, .slice none 0 0, .pointer (some ⟨be, 0, none⟩), .int .i64 x, .pointer (some ⟨g, 0, none⟩), .bool false, .pointer (some ⟨g, 0, none⟩), .func (.func 103) #[] #[.pointer (some ⟨Bh, 0, none⟩)], .int .i64 x, undef, undef, undef, undef, undef], defers := [] }) ?assign ?body ?done ?stop
  case kt => exact fun h k => ⟨k.1.trans h.1, k.2.1.trans h.2.1, fun b cs hb => k.2.2 b cs (h.2.2 b cs hb)⟩
  case kb =>
    intro W o o' h hc
    refine ⟨World.putObj_heap_other (by omega), World.putObj_heap_other (by omega), fun b cs hb => ?_⟩
    have hne : w2.heap.size + 1 ≠ b := fun e => by
      subst e
      rw [hb] at h
      cases h
      exact absurd hc (by simp [Obj.isCells])
    exact (World.putObj_heap_other (Ne.symm hne)).trans hb
  case ok => exact fun r hr => hr.elim
  case hI =>
    rintro s A B row ⟨h1, h2, v, hv, hown⟩ hgr hr
    have hz := (Array.getElem?_eq_some_iff.1 hv).1
    have ho : ∀ r, row = some r → (r = w2.heap.size ∨ r = w2.heap.size + 1) ∧ ∃ o : Obj, A.heap[r]? = some o ∧ o.isCells = false := fun r e => by
      rcases hr r e with h | h
      · exact h.elim
      · exact h
    refine ⟨h1.grown hgr (by omega) (fun r e => by have := (ho r e).1; omega), Nat.le_trans h2 hgr.size, v, PxR.blk_other hgr hv (fun e => by have := (ho _ e.symm).1; omega), ?_⟩
    cases row with
    | none => exact hown.kept hgr (by cases v.ownBlock <;> simp)
    | some r => exact hown.kept hgr (PxR.own_ne hown (Or.inr (ho r rfl).2))
  case hIx => exact fun _ _ _ _ _ hs _ _ => hs
  case assign =>
    intro l x W K hK
    gi_wp2_with (rw [Oper.semAt_eq _ _ _ (fun c h => by cases h)]; go_simp; try go_bits)
    exact hK
  case body =>
    rintro l pre x W ⟨hb, h2, v, hc, hown⟩ hlen2
    have c1 : W.cell? ⟨be, 0, none⟩ = some v := (blk_cell hc 0).trans rfl
    have f1 : W.frozen? ⟨be, 0, none⟩ = false := blk_frozen hc 0
    generalize Fence.wide = F0
    gi_wp2_with (first
      | (gi_at_builtin; refine wpListIn_append_own _ rfl _ _ 22 rfl w2.heap.size 3 i0 (.int .i64 0) 1 8 Try.underlying22 hi0 hz0 hz1 hz2 rfl (by decide) _ _ _ rfl (hown.alloc _) ⟨W.heap.size, 0, none⟩ 1 1 [.int .i64 x] rfl rfl (cell_one_new _ _ _) (by simp [Value.oneCell']) (by unfold maxLen; omega) (by omega) (by simp; omega) ?_; intro v' w3 hown' hg3 hnil3
         replace hg3 : (W.alloc (.cells #[.int .i64 x] 3)).grownBy w3 v.ownBlock := hg3
         have hbl : be < W.heap.size := by omega
         have ne3 : ∀ q, q < w2.heap.size → some q ≠ v.ownBlock := fun q hq e => by
           rcases PxR.own_ne hown (Or.inl hq) with h | h
           · rw [h] at e; cases e
           · exact h e.symm
         have keep3 : ∀ q, q < w2.heap.size → w3.heap[q]? = W.heap[q]? := fun q hq => (hg3.block q (by simp; omega) (ne3 q hq)).trans (Below.heap_alloc _ _ q (by omega))
         have nod3 : ∀ (b : Nat) (cs : Array Value), W.heap[b]? = some (Obj.cells cs 104 (0, 0)) → w3.heap[b]? = some (Obj.cells cs 104 (0, 0)) := fun b cs hbb => by
           have hz := blk_lt hbb
           exact ((hg3.block b (by simp; omega) (node_row hown hbb)).trans (Below.heap_alloc _ _ b hz)).trans hbb
         have hc3 := (keep3 be (by omega)).trans hc
         have c3 : w3.cell? ⟨be, 0, none⟩ = some v := (blk_cell hc3 0).trans rfl
         have f3 : w3.frozen? ⟨be, 0, none⟩ = false := blk_frozen hc3 0
         have hb3 : Below w.heap.size W w3 := ((Below.refl w.heap.size W).alloc (by omega) _).grown hg3 (by simp; omega) (fun q e => by
           obtain ⟨o, ho⟩ : ∃ o, (W.alloc (.cells #[.int .i64 x] 3)).heap[q]? = some o := by
             rcases (hown.alloc (.cells #[.int .i64 x] 3)).2 with ⟨rfl, _⟩ | ⟨g, cap, cur, rfl, _, hg, _⟩
             · simp [Value.ownBlock] at e
             · have : g = q := by simpa [Value.ownBlock] using e
               subst this; exact ⟨_, hg⟩
           have := (PxR.own_cells (hown.alloc _) e ho).2
           omega)
         have hk3 : KeepsOthers W w3 := (KeepsOthers.alloc W _).trans (KeepsOthers.of_grownBy hg3 (fun j o ej hj => (PxR.own_cells (hown.alloc _) ej hj).1))
         have HB3 := Lib.hid hb3
         have HK3 := Lib.hid hk3
         have KP3 := Lib.hid keep3
         have ND3 := Lib.hid nod3
         obtain ⟨g', cap', rfl⟩ : ∃ g' cap', v' = .slice (some ⟨g', 0, none⟩) (pre.length + 1) cap' := by
           rcases hown'.2 with ⟨_, h0⟩ | ⟨g', cap', _, h', _⟩
           · exact absurd h0 (by omega)
           · exact ⟨g', cap', h'⟩
         have HO3 := Lib.hid hown'
         have HC3 := Lib.hid hc3
         clear hb3 hk3 keep3 nod3 hown' hc3 ne3
         go_frame)
      | (rw [Oper.semAt_eq _ _ _ (fun c h => by cases h)]; go_simp; try go_bits))
    refine ⟨HK3.out.trans (KeepsOthers.setCell _ _ _), ⟨(Below.heap_setCell _ ⟨be, 0, none⟩ _ _ (by show _ ≠ be; omega)).trans (KP3.out _ (by omega)), (Below.heap_setCell _ ⟨be, 0, none⟩ _ _ (by show _ ≠ be; omega)).trans (KP3.out _ (by omega)), fun b cs hbb => (Below.heap_setCell _ ⟨be, 0, none⟩ _ _ (by show b ≠ be; rintro rfl; rw [hc] at hbb; injection hbb with hbb; injection hbb with _ hbb; exact absurd hbb (by decide))).trans (ND3.out b cs hbb)⟩, ((hb.trans HB3.out).setCell (p := ⟨be, 0, none⟩) hw1 _), by have := HB3.out.size; have := HK3.out.size; simp; omega, .slice (some ⟨g', 0, none⟩) (pre.length + 1) cap', by simpa using blk_set HC3.out 0 (.slice (some ⟨g', 0, none⟩) (pre.length + 1) cap'), ?_⟩
    have := HO3.out.kept (PxR.grown_set w3 ⟨be, 0, none⟩ (.slice (some ⟨g', 0, none⟩) (pre.length + 1) cap')) (PxR.own_ne HO3.out (Or.inl (show be < w2.heap.size by omega)))
    simpa using this
  case done =>
    rintro D ys W hD ⟨hys1, hys2⟩ ⟨hb, h2, v, hc, hown⟩ hK
    have c1 : W.cell? ⟨be, 0, none⟩ = some v := (blk_cell hc 0).trans rfl
    have HB := Lib.hid hb
    have HOW := Lib.hid hown
    have HK := Lib.hid hK
    have HY1 := Lib.hid hys1
    have HY2 := Lib.hid hys2
    clear hb h2 hc hown hK hys1 hys2
    go_wp2
    refine ⟨by simp, .inl ⟨_, _, rfl, run_takeDeferred HK.out, ?_⟩⟩
    have hz := (Array.getElem?_eq_some_iff.1 HK.out).1
    have hown2 := HOW.out.kept (grownBy_putObj' W D (.deferred none)) (PxR.own_ne HOW.out (Or.inr ⟨_, HK.out, rfl⟩))
    exact ⟨_, results_tmp rfl _ _ _, v, ys, rfl, HY1.out, HY2.out, own_R (by simpa [Function.comp_def] using hown2) (by omega), HB.out.grown (grownBy_putObj' W D (.deferred none)) (by have := HB.out.size; omega) (fun k e => by cases e; omega)⟩
  case stop =>
    rintro D c pre W _ _ h _
    exact h.elim
def drop.T8 : Bool × List (List Nat × List Nat) := (true, [([], []), ([0], [0]), ([1], [1]), ([2], [2]), ([], []), ([4], [4]), ([5], [5]), ([6], [6]), ([3, 7], [3, 7]), ([8, 0, 1, 2, 3, 4, 5, 6, 7, 8], [8])])
def drop.B8 : List Nat := [0, 1, 3, 7, 0, 16, 48, 112, 255, 511]
theorem drop.tab8 : rtab .any (opsOf Try.f28 8) = drop.T8 := by kernel_rfl
theorem drop.bits8 : waitsOk drop.T8.2 drop.B8 = true := by kernel_rfl
def drop.T9 : Bool × List (List Nat × List Nat) := (true, [([], []), ([], []), ([], []), ([2], [2]), ([3], [3]), ([4], [4]), ([], []), ([6], [6]), ([7], [7]), ([8], [8]), ([0, 0, 2, 3, 4, 5, 9], [0]), ([10, 0, 2, 3, 4, 5, 9], [10]), ([11, 5, 0, 2, 3, 4, 5, 9], [5, 11]), ([1, 0, 1, 2, 3, 4, 5, 6, 7, 8, 9, 10, 11, 12], [1]), ([13, 0, 1, 2, 3, 4, 5, 6, 7, 8, 9, 10, 11, 12], [13]), ([14, 9, 12, 0, 1, 2, 3, 4, 5, 6, 7, 8, 9, 10, 11, 12], [9, 14])])
def drop.B9 : List Nat := [0, 0, 0, 4, 12, 28, 0, 64, 192, 448, 1021, 2045, 4093, 8191, 16383, 32767]
theorem drop.tab9 : rtab .any (opsOf Try.f28 9) = drop.T9 := by kernel_rfl
theorem drop.bits9 : waitsOk drop.T9.2 drop.B9 = true := by kernel_rfl
/-- A way out that is no panic. -/
def noPanic (Q : Exit → Act → World → Prop) : Exit → Act → World → Prop
  | .panic _, _, _ => False
  | e, a, w => Q e a w
theorem noPanic_le {Q : Exit → Act → World → Prop} : ∀ e a w, noPanic Q e a w → Q e a w := fun e a w h => by
  cases e <;> first | exact h | exact h.elim
theorem noPanic_normal {Q : Exit → Act → World → Prop} {a : Act} {w : World} (h : Q .normal a w) : noPanic Q .normal a w := h
theorem even.calls (x : Int) (w : World) : Calls Try.prog 29 #[.int .i64 x] w fun e w' => e = .returned (.bool (Int.tmod x 2 == 0)) ∧ w = w' := by
  go_enter Try.func29, Try.ntmps29
  go_wp2
  go_ret
  exact ⟨rfl, rfl⟩
def oddB (x : Int) : Bool := !(Int.tmod x 2 == 0)
theorem eqlIs_no (w : World) (f : Fn) (a b : Array Value) : (binOp .eql 27 (.func f a b) .nilFunc).run Try.prog w = .ok (.bool false) w := eqlFn_no w f a b Try.underlying27 ⟨_, _, _, rfl⟩
theorem eqlIs_yes (w : World) : (binOp .eql 27 .nilFunc .nilFunc).run Try.prog w = .ok (.bool true) w := eqlFn_yes w Try.underlying27 ⟨_, _, _, rfl⟩
attribute [local go_sem] eqlIs_no eqlIs_yes
set_option maxHeartbeats 8000000 in
set_option maxRecDepth 100000 in
theorem drop_nil.calls (g : Nat) (L : List Int) (w : World) (h : HpP w g L) : Calls Try.prog 28 #[.pointer (some ⟨g, 0, none⟩), .nilFunc] w fun e w' => e = .returned (.int .i64 0) ∧ Below w.heap.size w w' := by
  obtain ⟨v0, t0, g1, _⟩ := id h
  have HN := Lib.hid (fun (W : World) (hb : Below w.heap.size w W) => none_no.calls g _ _ _ W rfl (blk_below g1 hb))
  have hgl := h.lt
  clear h g1
  go_enter Try.func28, Try.ntmps28
  go_wp2
  go_step3
  go_wp2_with (go_at_call 69; refine (HN.out _ (below_alloc (Below.refl _ _) _)).mono ?_; rintro e w1 ⟨rfl, rfl⟩)
  try rw [Exit.noGoto_ret]
  go_ret
  exact ⟨rfl, below_alloc (Below.refl _ _) _⟩
set_option maxHeartbeats 8000000 in
set_option maxRecDepth 100000 in
attribute [local go_sem] Oper.semAt_some in
theorem drop.calls (g : Nat) (L : List Int) (w : World) (h : HpP w g L) (hl : L.length < 1000000) : Calls Try.prog 28 #[.pointer (some ⟨g, 0, none⟩), .func (.func 29) #[] #[]] w fun e w' => e = .returned (.int .i64 ((L.length : Int) - ((L.filter oddB).length : Int))) ∧ HpP w' g (L.filter oddB) ∧ w.grownBy w' (some g) := by
  obtain ⟨v0, t0, g1, _⟩ := id h
  have HN := Lib.hid (fun (W : World) (hb : Below w.heap.size w W) => none_no.calls g _ _ _ W rfl (blk_below g1 hb))
  have cl : ∀ (W : World), Below w.heap.size w W → W.cell? ⟨g, 0, none⟩ = some (.func (.func 21) #[] #[]) := fun W hb => (blk_cell (blk_below g1 hb) 0).trans rfl
  have HCL := Lib.hid cl
  have HH := Lib.hid h
  have glt := h.lt
  have hba : Below w.heap.size w (w.alloc (.cells #[.func (.func 29) #[] #[]] 27)) := below_alloc (Below.refl _ _) _
  have HBA := Lib.hid hba
  clear h g1 cl hba
  refine (callsIn_wide (n := 5)).1 ?_
  refine callsIn_of_wp_marks Try.func28 rfl trivial ?_ rfl
  simp only [Try.ntmps28, List.size_toArray, List.length_cons, List.length_nil, Nat.reduceAdd, Nat.reduceSub, Array.replicate_succ, Array.replicate_zero, List.push_toArray, List.append_toArray, List.nil_append, List.cons_append]
  refine (wpIn_wide (n := 5)).2 ?_
  go_wp2
  go_step3
  go_wp2_with (first
    | (go_at_call 69; refine (HN.out _ HBA.out).mono ?_; rintro e w1 ⟨rfl, rfl⟩; have c0 := HCL.out _ HBA.out)
    | (go_at_call 20; refine (new.calls _).mono ?_; rintro e w2 ⟨gl, rfl, q1, q2, q3⟩; have HQ1 := Lib.hid q1; have HQ2 := Lib.hid q2; have HQ3 := Lib.hid q3; clear q1 q2 q3))
  go_step3
  go_wp2_with (go_at_call 71; refine (heapAll.calls g _).mono ?_; rintro e w3 ⟨Bh, rfl, q1, q2, q3⟩; have HP1 := Lib.hid q1; have HP2 := Lib.hid q2; have HP3 := Lib.hid q3; clear q1 q2 q3)
  obtain ⟨bi, hbi⟩ : ∃ b, w.heap.size = b := ⟨_, rfl⟩
  obtain ⟨bl, hbl⟩ : ∃ b, w2.heap.size = b := ⟨_, rfl⟩
  have q1 := HQ1.out
  have p1 := HP1.out
  have z1 : bi < gl := by simp at q1; omega
  have z2 : gl < bl := by have := HQ2.out.lt; omega
  have z3 : bl < Bh := by simp at p1; omega
  have z4 : Bh < w3.heap.size := blk_lt HP2.out
  have hB3 := HP2.out
  have hi3 : w3.heap[bi]? = some (.cells #[.func (.func 29) #[] #[]] 27 (0, 0)) := by
    rw [← hbi]
    exact blk_below (blk_alloc (blk_below (heap_alloc_new w _) HQ3.out) _) HP3.out
  have hl3 : w3.heap[bl]? = some (.cells #[.pointer (some ⟨gl, 0, none⟩)] 24 (0, 0)) := by
    rw [← hbl]
    exact blk_below (heap_alloc_new w2 _) HP3.out
  have hg2 : HpP w3 gl [] := (HQ2.out.below (below_alloc (Below.refl _ _) _)).below HP3.out
  have hww : Below w.heap.size w w3 := below_step (below_alloc (below_step HBA.out HQ3.out) _) HP3.out
  have hg3 : HpP w3 g L := HH.out.below hww
  rw [hbi, hbl]
  have hw1 : w.heap.size ≤ bi := by omega
  have ng1 : g ≠ gl := by omega
  have ngl : g < bi := by omega
  clear HQ1 HQ2 HQ3 HP1 HP2 HP3 q1 p1 hbi hbl c0
  refine (wpIn_wide (n := 5)).1 ?_
  refine PxR.rangeX rfl (by omega) (gf := 103) (lb := #[.pointer (some ⟨Bh, 0, none⟩)]) rfl trivial (enters_of Try.func103 (by kernel_rfl) rfl) (heap_seq g Bh L w3 hB3 hg3 4 (by omega)) ?kt ?kb (Below.refl _ _) (fun _ => rfl) ?ok (fun pre W => Below w.heap.size w W ∧ w3.heap.size ≤ W.heap.size ∧ W.heap[bi]? = some (.cells #[.func (.func 29) #[] #[]] 27 (0, 0)) ∧ W.heap[bl]? = some (.cells #[.pointer (some ⟨gl, 0, none⟩)] 24 (0, 0)) ∧ HpP W gl (pre.filter oddB) ∧ W.heap[g]? = w3.heap[g]? ∧ HpP W g L) (fun _ _ _ => False) ?hI ?hIx ⟨hww, Nat.le_refl _, hi3, hl3, hg2, rfl, hg3⟩ (fun x => { tmps := #[.pointer (some ⟨g, 0, none⟩), .func (.func 29) #[] #[], undef, .pointer (some ⟨bi, 0, none⟩), .int .i64 0, .pointer (some ⟨bl, 0, none⟩), .int .i64 x, undef, .pointer (some ⟨g, 0, none⟩), .bool false, .bool false, .func (.func 29) #[] #[], .bool false, .bool false, .pointer (some ⟨g, 0, none⟩), .pointer (some ⟨g, 0, none⟩), .pointer (some ⟨g, 0, none⟩), .func (.func 21) #[] #[], .pointer (some ⟨gl, 0, none⟩), .pointer (some ⟨g, 0, none⟩), .func (.func 103) #[] #[.pointer (some ⟨Bh, 0, none⟩)], .int .i64 x, undef, undef, undef, undef, undef, undef, undef, undef, undef, undef, undef, undef, undef, undef, undef, undef, undef, undef, undef, undef, undef, undef, undef, undef, undef, undef, undef, undef, undef, undef], defers := [] }) ?assign ?body ?done ?stop
  case kt => exact fun h k => ⟨k.1.trans h.1, k.2.1.trans h.2.1, fun b cs hb => k.2.2 b cs (h.2.2 b cs hb)⟩
  case kb =>
    intro W o o' h hc
    refine ⟨World.putObj_heap_other (by omega), World.putObj_heap_other (by omega), fun b cs hb => ?_⟩
    have hne : w3.heap.size + 1 ≠ b := fun e => by
      subst e
      rw [hb] at h
      cases h
      exact absurd hc (by simp [Obj.isCells])
    exact (World.putObj_heap_other (Ne.symm hne)).trans hb
  case ok => exact fun r hr => hr.elim
  case hI =>
    rintro s A B row ⟨h1, h2, h3, h4, h5, h6, h7⟩ hgr hr
    have ho : ∀ r, row = some r → (r = w3.heap.size ∨ r = w3.heap.size + 1) ∧ ∃ o : Obj, A.heap[r]? = some o ∧ o.isCells = false := fun r e => by
      rcases hr r e with h | h
      · exact h.elim
      · exact h
    have nod : ∀ r cs, row = some r → A.heap[r]? ≠ some (.cells cs 104 (0, 0)) := fun r cs e h => by
      obtain ⟨_, o, e1, e2⟩ := ho r e
      rw [h] at e1
      cases e1
      exact absurd e2 (by simp [Obj.isCells])
    have off : ∀ q, q < w3.heap.size → some q ≠ row := fun q hq e => by have := (ho q e.symm).1; omega
    exact ⟨h1.grown hgr (by omega) (fun r e => by have := (ho r e).1; omega), Nat.le_trans h2 hgr.size, PxR.blk_other hgr h3 (off _ (by omega)), PxR.blk_other hgr h4 (off _ (by omega)), h5.grown hgr (off _ (by omega)) nod, (hgr.block g (by have := h7.lt; omega) (off _ (by omega))).trans h6, h7.grown hgr (off _ (by omega)) nod⟩
  case hIx => exact fun _ _ _ _ _ hs _ _ => hs
  case assign =>
    intro l x W K hK
    gi_wp2_with (rw [Oper.semAt_eq _ _ _ (fun c h => by cases h)]; go_simp; try go_bits)
    exact hK
  case body =>
    rintro l pre x W ⟨hb, hs, h3, h4, h5, h6, h7⟩ hlen2
    have c1 : W.cell? ⟨bi, 0, none⟩ = some (.func (.func 29) #[] #[]) := (blk_cell h3 0).trans rfl
    have c2 : W.cell? ⟨bl, 0, none⟩ = some (.pointer (some ⟨gl, 0, none⟩)) := (blk_cell h4 0).trans rfl
    have H3 := Lib.hid h3
    have H4 := Lib.hid h4
    have H5 := Lib.hid h5
    have H6 := Lib.hid h6
    have H7 := Lib.hid h7
    have HB := Lib.hid hb
    have HPUT := Lib.hid (put.calls gl x (pre.filter oddB) W h5 (by have := List.length_filter_le oddB pre; omega))
    clear h3 h4 h5 h6 h7 hb
    have HEV := Lib.hid (even.calls x W)
    cases hev : (Int.tmod x 2 == 0) with
    | true =>
      rw [hev] at HEV
      have HO := Lib.hid (show (pre ++ [x]).filter oddB = pre.filter oddB by rw [List.filter_append]; simp [oddB, hev])
      clear hev
      gi_wp2
      refine ⟨trivial, (CallsIn.inRound l (callsIn_wide.2 HEV.out)).mono ?_⟩
      rintro e w4 ⟨rfl, rfl⟩
      gi_wp2
      exact ⟨PxR.others_of_below (Below.refl _ _), ⟨rfl, rfl, fun _ _ h => h⟩, HB.out, hs, H3.out, H4.out, by rw [HO.out]; exact H5.out, H6.out, H7.out⟩
    | false =>
      rw [hev] at HEV
      have HO := Lib.hid (show (pre ++ [x]).filter oddB = pre.filter oddB ++ [x] by rw [List.filter_append]; simp [oddB, hev])
      clear hev
      gi_wp2
      refine ⟨trivial, (CallsIn.inRound l (callsIn_wide.2 HEV.out)).mono ?_⟩
      rintro e w4 ⟨rfl, rfl⟩
      gi_wp2
      refine ⟨trivial, (CallsIn.inRound l (callsIn_wide.2 HPUT.out)).mono ?_⟩
      rintro e w5 ⟨rfl, q1, q2⟩
      have HQ1 := Lib.hid q1
      have HQ2 := Lib.hid q2
      clear q1 q2
      gi_wp2
      have hne : ∀ q, q ≠ gl → some q ≠ some gl := fun q hq e => hq (by cases e; rfl)
      refine ⟨KeepsOthers.of_grownBy HQ2.out (fun j o ej hj => ?_), ⟨HQ2.out.block _ (by omega) (hne _ (by omega)), HQ2.out.block _ (by omega) (hne _ ng1), fun b cs hbb => blk_grown hbb HQ2.out (fun e => H5.out.no_node b cs e.symm hbb)⟩, HB.out.grown HQ2.out HB.out.size (fun r e => by cases e; omega), Nat.le_trans hs HQ2.out.size, blk_grown H3.out HQ2.out (hne _ (by omega)), blk_grown H4.out HQ2.out (hne _ (by omega)), ?_, (HQ2.out.block _ (by omega) (hne _ ng1)).trans H6.out, H7.out.other H5.out ng1 HQ2.out⟩
      · cases ej
        obtain ⟨_, _, k1, _⟩ := H5.out
        rw [k1] at hj
        cases hj
        rfl
      · rw [HO.out]
        exact HQ1.out.of_perm (List.perm_append_singleton _ _).symm
  case done =>
    rintro D ys W hD ⟨hys1, hys2⟩ ⟨hb, hs, h3, h4, h5, h6, h7⟩ hK
    have HPF := Lib.hid (hys1.filter oddB)
    obtain ⟨va, ta, a1, _⟩ := h7
    obtain ⟨vl, tl, b1, b2, b3, b4⟩ := h5
    have HG := Lib.hid a1
    have HGL := Lib.hid b1
    have HND := Lib.hid b2
    have HB3 := Lib.hid b3
    have HB4 := Lib.hid (b4.trans HPF.out)
    have HBL := Lib.hid h4
    have HB := Lib.hid hb
    have HK := Lib.hid hK
    have hng : D ≠ g := by
      rintro rfl
      rw [hK] at a1
      cases a1
    have hml : ((ys.filter oddB).length : Int) = ((L.filter oddB).length : Int) := by rw [HPF.out.length_eq]
    have hmL := List.length_filter_le oddB L
    obtain ⟨n, hn⟩ : ∃ n : Int, (L.length : Int) = n := ⟨_, rfl⟩
    obtain ⟨m, hm⟩ : ∃ m : Int, ((L.filter oddB).length : Int) = m := ⟨_, rfl⟩
    have e0 : 0 ≤ m := by omega
    have e1 : m ≤ n := by omega
    have e2 : n < 1000000 := by omega
    rw [hn] at HG
    rw [hml, hm] at HGL
    have HM := Lib.hid hm
    have HNN := Lib.hid hn
    clear h3 h4 h6 a1 b1 b2 b3 b4 hb hK hys1 hys2 hn hm hml hmL
    go_wp2
    replace HG := Lib.hid (blk_drew HG.out)
    replace HGL := Lib.hid (blk_drew HGL.out)
    replace HBL := Lib.hid (blk_drew HBL.out)
    replace HND := Lib.hid HND.out.drew
    replace HB := Lib.hid (below_drew1 HB.out)
    replace HK := Lib.hid (blk_drew HK.out)
    refine Code.wp_mono (Q := noPanic _) noPanic_le ?_
    refine start_ (n := 10) (S := fun w' => w'.cell? ⟨g, 2, none⟩ = some (.int .i64 n) ∧ w'.cell? ⟨bl, 0, none⟩ = some (.pointer (some ⟨gl, 0, none⟩)) ∧ w'.cell? ⟨gl, 2, none⟩ = some (.int .i64 m)) (ds := []) #[false, false, false, false, false, false, false, false, false, false] (by kernel_rfl) rfl rfl ⟨(blk_cell HG.out 2).trans rfl, (blk_cell HBL.out 0).trans rfl, (blk_cell HGL.out 2).trans rfl⟩ (fun hHeld => ?_); refine with_tabW drop.tab8 drop.bits8 (fun HT_ HW_ => ?_)
    generalize W.drew = w8 at HG HBL HGL HND HB HK hHeld ⊢
    refine pure_ (i := 0) (N := some 28) (v := ?_) (a' := ?_) #[true, false, false, false, false, false, false, false, false, false] rfl rfl (any_of HT_.out (by kernel_rfl)) (fun _ _ _ h => h) (Or.inl ⟨by rfl, ?_⟩) ?_ ?_
    rotate_left
    · intro w'
      go_simp
      with_reducible rfl
    rotate_left
    · simp only [Act.put, List.setIfInBounds_toArray, List.set_cons_zero, List.set_cons_succ, i64_w, i32_w]
      rfl
    refine pure_ (i := 1) (N := some 29) (v := ?_) (a' := ?_) #[true, true, false, false, false, false, false, false, false, false] rfl rfl (any_of HT_.out (by kernel_rfl)) (fun _ _ _ h => h) (Or.inl ⟨by rfl, ?_⟩) ?_ ?_
    rotate_left
    · intro w'
      go_simp
      with_reducible rfl
    rotate_left
    · simp only [Act.put, List.setIfInBounds_toArray, List.set_cons_zero, List.set_cons_succ, i64_w, i32_w]
      rfl
    refine pure_ (i := 2) (N := some 30) (v := ?_) (a' := ?_) #[true, true, true, false, false, false, false, false, false, false] rfl rfl (any_of HT_.out (by kernel_rfl)) (fun _ _ _ h => h) (Or.inl ⟨by rfl, ?_⟩) ?_ ?_
    rotate_left
    · intro w'
      go_simp
      with_reducible rfl
    rotate_left
    · simp only [Act.put, List.setIfInBounds_toArray, List.set_cons_zero, List.set_cons_succ, i64_w, i32_w]
      rfl
    refine take_ (i := 3) (N := some 31) (v := ?_) (a' := ?_) #[true, true, true, true, false, false, false, false, false, false] rfl rfl (take_ofW HT_.out HW_.out (by kernel_rfl)) (fun _ _ _ h => h) (Or.inl ⟨by rfl, ?_⟩) hHeld ?_ ?_
    rotate_left
    · rintro w' ⟨s0, s1, s2⟩
      go_simp
      with_reducible rfl
    rotate_left
    · simp only [Act.put, List.setIfInBounds_toArray, List.set_cons_zero, List.set_cons_succ, i64_w, i32_w]
      rfl
    refine take_ (i := 4) (N := some 32) (v := ?_) (a' := ?_) #[true, true, true, true, true, false, false, false, false, false] rfl rfl (take_ofW HT_.out HW_.out (by kernel_rfl)) (fun _ _ _ h => h) (Or.inl ⟨by rfl, ?_⟩) hHeld ?_ ?_
    rotate_left
    · rintro w' ⟨s0, s1, s2⟩
      go_simp
      with_reducible rfl
    rotate_left
    · simp only [Act.put, List.setIfInBounds_toArray, List.set_cons_zero, List.set_cons_succ, i64_w, i32_w]
      rfl
    refine pure_ (i := 5) (N := some 33) (v := ?_) (a' := ?_) #[true, true, true, true, true, true, false, false, false, false] rfl rfl (any_of HT_.out (by kernel_rfl)) (fun _ _ _ h => h) (Or.inl ⟨by rfl, ?_⟩) ?_ ?_
    rotate_left
    · intro w'
      go_simp
      with_reducible rfl
    rotate_left
    · simp only [Act.put, List.setIfInBounds_toArray, List.set_cons_zero, List.set_cons_succ, i64_w, i32_w]
      rfl
    refine pure_ (i := 6) (N := some 34) (v := ?_) (a' := ?_) #[true, true, true, true, true, true, true, false, false, false] rfl rfl (any_of HT_.out (by kernel_rfl)) (fun _ _ _ h => h) (Or.inl ⟨by rfl, ?_⟩) ?_ ?_
    rotate_left
    · intro w'
      go_simp
      with_reducible rfl
    rotate_left
    · simp only [Act.put, List.setIfInBounds_toArray, List.set_cons_zero, List.set_cons_succ, i64_w, i32_w]
      rfl
    refine take_ (i := 7) (N := some 35) (v := ?_) (a' := ?_) #[true, true, true, true, true, true, true, true, false, false] rfl rfl (take_ofW HT_.out HW_.out (by kernel_rfl)) (fun _ _ _ h => h) (Or.inl ⟨by rfl, ?_⟩) hHeld ?_ ?_
    rotate_left
    · rintro w' ⟨s0, s1, s2⟩
      go_simp
      with_reducible rfl
    rotate_left
    · simp only [Act.put, List.setIfInBounds_toArray, List.set_cons_zero, List.set_cons_succ, i64_w, i32_w]
      rfl
    refine pure_ (i := 8) (N := some 36) (v := ?_) (a' := ?_) #[true, true, true, true, true, true, true, true, true, false] rfl rfl (any_of HT_.out (by kernel_rfl)) (fun _ _ _ h => h) (Or.inl ⟨by rfl, ?_⟩) ?_ ?_
    rotate_left
    · intro w'
      go_simp
      with_reducible rfl
    rotate_left
    · simp only [Act.put, List.setIfInBounds_toArray, List.set_cons_zero, List.set_cons_succ, i64_w, i32_w]
      rfl
    refine pure_ (i := 9) (N := some 7) (v := ?_) (a' := ?_) #[true, true, true, true, true, true, true, true, true, true] rfl rfl (any_of HT_.out (by kernel_rfl)) (fun _ _ _ h => h) (Or.inl ⟨by rfl, ?_⟩) ?_ ?_
    rotate_left
    · intro w'
      go_simp
      with_reducible rfl
    rotate_left
    · simp only [Act.put, List.setIfInBounds_toArray, List.set_cons_zero, List.set_cons_succ, i64_w, i32_w]
      rfl
    refine done_ (done_of HT_.out (by kernel_rfl)) ?_
    refine noPanic_normal ?_
    go_wp2
    replace HG := Lib.hid (blk_drew HG.out)
    replace HGL := Lib.hid (blk_drew HGL.out)
    replace HBL := Lib.hid (blk_drew HBL.out)
    replace HND := Lib.hid HND.out.drew
    replace HB := Lib.hid (below_drew1 HB.out)
    replace HK := Lib.hid (blk_drew HK.out)
    refine Code.wp_mono (Q := noPanic _) noPanic_le ?_
    refine start_ (n := 16) (S := fun w' => w'.cell? ⟨bl, 0, none⟩ = some (.pointer (some ⟨gl, 0, none⟩)) ∧ w'.cell? ⟨gl, 1, none⟩ = some (.pointer vl) ∧ w'.cell? ⟨gl, 2, none⟩ = some (.int .i64 m)) (ds := [12, 15]) #[false, false, false, false, false, false, false, false, false, false, false, false, false, false, false, false] (by kernel_rfl) rfl rfl ⟨(blk_cell HBL.out 0).trans rfl, (blk_cell HGL.out 1).trans rfl, (blk_cell HGL.out 2).trans rfl⟩ (fun hHeld => ?_); refine with_tabW drop.tab9 drop.bits9 (fun HT_ HW_ => ?_)
    generalize w8.drew = w9 at HG HBL HGL HND HB HK hHeld ⊢
    refine pure_ (i := 0) (N := some 37) (v := ?_) (a' := ?_) #[true, false, false, false, false, false, false, false, false, false, false, false, false, false, false, false] rfl rfl (any_of HT_.out (by kernel_rfl)) (fun _ _ _ h => h) (Or.inl ⟨by rfl, ?_⟩) ?_ ?_
    rotate_left
    · intro w'
      go_simp
      with_reducible rfl
    rotate_left
    · simp only [Act.put, List.setIfInBounds_toArray, List.set_cons_zero, List.set_cons_succ, i64_w, i32_w]
      rfl
    refine pure_ (i := 1) (N := some 38) (v := ?_) (a' := ?_) #[true, true, false, false, false, false, false, false, false, false, false, false, false, false, false, false] rfl rfl (any_of HT_.out (by kernel_rfl)) (fun _ _ _ h => h) (Or.inl ⟨by rfl, ?_⟩) ?_ ?_
    rotate_left
    · intro w'
      go_simp
      with_reducible rfl
    rotate_left
    · simp only [Act.put, List.setIfInBounds_toArray, List.set_cons_zero, List.set_cons_succ, i64_w, i32_w]
      rfl
    refine take_ (i := 2) (N := some 39) (v := ?_) (a' := ?_) #[true, true, true, false, false, false, false, false, false, false, false, false, false, false, false, false] rfl rfl (take_ofW HT_.out HW_.out (by kernel_rfl)) (fun _ _ _ h => h) (Or.inl ⟨by rfl, ?_⟩) hHeld ?_ ?_
    rotate_left
    · rintro w' ⟨s0, s1, s2⟩
      go_simp
      with_reducible rfl
    rotate_left
    · simp only [Act.put, List.setIfInBounds_toArray, List.set_cons_zero, List.set_cons_succ, i64_w, i32_w]
      rfl
    refine pure_ (i := 3) (N := some 40) (v := ?_) (a' := ?_) #[true, true, true, true, false, false, false, false, false, false, false, false, false, false, false, false] rfl rfl (any_of HT_.out (by kernel_rfl)) (fun _ _ _ h => h) (Or.inl ⟨by rfl, ?_⟩) ?_ ?_
    rotate_left
    · intro w'
      go_simp
      with_reducible rfl
    rotate_left
    · simp only [Act.put, List.setIfInBounds_toArray, List.set_cons_zero, List.set_cons_succ, i64_w, i32_w]
      rfl
    refine pure_ (i := 4) (N := some 41) (v := ?_) (a' := ?_) #[true, true, true, true, true, false, false, false, false, false, false, false, false, false, false, false] rfl rfl (any_of HT_.out (by kernel_rfl)) (fun _ _ _ h => h) (Or.inl ⟨by rfl, ?_⟩) ?_ ?_
    rotate_left
    · intro w'
      go_simp
      with_reducible rfl
    rotate_left
    · simp only [Act.put, List.setIfInBounds_toArray, List.set_cons_zero, List.set_cons_succ, i64_w, i32_w]
      rfl
    refine take_ (i := 5) (N := some 42) (v := ?_) (a' := ?_) #[true, true, true, true, true, true, false, false, false, false, false, false, false, false, false, false] rfl rfl (take_ofW HT_.out HW_.out (by kernel_rfl)) (fun _ _ _ h => h) (Or.inl ⟨by rfl, ?_⟩) hHeld ?_ ?_
    rotate_left
    · rintro w' ⟨s0, s1, s2⟩
      go_simp
      with_reducible rfl
    rotate_left
    · simp only [Act.put, List.setIfInBounds_toArray, List.set_cons_zero, List.set_cons_succ, i64_w, i32_w]
      rfl
    refine take_ (i := 6) (N := some 43) (v := ?_) (a' := ?_) #[true, true, true, true, true, true, true, false, false, false, false, false, false, false, false, false] rfl rfl (take_ofW HT_.out HW_.out (by kernel_rfl)) (fun _ _ _ h => h) (Or.inl ⟨by rfl, ?_⟩) hHeld ?_ ?_
    rotate_left
    · rintro w' ⟨s0, s1, s2⟩
      go_simp
      with_reducible rfl
    rotate_left
    · simp only [Act.put, List.setIfInBounds_toArray, List.set_cons_zero, List.set_cons_succ, i64_w, i32_w]
      rfl
    refine pure_ (i := 7) (N := some 44) (v := ?_) (a' := ?_) #[true, true, true, true, true, true, true, true, false, false, false, false, false, false, false, false] rfl rfl (any_of HT_.out (by kernel_rfl)) (fun _ _ _ h => h) (Or.inl ⟨by rfl, ?_⟩) ?_ ?_
    rotate_left
    · intro w'
      go_simp
      with_reducible rfl
    rotate_left
    · simp only [Act.put, List.setIfInBounds_toArray, List.set_cons_zero, List.set_cons_succ, i64_w, i32_w]
      rfl
    refine pure_ (i := 8) (N := some 45) (v := ?_) (a' := ?_) #[true, true, true, true, true, true, true, true, true, false, false, false, false, false, false, false] rfl rfl (any_of HT_.out (by kernel_rfl)) (fun _ _ _ h => h) (Or.inl ⟨by rfl, ?_⟩) ?_ ?_
    rotate_left
    · intro w'
      go_simp
      with_reducible rfl
    rotate_left
    · simp only [Act.put, List.setIfInBounds_toArray, List.set_cons_zero, List.set_cons_succ, i64_w, i32_w]
      rfl
    refine take_ (i := 9) (N := some 46) (v := ?_) (a' := ?_) #[true, true, true, true, true, true, true, true, true, true, false, false, false, false, false, false] rfl rfl (take_ofW HT_.out HW_.out (by kernel_rfl)) (fun _ _ _ h => h) (Or.inl ⟨by rfl, ?_⟩) hHeld ?_ ?_
    rotate_left
    · rintro w' ⟨s0, s1, s2⟩
      go_simp
      with_reducible rfl
    rotate_left
    · simp only [Act.put, List.setIfInBounds_toArray, List.set_cons_zero, List.set_cons_succ, i64_w, i32_w]
      rfl
    refine pure_ (i := 10) (N := some 47) (v := ?_) (a' := ?_) #[true, true, true, true, true, true, true, true, true, true, true, false, false, false, false, false] rfl rfl (any_of HT_.out (by kernel_rfl)) (fun _ _ _ h => h) (Or.inl ⟨by rfl, ?_⟩) ?_ ?_
    rotate_left
    · intro w'
      go_simp
      with_reducible rfl
    rotate_left
    · simp only [Act.put, List.setIfInBounds_toArray, List.set_cons_zero, List.set_cons_succ, i64_w, i32_w]
      rfl
    refine pure_ (i := 11) (N := some 48) (v := ?_) (a' := ?_) #[true, true, true, true, true, true, true, true, true, true, true, true, false, false, false, false] rfl rfl (any_of HT_.out (by kernel_rfl)) (fun _ _ _ h => h) (Or.inl ⟨by rfl, ?_⟩) ?_ ?_
    rotate_left
    · intro w'
      go_simp
      with_reducible rfl
    rotate_left
    · simp only [Act.put, List.setIfInBounds_toArray, List.set_cons_zero, List.set_cons_succ, i64_w, i32_w]
      rfl
    refine last_ (i := 12) (N := none) #[true, true, true, true, true, true, true, true, true, true, true, true, true, false, false, false] rfl rfl (one_of HT_.out (by kernel_rfl)) (by decide) (fun K hK => ?_)
    have d1 : w9.cell? ⟨g, 1, none⟩ = some (.pointer va) := (blk_cell HG.out 1).trans rfl
    have d2 : w9.cell? ⟨g, 2, none⟩ = some (.int .i64 n) := (blk_cell HG.out 2).trans rfl
    have f1 := blk_frozen HG.out 1
    have f2 := blk_frozen HG.out 2
    refine skip_ (w1 := ?_) (by rfl) rfl ?_ ?_
    rotate_left
    · go_simp
      rfl
    refine hK.out _ _ ?_
    clear hK K
    refine pure_ (i := 13) (N := some 49) (v := ?_) (a' := ?_) #[true, true, true, true, true, true, true, true, true, true, true, true, true, true, false, false] rfl rfl (any_of HT_.out (by kernel_rfl)) (fun _ _ _ h => h) (Or.inl ⟨by rfl, ?_⟩) ?_ ?_
    rotate_left
    · intro w'
      go_simp
      with_reducible rfl
    rotate_left
    · simp only [Act.put, List.setIfInBounds_toArray, List.set_cons_zero, List.set_cons_succ, i64_w, i32_w]
      rfl
    refine pure_ (i := 14) (N := some 50) (v := ?_) (a' := ?_) #[true, true, true, true, true, true, true, true, true, true, true, true, true, true, true, false] rfl rfl (any_of HT_.out (by kernel_rfl)) (fun _ _ _ h => h) (Or.inl ⟨by rfl, ?_⟩) ?_ ?_
    rotate_left
    · intro w'
      go_simp
      with_reducible rfl
    rotate_left
    · simp only [Act.put, List.setIfInBounds_toArray, List.set_cons_zero, List.set_cons_succ, i64_w, i32_w]
      rfl
    refine last_ (i := 15) (N := none) #[true, true, true, true, true, true, true, true, true, true, true, true, true, true, true, true] rfl rfl (one_of HT_.out (by kernel_rfl)) (by decide) (fun K hK => ?_)
    refine skip_ (w1 := ?_) (by rfl) rfl ?_ ?_
    rotate_left
    · go_simp
      rfl
    refine hK.out _ _ ?_
    clear hK K
    refine done_ (done_of HT_.out (by kernel_rfl)) ?_
    refine noPanic_normal ?_
    go_wp2
    rw [Exit.noGoto_ret]
    have hgr : w.grownBy ((w9.setCell ⟨g, 1, none⟩ (.pointer vl)).setCell ⟨g, 2, none⟩ (.int .i64 m)) (some g) := ((grown_of_below HB.out (some g)).trans (PxR.grown_set w9 ⟨g, 1, none⟩ _)).trans (PxR.grown_set _ ⟨g, 2, none⟩ _)
    have hgk : ((w9.setCell ⟨g, 1, none⟩ (.pointer vl)).setCell ⟨g, 2, none⟩ (.int .i64 m)).heap[g]? = some (.cells #[.func (.func 21) #[] #[], .pointer vl, .int .i64 m] 41 (0, 0)) := by
      refine blk_put (cs := #[.func (.func 21) #[] #[], .pointer vl, .int .i64 n]) ?_ 2 _ rfl
      exact blk_put (cs := #[.func (.func 21) #[] #[], .pointer va, .int .i64 n]) HG.out 1 _ rfl
    have hnd := Nd.set (blk_put (cs := #[.func (.func 21) #[] #[], .pointer va, .int .i64 n]) HG.out 1 (.pointer vl) rfl) (by decide) 2 (.int .i64 m) (Nd.set HG.out (by decide) 1 (.pointer vl) HND.out)
    have hkk : ((w9.setCell ⟨g, 1, none⟩ (.pointer vl)).setCell ⟨g, 2, none⟩ (.int .i64 m)).heap[D]? = some (.deferred (some [])) := (Below.heap_setCell _ ⟨g, 2, none⟩ _ D hng).trans ((Below.heap_setCell _ ⟨g, 1, none⟩ _ D hng).trans HK.out)
    have hwr : wrap64 (n - m) = n - m := by unfold wrap64; omega
    rw [hwr]
    generalize (w9.setCell ⟨g, 1, none⟩ (.pointer vl)).setCell ⟨g, 2, none⟩ (.int .i64 m) = wz at hgr hgk hnd hkk ⊢
    refine ⟨by simp, .inl ⟨_, _, rfl, run_takeDeferred hkk, ?_⟩⟩
    have hp := grownBy_putObj' wz D (.deferred none)
    refine ⟨_, results_tmp rfl _ _ _, by rw [HM.out, HNN.out]; rfl, ⟨vl, tl, ?_, ?_, HB3.out, HB4.out⟩, ?_⟩
    · rw [HM.out]
      exact blk_grown hgk hp (fun e => hng (by cases e; rfl))
    · exact hnd.grown hp (fun r cs e h => by cases e; rw [hkk] at h; cases h)
    · exact hgr.andThen hp (fun j e => by cases e; exact Or.inl (Nat.le_trans (by omega) hD))
  case stop =>
    rintro D c pre W _ _ h _
    exact h.elim
open Hm in
/-- A heap whose numbers, in order, are L. -/
def HpS (w : World) (g : Nat) (L : List Int) : Prop := HpP w g L ∧ Srt L
open Hm in
theorem putS (g : Nat) (x : Int) (L : List Int) (w : World) (h : HpS w g L) (hl : L.length < 1000000) : Calls Try.prog 22 #[.pointer (some ⟨g, 0, none⟩), .int .i64 x] w fun e w' => e = .returned (.bool true) ∧ HpS w' g (ins x L) ∧ w.grownBy w' (some g) :=
  (put.calls g x L w h.1 hl).mono fun _ _ ⟨h1, h2, h3⟩ => ⟨h1, ⟨h2.of_perm (ins_perm x L).symm, ins_srt h.2⟩, h3⟩
open Hm in
theorem takeS (g : Nat) (x : Int) (L : List Int) (w : World) (h : HpS w g (x :: L)) (hl : L.length < 999999) : Calls Try.prog 23 #[.pointer (some ⟨g, 0, none⟩)] w fun e w' => e = .returned (.tuple #[.int .i64 x, .bool true]) ∧ HpS w' g L ∧ w.grownBy w' (some g) := by
  obtain ⟨y, R, h1, h2, h3⟩ := take.calls g (x :: L) w h.1 (by simp) (by simp; omega)
  obtain ⟨rfl, h5⟩ := srt_take h.2 h1 h2
  exact h3.mono fun _ _ ⟨k1, k2, k3⟩ => ⟨k1, ⟨k2.of_perm h5, (List.pairwise_cons.1 h.2).2⟩, k3⟩
open Hm in
theorem minS (g : Nat) (x : Int) (L : List Int) (w : World) (h : HpS w g (x :: L)) : Calls Try.prog 26 #[.pointer (some ⟨g, 0, none⟩)] w fun e w' => e = .returned (.tuple #[.int .i64 x, .bool true]) ∧ w = w' := by
  obtain ⟨v, t, h1, h2, h3, h4⟩ := id h.1
  cases t with
  | leaf => exact absurd (List.Perm.nil_eq h4) (by simp)
  | node y l r =>
  obtain ⟨b, d, pl, pr, rfl, hb, hpl, hpr⟩ := h2
  obtain ⟨rfl, _⟩ := srt_take (y := y) (m := l.toL ++ r.toL) h.2 h4 h3.1
  exact min.calls g b d pl pr y (y :: L) w h.1 (by simp) _ h1 hb
open Hm in
theorem listS (g : Nat) (L : List Int) (w : World) (h : HpS w g L) (hl : L.length < 1000000) : Calls Try.prog 25 #[.pointer (some ⟨g, 0, none⟩)] w fun e w' => ∃ v : Value, e = .returned v ∧ Kd.R (Kd.int .i64) 3 w' w.heap.size (fun _ => True) v L ∧ Below w.heap.size w w' :=
  (list.calls g L w h.1 hl).mono fun _ _ ⟨v, xs, h1, h2, h3, h4, h5⟩ => by
    have hs : Srt xs := List.Pairwise.imp (fun {a b} hab => by simp only [decide_eq_false_iff_not] at hab; omega) h3
    rw [srt_eq hs h.2 h2] at h4
    exact ⟨v, h1, h4, h5⟩
open Hm in
theorem dropS (g : Nat) (L : List Int) (w : World) (h : HpS w g L) (hl : L.length < 1000000) : Calls Try.prog 28 #[.pointer (some ⟨g, 0, none⟩), .func (.func 29) #[] #[]] w fun e w' => e = .returned (.int .i64 ((L.length : Int) - ((L.filter oddB).length : Int))) ∧ HpS w' g (L.filter oddB) ∧ w.grownBy w' (some g) :=
  (drop.calls g L w h.1 hl).mono fun _ _ ⟨h1, h2, h3⟩ => ⟨h1, ⟨h2, srt_filter h.2 oddB⟩, h3⟩
theorem HpS.below {w w' : World} {g : Nat} {L : List Int} (h : HpS w g L) (hb : Below w.heap.size w w') : HpS w' g L := ⟨h.1.below hb, h.2⟩
theorem HpS.other {w w' : World} {g g' : Nat} {L L' : List Int} (h : HpS w g L) (h' : HpS w g' L') (hne : g ≠ g') (hg : w.grownBy w' (some g')) : HpS w' g L := ⟨h.1.other h'.1 hne hg, h.2⟩
theorem HpS.lt {w : World} {g : Nat} {L : List Int} (h : HpS w g L) : g < w.heap.size := h.1.lt
theorem HpS.new {w : World} {g : Nat} (h : HpP w g []) : HpS w g [] := ⟨h, List.Pairwise.nil⟩
theorem below_own {w W W' : World} {g : Nat} (h : Below w.heap.size w W) (hg : w.heap.size ≤ g) (hgr : W.grownBy W' (some g)) : Below w.heap.size w W' := h.grown hgr h.size (fun r e => by cases e; exact hg)
open Hm in
set_option maxHeartbeats 8000000 in
set_option maxRecDepth 100000 in
theorem awake16.calls (w : World) : Calls Try.prog 19 #[] w fun e w' => e = .returned (.bool true) ∧ Below w.heap.size w w' := by
  go_enter Try.func19, Try.ntmps19
  go_wp2_with (first
    | (go_at_call 20; refine (new.calls _).mono ?_; rintro e w1 ⟨g, rfl, q1, q2, q3⟩; have HGW := Lib.hid q1; have HS := Lib.hid (HpS.new q2); have HB := Lib.hid q3; clear q1 q2 q3)
    | (go_at_call 22; refine (putS g _ _ _ HS.out (by decide)).mono ?_; rintro e w2 ⟨rfl, q1, q2⟩; replace HS := Lib.hid q1; replace HB := Lib.hid (below_own HB.out HGW.out q2); clear q1 q2))
  have e1 : ins 4 (ins 5 (ins 3 (ins 5 []))) = [3, 4, 5, 5] := by decide
  rw [e1] at HS
  go_wp2_with (first
    | (go_at_call 23; refine (takeS g _ _ _ HS.out (by decide)).mono ?_; rintro e w2 ⟨rfl, q1, q2⟩; replace HS := Lib.hid q1; replace HB := Lib.hid (below_own HB.out HGW.out q2); clear q1 q2)
    | (go_at_call 24; refine (len.calls g _ _ HS.out.1).mono ?_; rintro e w3 ⟨rfl, rfl⟩))
  go_ret
  exact ⟨rfl, HB.out⟩
theorem int_at {w : World} {A : Option Addr} {n : Nat} {xs : List Int} (h : Kd.C (Kd.int .i64) w A n xs) (i : Nat) (h1 : i < n) : ∃ ad, A = some ad ∧ w.cell? (ad.add i) = some (.int .i64 (xs.getD i 0)) := by
  obtain ⟨ad, c, e, _, hK, hc0⟩ := Kd.C_get h 0 (i : Int) (by omega) (by omega)
  have hc : ∀ j u, c[j]? = some u → w.cell? (ad.add (((i : Int).toNat) * 1 + j)) = some u := hc0
  have hk : c = [.int .i64 (xs.getD (i : Int).toNat 0)] := hK
  subst hk
  refine ⟨ad, e, ?_⟩
  have := hc 0 _ rfl
  simpa using this
theorem same_self (l : List Int) (hl : l.length ≤ 1000000) : ∀ (d k i : Nat), i + d = l.length → d < k → horariumref16_Same.l0 k l l (i : Int) = some true := by
  intro d
  induction d with
  | zero =>
    intro k i hi hk
    obtain ⟨k, rfl⟩ : ∃ m, k = m + 1 := ⟨k - 1, by omega⟩
    simp only [horariumref16_Same.l0]
    rw [if_neg (by omega)]
  | succ d ih =>
    intro k i hi hk
    obtain ⟨k, rfl⟩ : ∃ m, k = m + 1 := ⟨k - 1, by omega⟩
    simp only [horariumref16_Same.l0]
    rw [if_pos (by omega), if_pos (by omega), if_pos (by omega), if_pos trivial]
    have e : wrap64 ((i : Int) + 1) = ((i + 1 : Nat) : Int) := by unfold wrap64; omega
    rw [e]
    exact ih k (i + 1) (by omega) (by omega)
theorem Same_self (l : List Int) (hl : l.length ≤ 1000000) : horariumref16_Same.f 1000001 l l = some true := by
  unfold horariumref16_Same.f
  rw [if_pos rfl]
  exact same_self l hl l.length 1000001 0 (by omega) (by omega)
def Rw (w : World) (base : Nat) (A : Option Addr) (L : List Int) : Prop := L = [] ∨ ∃ (b o : Nat) (cells : Array Value), A = some ⟨b, o, none⟩ ∧ base ≤ b ∧ w.heap[b]? = some (.cells cells 3 (0, 0)) ∧ ∀ i, i < L.length → cells[o + i]? = some (.int .i64 (L.getD i 0))
def RfP (w : World) (base hb : Nat) (L : List Int) : Prop := ∃ (A : Option Addr) (c : Nat), w.heap[hb]? = some (.cells #[.slice A L.length c] 37 (0, 0)) ∧ base ≤ hb ∧ L.length ≤ c ∧ Rw w base A L
theorem Rw.keep {w w' : World} {base : Nat} {A : Option Addr} {L : List Int} (h : Rw w base A L) (hk : ∀ (q : Nat) (cs : Array Value), w.heap[q]? = some (.cells cs 3 (0, 0)) → w'.heap[q]? = some (.cells cs 3 (0, 0))) : Rw w' base A L := by
  rcases h with h | ⟨b, o, cells, h1, h2, h3, h4⟩
  · exact .inl h
  · exact .inr ⟨b, o, cells, h1, h2, hk _ _ h3, h4⟩
theorem RfP.lt {w : World} {base hb : Nat} {L : List Int} (h : RfP w base hb L) : hb < w.heap.size := by
  obtain ⟨A, c, h1, _⟩ := h
  exact blk_lt h1
theorem ne_type {w : World} {a b T U : Nat} {cs ds : Array Value} (ha : w.heap[a]? = some (.cells cs T (0, 0))) (hb : w.heap[b]? = some (.cells ds U (0, 0))) (hT : T ≠ U) : a ≠ b := fun e => by
  subst e
  rw [ha] at hb
  injection hb with hb
  injection hb with _ hb
  exact hT hb
theorem RfP.below {w w' : World} {base hb : Nat} {L : List Int} (h : RfP w base hb L) (hbl : Below w.heap.size w w') : RfP w' base hb L := by
  obtain ⟨A, c, h1, h2, h3, h4⟩ := h
  exact ⟨A, c, blk_below h1 hbl, h2, h3, h4.keep fun q cs hq => blk_below hq hbl⟩
/-- The heap g has been turned. -/
theorem RfP.heap {w w' : World} {base hb g : Nat} {L M : List Int} (h : RfP w base hb L) (hh : HpS w g M) (hg : w.grownBy w' (some g)) : RfP w' base hb L := by
  obtain ⟨A, c, h1, h2, h3, h4⟩ := h
  obtain ⟨v, t, g1, _⟩ := hh.1
  exact ⟨A, c, blk_grown h1 hg (fun e => ne_type g1 h1 (by decide) (Option.some.inj e).symm), h2, h3, h4.keep fun q cs hq => blk_grown hq hg (fun e => ne_type g1 hq (by decide) (Option.some.inj e).symm)⟩
/-- The reference's heap has been turned. -/
theorem HpS.ref {w w' : World} {base hb g : Nat} {L M : List Int} (hh : HpS w g M) (h : RfP w base hb L) (hg : w.grownBy w' (some hb)) : HpS w' g M := by
  obtain ⟨A, c, h1, h2, h3, h4⟩ := h
  obtain ⟨v, t, g1, _⟩ := id hh.1
  exact ⟨hh.1.grown hg (fun e => ne_type g1 h1 (by decide) (Option.some.inj e)) (fun r cs e hb => ne_type h1 hb (by decide) (Option.some.inj e)), hh.2⟩
theorem rw_one {W : World} {base : Nat} {A : Option Addr} {x : Int} {L : List Int} (h : Rw W base A (x :: L)) : ∃ b o : Nat, A = some ⟨b, o, none⟩ ∧ W.cell? ⟨b, o, none⟩ = some (.int .i64 x) := by
  rcases h with h | ⟨b, o, cells, h1, h2, h3, h4⟩
  · cases h
  · exact ⟨b, o, h1, (blk_cell h3 o).trans (by simpa using h4 0 (by simp))⟩
theorem rw_at {W : World} {base : Nat} {A : Option Addr} {L : List Int} (h : Rw W base A L) (i : Nat) (hi : i < L.length) : ∃ b o : Nat, A = some ⟨b, o, none⟩ ∧ W.cell? ⟨b, o + i, none⟩ = some (.int .i64 (L.getD i 0)) := by
  rcases h with h | ⟨b, o, cells, h1, h2, h3, h4⟩
  · subst h; exact absurd hi (by simp)
  · exact ⟨b, o, h1, (blk_cell h3 (o + i)).trans (h4 i hi)⟩
theorem rw_tail {W : World} {base b o : Nat} {x : Int} {L : List Int} (h : Rw W base (some ⟨b, o, none⟩) (x :: L)) : Rw W base (some ⟨b, o + 1, none⟩) L := by
  rcases h with h | ⟨b', o', cells, h1, h2, h3, h4⟩
  · cases h
  · cases h1
    refine .inr ⟨b, o + 1, cells, rfl, h2, h3, fun i hi => ?_⟩
    have := h4 (i + 1) (by simp; omega)
    rw [show o + 1 + i = o + (i + 1) by omega, this]
    simp
/-- The reference's heap takes a new row. -/
theorem rf_set {W W0 : World} {base hb : Nat} {u : Value} {A : Option Addr} {c : Nat} {L : List Int} (h1 : W.heap[hb]? = some (.cells #[u] 37 (0, 0))) (hb0 : base ≤ hb) (hc : L.length ≤ c) (hr : Rw W base A L) (v : Value) (hv : v = .slice A L.length c) : RfP (W.setCell ⟨hb, 0, none⟩ v) base hb L := by
  subst hv
  exact ⟨A, c, blk_set h1 0 _, hb0, hc, hr.keep fun q cs hq => blk_far hq (ne_type hq h1 (by decide)) _⟩
set_option maxHeartbeats 4000000 in
set_option maxRecDepth 100000 in
theorem rtake_none.calls (base hb : Nat) (w : World) (h : RfP w base hb []) : Calls Try.prog 30 #[.pointer (some ⟨hb, 0, none⟩)] w fun e w' => e = .returned (.tuple #[.int .i64 0, .bool false]) ∧ w = w' := by
  obtain ⟨A, c, h1, h2, h3, h4⟩ := h
  have c0 : w.cell? ⟨hb, 0, none⟩ = some (.slice A 0 c) := (blk_cell h1 0).trans rfl
  clear h1 h2 h3 h4
  go_enter Try.func30, Try.ntmps30
  go_wp2
  go_ret2
  exact ⟨rfl, rfl⟩
set_option maxHeartbeats 4000000 in
set_option maxRecDepth 100000 in
theorem rtake.calls (base hb : Nat) (x : Int) (L : List Int) (w : World) (h : RfP w base hb (x :: L)) (hl : L.length < 1000000) : Calls Try.prog 30 #[.pointer (some ⟨hb, 0, none⟩)] w fun e w' => e = .returned (.tuple #[.int .i64 x, .bool true]) ∧ RfP w' base hb L ∧ w.grownBy w' (some hb) := by
  obtain ⟨A, c, h1, h2, h3, h4⟩ := h
  obtain ⟨b, o, rfl, hx⟩ := rw_one h4
  have c0 : w.cell? ⟨hb, 0, none⟩ = some (.slice (some ⟨b, o, none⟩) (L.length + 1) c) := (blk_cell h1 0).trans rfl
  have f0 : w.frozen? ⟨hb, 0, none⟩ = false := blk_frozen h1 0
  have H1 := Lib.hid h1
  have H2 := Lib.hid h2
  have H3 := Lib.hid (show L.length + 1 ≤ c from h3)
  have H4 := Lib.hid h4
  have p1 : (0 : Int) < ((L.length + 1 : Nat) : Int) := by omega
  have p2 : (1 : Int) ≤ ((L.length + 1 : Nat) : Int) := by omega
  have p3 : ((L.length + 1 : Nat) : Int) ≤ (c : Int) := by have := H3.out; omega
  clear h1 h2 h3 h4
  go_enter Try.func30, Try.ntmps30
  go_wp2
  · rename_i hc1
    have hL0 : L = [] := List.length_eq_zero_iff.1 (by have := H3.out; omega)
    go_ret2
    subst hL0
    exact ⟨rfl, rf_set (W0 := w) H1.out H2.out (by simp) (.inl rfl) _ rfl, PxR.grown_set w ⟨hb, 0, none⟩ _⟩
  · go_ret2
    exact ⟨rfl, rf_set (W0 := w) H1.out H2.out (by have := H3.out; omega) (rw_tail H4.out) _ rfl, PxR.grown_set w ⟨hb, 0, none⟩ _⟩
theorem rw_own {W : World} {base : Nat} {v : Value} {xs : List Int} (h : W.ownsRow base 3 1 v xs.length (nums .i64 xs)) : ∃ A c, v = .slice A xs.length c ∧ xs.length ≤ c ∧ Rw W base A xs := by
  rcases h.2 with ⟨h1, h2⟩ | ⟨g, cap, cur, h1, h2, h3, h4, h5, h6, h7⟩
  · have e := List.length_eq_zero_iff.1 h2
    subst e
    exact ⟨none, 0, h1, Nat.le_refl _, .inl rfl⟩
  · refine ⟨_, cap, h1, h4, .inr ⟨g, 0, cur, rfl, h2, h3, fun i hi => ?_⟩⟩
    have h8 : (cur.toList.take (xs.length * 1))[i]? = (nums .i64 xs)[i]? := by rw [h7]
    rw [Nat.mul_one, List.getElem?_take_of_lt hi, Array.getElem?_toList] at h8
    rw [Nat.zero_add, h8]
    simp [nums, hi]
theorem rw_add {W : World} {base : Nat} {A : Option Addr} {L : List Int} (h : Rw W base A L) (i : Nat) (hi : i < L.length) : ∃ ad : Addr, A = some ad ∧ W.cell? (ad.add i) = some (.int .i64 (L.getD i 0)) := by
  obtain ⟨b, o, h1, h2⟩ := rw_at h i hi
  refine ⟨_, h1, ?_⟩
  by_cases h0 : i = 0
  · subst h0; simpa [Addr.add] using h2
  · simpa [Addr.add, h0] using h2
theorem Rw.mono {W : World} {base base' : Nat} {A : Option Addr} {L : List Int} (h : Rw W base A L) (hb : base' ≤ base) : Rw W base' A L := by
  rcases h with h | ⟨b, o, cells, h1, h2, h3, h4⟩
  · exact .inl h
  · exact .inr ⟨b, o, cells, h1, Nat.le_trans hb h2, h3, h4⟩
def PutR (x : Int) (L : List Int) (i : Nat) (d : Bool) (M : List Int) : Prop := Hm.Srt M ∧ M.length ≤ i + 1 ∧ ((d = true ∧ M.Perm (x :: L.take i) ∧ ∀ y ∈ L.drop i, x ≤ y) ∨ (d = false ∧ M = L.take i ∧ ∀ y ∈ L.take i, y ≤ x))
theorem putR_zero (x : Int) (L : List Int) : PutR x L 0 false [] := ⟨List.Pairwise.nil, by simp, .inr ⟨rfl, by simp, by simp⟩⟩
theorem take_at {L : List Int} {i : Nat} (hi : i < L.length) : L.take (i + 1) = L.take i ++ [L.getD i 0] := by
  rw [List.take_add_one, List.getD_eq_getElem?_getD, List.getElem?_eq_getElem hi]; rfl
theorem drop_at {L : List Int} {i : Nat} (hi : i < L.length) : L.drop i = L.getD i 0 :: L.drop (i + 1) := by
  rw [List.drop_eq_getElem_cons hi, List.getD_eq_getElem?_getD, List.getElem?_eq_getElem hi]; rfl
theorem srt_at {L : List Int} (h : Hm.Srt L) {i : Nat} (hi : i < L.length) : (∀ y ∈ L.take i, y ≤ L.getD i 0) ∧ ∀ y ∈ L.drop (i + 1), L.getD i 0 ≤ y := by
  have e : L.take i ++ (L.getD i 0 :: L.drop (i + 1)) = L := by rw [← drop_at hi]; exact List.take_append_drop i L
  have h2 : Hm.Srt (L.take i ++ (L.getD i 0 :: L.drop (i + 1))) := by rw [e]; exact h
  have h3 := List.pairwise_append.1 h2
  exact ⟨fun y hy => h3.2.2 y hy _ (by simp), fun y hy => (List.pairwise_cons.1 h3.2.1).1 y hy⟩
theorem srt_snoc {M : List Int} {y : Int} (h : Hm.Srt M) (hy : ∀ z ∈ M, z ≤ y) : Hm.Srt (M ++ [y]) :=
  List.pairwise_append.2 ⟨h, List.pairwise_singleton _ _, fun z hz t ht => by cases List.mem_singleton.1 ht; exact hy z hz⟩
theorem putR_ins {x : Int} {L M : List Int} {i : Nat} (hs : Hm.Srt L) (hi : i < L.length) (h : PutR x L i false M) (hx : x < L.getD i 0) : PutR x L (i + 1) true ((M ++ [x]) ++ [L.getD i 0]) := by
  obtain ⟨h1, h0, h2 | ⟨_, rfl, h3⟩⟩ := h
  · exact absurd h2.1 (by simp)
  have ha := srt_at hs hi
  refine ⟨srt_snoc (srt_snoc h1 h3) ?_, by simp; omega, .inl ⟨rfl, ?_, ?_⟩⟩
  · intro z hz
    rcases List.mem_append.1 hz with hz | hz
    · exact ha.1 z hz
    · cases List.mem_singleton.1 hz; omega
  · rw [take_at hi]
    exact (List.Perm.append_right _ (List.perm_append_singleton _ _)).trans (List.Perm.refl _)
  · intro y hy
    have := ha.2 y hy
    omega
theorem putR_go {x : Int} {L M : List Int} {i : Nat} {d : Bool} (hs : Hm.Srt L) (hi : i < L.length) (h : PutR x L i d M) (hx : d = true ∨ ¬ x < L.getD i 0) : PutR x L (i + 1) d (M ++ [L.getD i 0]) := by
  have ha := srt_at hs hi
  obtain ⟨h1, h0, ⟨rfl, h2, h3⟩ | ⟨rfl, rfl, h3⟩⟩ := h
  · refine ⟨srt_snoc h1 ?_, by simp; omega, .inl ⟨rfl, ?_, ?_⟩⟩
    · intro z hz
      rcases List.mem_cons.1 (h2.mem_iff.1 hz) with rfl | hz
      · exact h3 _ (by rw [drop_at hi]; simp)
      · exact ha.1 z hz
    · rw [take_at hi]
      exact List.Perm.append_right _ h2
    · intro y hy
      exact h3 y (by rw [drop_at hi]; exact List.mem_cons_of_mem _ hy)
  · refine ⟨srt_snoc h1 ha.1, by simp; omega, .inr ⟨rfl, (take_at hi).symm, ?_⟩⟩
    intro y hy
    rw [take_at hi] at hy
    rcases List.mem_append.1 hy with hy | hy
    · exact h3 y hy
    · cases List.mem_singleton.1 hy
      rcases hx with hx | hx
      · cases hx
      · omega
theorem putR_done {x : Int} {L M : List Int} (hs : Hm.Srt L) (h : PutR x L L.length true M) : M = Hm.ins x L := by
  obtain ⟨h1, h0, ⟨_, h2, _⟩ | ⟨h2, _⟩⟩ := h
  · rw [List.take_length] at h2
    exact Hm.srt_eq h1 (Hm.ins_srt hs) (h2.trans (Hm.ins_perm x L).symm)
  · cases h2
theorem putR_last {x : Int} {L M : List Int} (hs : Hm.Srt L) (h : PutR x L L.length false M) : M ++ [x] = Hm.ins x L := by
  obtain ⟨h1, h0, ⟨h2, _⟩ | ⟨_, rfl, h3⟩⟩ := h
  · cases h2
  · rw [List.take_length] at h3 ⊢
    exact Hm.srt_eq (srt_snoc hs h3) (Hm.ins_srt hs) ((List.perm_append_singleton x L).trans (Hm.ins_perm x L).symm)
theorem bp_end0 {P : Program} {fn : Func} {R : Ending → World → Prop} {a : Act} {w : World} (hr : fn.results = #[]) (hd : a.defers = []) (hR : R (.returned (.tuple #[])) w) : bodyPost P fn R .normal a w :=
  bodyPost_end (results_none hr _ _ _) hd hR
set_option maxHeartbeats 8000000 in
set_option maxRecDepth 100000 in
theorem rput.calls (base hb : Nat) (x : Int) (L : List Int) (w : World) (h : RfP w base hb L) (hs : Hm.Srt L) (hb0 : base ≤ w.heap.size) (hl : L.length < 1000000) : Calls Try.prog 32 #[.pointer (some ⟨hb, 0, none⟩), .int .i64 x] w fun e w' => e = .returned (.tuple #[]) ∧ RfP w' base hb (Hm.ins x L) ∧ w.grownBy w' (some hb) := by
  have hlt := h.lt
  obtain ⟨A, c, h1, h2, h3, h4⟩ := h
  have HC0 : Hid (∀ W : World, Below w.heap.size w W → W.cell? ⟨hb, 0, none⟩ = some (.slice A L.length c)) := Lib.hid fun W hW => (blk_cell (blk_below h1 hW) 0).trans rfl
  have H1 := Lib.hid h1
  have H2 := Lib.hid h2
  have H4 := Lib.hid h4
  have HSR := Lib.hid hs
  have HB0 := Lib.hid hb0
  clear h1 h2 h3 h4 hs hb0
  go_enter Try.func32, Try.ntmps32
  go_wp2
  go_loopg [4, 5, 6] (L.length + 1) (fun k v4 v5 v6 wr => ∃ (i : Nat) (d : Bool) (M : List Int), v5 = .bool d ∧ v6 = .int .i64 (i : Int) ∧ i ≤ L.length ∧ L.length - i < k ∧ Hid (PutR x L i d M) ∧ Hid (wr.ownsRow w.heap.size 3 1 v4 M.length (nums .i64 M)) ∧ Hid (Below w.heap.size w wr))
  case atStart => exact ⟨0, false, [], rfl, rfl, by omega, by omega, Lib.hid (putR_zero x L), Lib.hid ⟨rfl, .inl ⟨rfl, rfl⟩⟩, Lib.hid (Below.refl _ _)⟩
  case round =>
    obtain ⟨i, d, M, rfl, rfl, hil, hk, HM, HO, HB⟩ := hrel
    have c0 := HC0.out _ HB.out
    by_cases hlt2 : i < L.length
    · have p1 : (i : Int) < (L.length : Int) := by omega
      have p2 : (0 : Int) ≤ (i : Int) := by omega
      have ML := Lib.hid (show M.length < 1000001 by have := HM.out.2.1; omega)
      obtain ⟨ad, e0, hy⟩ := rw_add H4.out i hlt2
      cases e0
      have hyl := World.block_lt_of_cell? w _ hy
      have HY : Hid (∀ W : World, Below w.heap.size w W → W.cell? (ad.add i) = some (.int .i64 (L.getD i 0))) := Lib.hid fun W hW => (hW.cell hyl).trans hy
      have HIN := Lib.hid (fun (e : d = false) => putR_ins HSR.out hlt2 (e ▸ HM.out))
      have HGO := Lib.hid (putR_go HSR.out hlt2 HM.out)
      obtain ⟨y, hyv⟩ : ∃ y, L.getD i 0 = y := ⟨_, rfl⟩
      rw [hyv] at HY HIN HGO
      clear hy hyl hyv
      have hy := HY.out _ HB.out
      cases d with
      | true =>
        have HR := Lib.hid (HGO.out (.inl rfl))
        clear HGO HIN HM
        go_wp2_with (at_builtin; refine print_append_num (w0 := w) w.heap.size rfl (.tmp 33) (.tmp 41) 22 3 .i64 8 rfl Try.underlying22 info3 (by decide) _ M y rfl rfl HO.out HB.out HB.out.size (by have := ML.out; omega) ?_; intro v1 w7 q1 q2 q3 _; replace HO := Lib.hid q1; replace HB := Lib.hid q2; clear q1 q2 q3)
        go_roundg (L.length - (i + 1) + 1)
        case measure => omega
        case rel => exact ⟨i + 1, true, M ++ [y], rfl, by go_num, by omega, by omega, HR, HO, HB⟩
      | false =>
        by_cases hxy : x < y
        · have HR := Lib.hid (HIN.out rfl hxy)
          clear HGO HIN HM
          go_wp2_with (at_builtin; (first
            | (refine print_append_num (w0 := w) w.heap.size rfl (.tmp 29) (.tmp 31) 22 3 .i64 8 rfl Try.underlying22 info3 (by decide) _ M x rfl rfl HO.out HB.out HB.out.size (by have := ML.out; omega) ?_; intro v1 w7 q1 q2 q3 _; have HO2 := Lib.hid q1; replace HB := Lib.hid q2; have c7 := HC0.out _ q2; have y7 := HY.out _ q2; clear q1 q2 q3)
            | (refine print_append_num (w0 := w) w.heap.size rfl (.tmp 33) (.tmp 41) 22 3 .i64 8 rfl Try.underlying22 info3 (by decide) _ (M ++ [x]) y rfl rfl HO2.out HB.out HB.out.size (by have := ML.out; simp; omega) ?_; intro v1 w7 q1 q2 q3 _; have HO3 := Lib.hid q1; replace HB := Lib.hid q2; clear q1 q2 q3)))
          go_roundg (L.length - (i + 1) + 1)
          case measure => omega
          case rel => exact ⟨i + 1, true, (M ++ [x]) ++ [y], rfl, by go_num, by omega, by omega, HR, HO3, HB⟩
        · have HR := Lib.hid (HGO.out (.inr hxy))
          clear HGO HIN HM
          go_wp2_with (at_builtin; refine print_append_num (w0 := w) w.heap.size rfl (.tmp 33) (.tmp 41) 22 3 .i64 8 rfl Try.underlying22 info3 (by decide) _ M y rfl rfl HO.out HB.out HB.out.size (by have := ML.out; omega) ?_; intro v1 w7 q1 q2 q3 _; replace HO := Lib.hid q1; replace HB := Lib.hid q2; clear q1 q2 q3)
          go_roundg (L.length - (i + 1) + 1)
          case measure => omega
          case rel => exact ⟨i + 1, false, M ++ [y], rfl, by go_num, by omega, by omega, HR, HO, HB⟩
    · obtain hie : i = L.length := by omega
      subst hie
      have p1 : ¬ (L.length : Int) < (L.length : Int) := by omega
      have ML := Lib.hid (show M.length < 1000001 by have := HM.out.2.1; omega)
      cases d with
      | true =>
        obtain rfl := putR_done HSR.out HM.out
        obtain ⟨A', c', rfl, hc', hr⟩ := rw_own HO.out
        have HCC := Lib.hid hc'
        have HRW := Lib.hid (hr.mono HB0.out)
        clear hc' hr HM HO
        have f7 := blk_frozen (blk_below H1.out HB.out) 0
        go_wp2
        refine bp_end0 rfl rfl ?_
        exact ⟨rfl, rf_set (W0 := w) (blk_below H1.out HB.out) H2.out HCC.out HRW.out _ rfl, (grown_of_below HB.out (some hb)).trans (PxR.grown_set _ ⟨hb, 0, none⟩ _)⟩
      | false =>
        have HE := Lib.hid (putR_last HSR.out HM.out)
        clear HM
        go_wp2_with (at_builtin; refine print_append_num (w0 := w) w.heap.size rfl (.tmp 45) (.tmp 47) 22 3 .i64 8 rfl Try.underlying22 info3 (by decide) _ M x rfl rfl HO.out HB.out HB.out.size (by have := ML.out; omega) ?_; intro v1 w7 q1 q2 q3 _; rw [HE.out] at q1; obtain ⟨A', c', rfl, hc', hr⟩ := rw_own q1; have HCC := Lib.hid hc'; have HRW := Lib.hid (hr.mono HB0.out); replace HB := Lib.hid q2; have c7 := HC0.out _ q2; have f7 := blk_frozen (blk_below H1.out q2) 0; clear q1 q2 q3 hc' hr)
        refine bp_end0 rfl rfl ?_
        exact ⟨rfl, rf_set (W0 := w) (blk_below H1.out HB.out) H2.out HCC.out HRW.out _ rfl, (grown_of_below HB.out (some hb)).trans (PxR.grown_set _ ⟨hb, 0, none⟩ _)⟩
set_option maxHeartbeats 8000000 in
set_option maxRecDepth 100000 in
theorem rdrop.calls (base hb : Nat) (L : List Int) (w : World) (h : RfP w base hb L) (hs : Hm.Srt L) (hb0 : base ≤ w.heap.size) (hl : L.length < 1000000) : Calls Try.prog 33 #[.pointer (some ⟨hb, 0, none⟩)] w fun e w' => e = .returned (.int .i64 ((L.length : Int) - ((L.filter oddB).length : Int))) ∧ RfP w' base hb (L.filter oddB) ∧ w.grownBy w' (some hb) := by
  obtain ⟨A, c, h1, h2, h3, h4⟩ := h
  have HC0 : Hid (∀ W : World, Below w.heap.size w W → W.cell? ⟨hb, 0, none⟩ = some (.slice A L.length c)) := Lib.hid fun W hW => (blk_cell (blk_below h1 hW) 0).trans rfl
  have H1 := Lib.hid h1
  have H2 := Lib.hid h2
  have H4 := Lib.hid h4
  have HB0 := Lib.hid hb0
  clear h1 h2 h3 h4 hs hb0
  go_enter Try.func33, Try.ntmps33
  go_wp2
  go_loopg [3, 4] (L.length + 1) (fun k v3 v4 wr => ∃ (i : Nat) (M : List Int), v4 = .int .i64 (i : Int) ∧ i ≤ L.length ∧ L.length - i < k ∧ Hid (M = (L.take i).filter oddB ∧ M.length ≤ i) ∧ Hid (wr.ownsRow w.heap.size 3 1 v3 M.length (nums .i64 M)) ∧ Hid (Below w.heap.size w wr))
  case atStart => exact ⟨0, [], rfl, by omega, by omega, Lib.hid ⟨by simp, by simp⟩, Lib.hid ⟨rfl, .inl ⟨rfl, rfl⟩⟩, Lib.hid (Below.refl _ _)⟩
  case round =>
    obtain ⟨i, M, rfl, hil, hk, HM, HO, HB⟩ := hrel
    have c0 := HC0.out _ HB.out
    by_cases hlt2 : i < L.length
    · have p1 : (i : Int) < (L.length : Int) := by omega
      have p2 : (0 : Int) ≤ (i : Int) := by omega
      have ML := Lib.hid (show M.length < 1000001 by have := HM.out.2; omega)
      obtain ⟨ad, e0, hy⟩ := rw_add H4.out i hlt2
      cases e0
      have hyl := World.block_lt_of_cell? w _ hy
      have hf : (L.take (i + 1)).filter oddB = M ++ [L.getD i 0].filter oddB := by rw [take_at hlt2, List.filter_append, ← HM.out.1]
      obtain ⟨y, hyv⟩ : ∃ y, L.getD i 0 = y := ⟨_, rfl⟩
      rw [hyv] at hy hf
      replace hy := (HB.out.cell hyl).trans hy
      clear hyl hyv
      cases hod : oddB y with
      | true =>
        have HF := Lib.hid (show M ++ [y] = (L.take (i + 1)).filter oddB by rw [hf]; simp [hod])
        have d1 : (Int.tmod y 2 == 0) = false := by unfold oddB at hod; simpa using hod
        clear hf hod
        go_wp2_with (first
          | (go_at_call 29; refine (even.calls y _).mono ?_; rw [d1]; rintro e w5 ⟨rfl, rfl⟩)
          | (at_builtin; refine print_append_num (w0 := w) w.heap.size rfl (.tmp 26) (.tmp 34) 22 3 .i64 8 rfl Try.underlying22 info3 (by decide) _ M y rfl rfl HO.out HB.out HB.out.size (by have := ML.out; omega) ?_; intro v1 w7 q1 q2 q3 _; replace HO := Lib.hid q1; replace HB := Lib.hid q2; clear q1 q2 q3))
        go_roundg (L.length - (i + 1) + 1)
        case measure => omega
        case rel => exact ⟨i + 1, M ++ [y], by go_num, by omega, by omega, Lib.hid ⟨HF.out, by have := HM.out.2; simp; omega⟩, HO, HB⟩
      | false =>
        have HF := Lib.hid (show M = (L.take (i + 1)).filter oddB by rw [hf]; simp [hod])
        have d1 : (Int.tmod y 2 == 0) = true := by unfold oddB at hod; simpa using hod
        clear hf hod
        go_wp2_with (go_at_call 29; refine (even.calls y _).mono ?_; rw [d1]; rintro e w5 ⟨rfl, rfl⟩)
        go_roundg (L.length - (i + 1) + 1)
        case measure => omega
        case rel => exact ⟨i + 1, M, by go_num, by omega, by omega, Lib.hid ⟨HF.out, by have := HM.out.2; omega⟩, HO, HB⟩
    · obtain hie : i = L.length := by omega
      subst hie
      have p1 : ¬ (L.length : Int) < (L.length : Int) := by omega
      obtain rfl : M = L.filter oddB := by rw [HM.out.1, List.take_length]
      obtain ⟨A', c', rfl, hc', hr⟩ := rw_own HO.out
      have hml := List.length_filter_le oddB L
      have HCC := Lib.hid hc'
      have HRW := Lib.hid (hr.mono HB0.out)
      clear hc' hr HM HO
      have f7 := blk_frozen (blk_below H1.out HB.out) 0
      go_wp2
      go_ret
      exact ⟨rfl, rf_set (W0 := w) (blk_below H1.out HB.out) H2.out HCC.out HRW.out _ rfl, (grown_of_below HB.out (some hb)).trans (PxR.grown_set _ ⟨hb, 0, none⟩ _)⟩
-- horariumref16_Same
def plays.T30 : Bool × List (List Nat × List Nat) := (true, [([], []), ([0], [0]), ([], []), ([2], [2]), ([3], [3]), ([4], [4]), ([1, 5, 1], [1, 5]), ([6, 6, 0, 1, 2, 3, 4, 5, 6], [6])])
def plays.B30 : List Nat := [0, 1, 0, 4, 12, 28, 63, 127]
theorem plays.tab30 : rtab .any (opsOf Try.f6 30) = plays.T30 := by kernel_rfl
theorem plays.bits30 : waitsOk plays.T30.2 plays.B30 = true := by kernel_rfl
theorem nameAll {W : World} {g base hb : Nat} {L : List Int} {n : Nat} (h1 : Hid (HpS W g L)) (h2 : Hid (RfP W base hb L)) (h3 : L.length ≤ n) : ∃ (W' : World) (L' : List Int), W' = W ∧ Hid (HpS W' g L') ∧ Hid (RfP W' base hb L') ∧ Hid (L'.length ≤ n) := ⟨W, L, rfl, h1, h2, h3⟩
theorem ins_len (x : Int) (L : List Int) : (Hm.ins x L).length = L.length + 1 := by rw [(Hm.ins_perm x L).length_eq]; simp
open Hm in
theorem changeS (g : Nat) (z y : Int) (R : List Int) (w : World) (h : HpS w g (y :: R)) (hl : R.length < 999999) : Calls Try.prog 31 #[.pointer (some ⟨g, 0, none⟩), .int .i64 z] w fun e w' => e = .returned (.bool true) ∧ HpS w' g (ins z R) ∧ w.grownBy w' (some g) := by
  obtain ⟨x, R', h1, h2, h3⟩ := change.calls g z (y :: R) w h.1 (by simp) (by simp; omega)
  obtain ⟨rfl, h5⟩ := srt_take h.2 h1 h2
  exact h3.mono fun _ _ ⟨k1, k2, k3⟩ => ⟨k1, ⟨k2.of_perm ((h5.cons z).trans (ins_perm z R).symm), ins_srt (List.pairwise_cons.1 h.2).2⟩, k3⟩
theorem C_rw {w : World} {base : Nat} {A : Option Addr} {L : List Int} (h : Rw w base A L) (hl : L.length ≤ 9223372036854775807) : Kd.C (Kd.int .i64) w A L.length L :=
  Kd.C_of_reads (d := (0 : Int)) ⟨rfl, hl, fun hn => by
    obtain ⟨ad, e, _⟩ := rw_add h 0 hn
    refine ⟨ad, e, fun j hj => ?_⟩
    obtain ⟨ad', e', h'⟩ := rw_add h j hj
    rw [e] at e'
    cases e'
    exact h'⟩
theorem RfP.new {w : World} {base : Nat} (hb : base ≤ w.heap.size) : RfP (w.alloc (.cells #[.slice none 0 0] 37 (0, 0))) base w.heap.size [] := ⟨none, 0, heap_alloc_new w _, hb, Nat.le_refl _, .inl rfl⟩
def horariumlaw16_HeapPlays.f (l0 l1 : List Int) : Option Bool := some true
open Hm in
set_option maxHeartbeats 16000000 in
set_option maxRecDepth 100000 in
theorem horariumlaw16_HeapPlays.calls (A0 : Option Addr) (c0 : Nat) (l0 : List Int) (A1 : Option Addr) (c1 : Nat) (l1 : List Int) (r : Bool) (w : World) (hr0 : Kd.C (Kd.int .i64) w A0 l0.length l0) (hc0 : l0.length ≤ c0) (hr1 : Kd.C (Kd.int .i64) w A1 l1.length l1) (hc1 : l1.length ≤ c1) (h : horariumlaw16_HeapPlays.f l0 l1 = some r) :
    Calls Try.prog 6 #[.slice A0 l0.length c0, .slice A1 l1.length c1] w fun e w' => e = .returned (.bool r) ∧ Below w.heap.size w w' := by
  obtain rfl := Option.some.inj h
  have hmax0 : l0.length ≤ 9223372036854775807 := Kd.C_max hr0
  have hmax1 : l1.length ≤ 9223372036854775807 := Kd.C_max hr1
  have HR0 := Lib.hid hr0
  have HR1 := Lib.hid hr1
  clear hr0 hr1 h hc0 hc1
  go_enter Try.func6, Try.ntmps6
  go_wp2_with (first
    | (go_at_call 19; refine (awake16.calls _).mono ?_; rintro e w1 ⟨rfl, q1⟩; have HB := Lib.hid q1; clear q1)
    | (go_at_call 20; refine (new.calls _).mono ?_; rintro e w2 ⟨gh, rfl, q1, q2, q3⟩; have HGH := Lib.hid (Nat.le_trans HB.out.size q1); have HS := Lib.hid (HpS.new q2); replace HB := Lib.hid (below_step HB.out q3); clear q1 q2 q3))
  have HR := Lib.hid (RfP.new (w := w2) HB.out.size)
  replace HS := Lib.hid (HS.out.below (below_alloc (Below.refl _ _) (.cells #[.slice none 0 0] 37 (0, 0))))
  have HHB := Lib.hid HB.out.size
  replace HB := Lib.hid (below_alloc HB.out (.cells #[.slice none 0 0] 37 (0, 0)))
  obtain ⟨w3, hw3⟩ : ∃ w3, w2.alloc (.cells #[.slice none 0 0] 37 (0, 0)) = w3 := ⟨_, rfl⟩
  rw [hw3] at HR HS HB
  obtain ⟨hb, hhb⟩ : ∃ hb, w2.heap.size = hb := ⟨_, rfl⟩
  rw [hhb] at HR HHB
  rw [hw3]
  rw [hhb]
  clear hw3 hhb
  go_loopg [8] (l0.length + 1) (fun k v8 wr => ∃ (j : Nat) (L : List Int), v8 = .int .i64 (j : Int) ∧ j ≤ l0.length ∧ j ≤ 80 ∧ l0.length - j < k ∧ Hid (L.length ≤ j) ∧ Hid (HpS wr gh L) ∧ Hid (RfP wr w.heap.size hb L) ∧ Hid (Below w.heap.size w wr))
  case atStart => exact ⟨0, [], rfl, by omega, by omega, by omega, Lib.hid (Nat.le_refl _), HS, HR, HB⟩
  case round =>
    clear HS HR HB
    obtain ⟨j, L, rfl, hj, hj80, hk, HLN, HS, HR, HB⟩ := hrel
    by_cases h0 : j < l0.length
    · have a0 : (j : Int) < (l0.length : Int) := by omega
      by_cases h1 : j < l1.length
      · have a1 : (j : Int) < (l1.length : Int) := by omega
        by_cases h8 : j < 80
        · have a8 : (j : Int) < 80 := by omega
          have ap : (0 : Int) ≤ (j : Int) := by omega
          obtain ⟨ad0, e0, hz⟩ := int_at HR0.out j h0
          cases e0
          replace hz := (HB.out.cell (World.block_lt_of_cell? w _ hz)).trans hz
          obtain ⟨ad1, e1, hx⟩ := int_at HR1.out j h1
          cases e1
          replace hx := (HB.out.cell (World.block_lt_of_cell? w _ hx)).trans hx
          obtain ⟨z, hzv⟩ : ∃ z, l0.getD j 0 = z := ⟨_, rfl⟩
          obtain ⟨x, hxv⟩ : ∃ x, l1.getD j 0 = x := ⟨_, rfl⟩
          rw [hzv] at hz
          rw [hxv] at hx
          clear hzv hxv
          obtain ⟨A, c, hh1, hh2, hh3, hh4⟩ := id HR.out
          have c0 := (blk_cell hh1 0).trans rfl
          have HLL := Lib.hid (show L.length < 900 by have := HLN.out; omega)
          have HBS := Lib.hid HB.out.size
          clear hh1 hh2 hh3
          cases L with
          | nil =>
            replace c0 : wr.cell? ⟨hb, 0, none⟩ = some (.slice A 0 c) := c0
            clear hh4
            go_wp2_with (first
              | (go_at_call 23; refine (take_none.calls gh _ HS.out.1).mono ?_; rintro e w5 ⟨rfl, rfl⟩)
              | (go_at_call 30; refine (rtake_none.calls w.heap.size hb _ HR.out).mono ?_; rintro e w5 ⟨rfl, rfl⟩)
              | (go_at_call 26; refine (min_none.calls gh _ HS.out.1).mono ?_; rintro e w5 ⟨rfl, rfl⟩)
              | (go_at_call 31; refine (change_none.calls gh x _ HS.out.1).mono ?_; rintro e w5 ⟨rfl, rfl⟩)
              | (go_at_call 28; refine (dropS gh [] _ HS.out (by simp)).mono ?_; rintro e w5 ⟨rfl, q1, q2⟩; replace HR := Lib.hid (HR.out.heap HS.out q2); replace HS := Lib.hid q1; replace HB := Lib.hid (below_own HB.out HGH.out q2); clear q1 q2)
              | (go_at_call 33; refine (rdrop.calls w.heap.size hb [] _ HR.out List.Pairwise.nil HB.out.size (by simp)).mono ?_; rintro e w6 ⟨rfl, q1, q2⟩; replace HS := Lib.hid (HS.out.ref HR.out q2); replace HR := Lib.hid q1; replace HB := Lib.hid (below_own HB.out HHB.out q2); clear q1 q2)
              | (go_at_call 22; refine (putS gh x [] _ HS.out (by simp)).mono ?_; rintro e w5 ⟨rfl, q1, q2⟩; replace HR := Lib.hid (HR.out.heap HS.out q2); replace HS := Lib.hid q1; replace HB := Lib.hid (below_own HB.out HGH.out q2); clear q1 q2)
              | (go_at_call 32; refine (rput.calls w.heap.size hb x [] _ HR.out List.Pairwise.nil HB.out.size (by simp)).mono ?_; rintro e w6 ⟨rfl, q1, q2⟩; replace HS := Lib.hid (HS.out.ref HR.out q2); replace HR := Lib.hid q1; replace HB := Lib.hid (below_own HB.out HHB.out q2); clear q1 q2))
            all_goals
              obtain ⟨W8, L8, hW8, HS8, HR8, HLN8⟩ := nameAll HS HR (n := j + 1) (by have h1 := HLN.out; first | (simp only [ins_len, List.length_nil, List.length_cons] at h1 ⊢; omega) | exact Nat.le_trans (List.length_filter_le _ _) (Nat.le_succ_of_le h1))
              subst hW8
              obtain ⟨A8, c8, g1, g2, g3, g4⟩ := HR8.out
              have HL8c := Lib.hid g3
              have HGd := Lib.hid (blk_drew g1)
              have HCd := Lib.hid (Kd.C_below (C_rw g4 (by have := HLN8.out; omega)) (below_drew (Below.refl _ _)))
              have HSd := Lib.hid (HS8.out.below (below_drew (Below.refl _ _)))
              have HRd := Lib.hid (HR8.out.below (below_drew (Below.refl _ _)))
              have HBd := Lib.hid (below_drew HB.out)
              clear g1 g2 g3 g4 HS HR HB HS8 HR8
              refine start_ (n := 8) (S := fun w' => w'.cell? ⟨hb, 0, none⟩ = some (.slice A8 L8.length c8)) (ds := []) #[false, false, false, false, false, false, false, false] (by kernel_rfl) rfl rfl ((blk_cell HGd.out 0).trans rfl) (fun hHeld => ?_); refine with_tabW plays.tab30 plays.bits30 (fun HT_ HW_ => ?_)
              generalize W8.drew = w8 at HGd HCd HSd HRd HBd hHeld ⊢
              refine pure_ (i := 0) (N := some 141) (v := ?_) (a' := ?_) #[true, false, false, false, false, false, false, false] rfl rfl (any_of HT_.out (by kernel_rfl)) (fun _ _ _ h => h) (Or.inl ⟨by rfl, ?_⟩) ?_ ?_
              rotate_left
              · intro w'
                go_simp
                with_reducible rfl
              rotate_left
              · simp only [Act.put, List.setIfInBounds_toArray, List.set_cons_zero, List.set_cons_succ, i64_w, i32_w]
                rfl
              refine pure_ (i := 2) (N := some 143) (v := ?_) (a' := ?_) #[true, false, true, false, false, false, false, false] rfl rfl (any_of HT_.out (by kernel_rfl)) (fun _ _ _ h => h) (Or.inl ⟨by rfl, ?_⟩) ?_ ?_
              rotate_left
              · intro w'
                go_simp
                with_reducible rfl
              rotate_left
              · simp only [Act.put, List.setIfInBounds_toArray, List.set_cons_zero, List.set_cons_succ, i64_w, i32_w]
                rfl
              refine pure_ (i := 3) (N := some 144) (v := ?_) (a' := ?_) #[true, false, true, true, false, false, false, false] rfl rfl (any_of HT_.out (by kernel_rfl)) (fun _ _ _ h => h) (Or.inl ⟨by rfl, ?_⟩) ?_ ?_
              rotate_left
              · intro w'
                go_simp
                with_reducible rfl
              rotate_left
              · simp only [Act.put, List.setIfInBounds_toArray, List.set_cons_zero, List.set_cons_succ, i64_w, i32_w]
                rfl
              refine pure_ (i := 4) (N := some 145) (v := ?_) (a' := ?_) #[true, false, true, true, true, false, false, false] rfl rfl (any_of HT_.out (by kernel_rfl)) (fun _ _ _ h => h) (Or.inl ⟨by rfl, ?_⟩) ?_ ?_
              rotate_left
              · intro w'
                go_simp
                with_reducible rfl
              rotate_left
              · simp only [Act.put, List.setIfInBounds_toArray, List.set_cons_zero, List.set_cons_succ, i64_w, i32_w]
                rfl
              refine take_ (i := 5) (N := some 146) (v := ?_) (a' := ?_) #[true, false, true, true, true, true, false, false] rfl rfl (take_ofW HT_.out HW_.out (by kernel_rfl)) (fun _ _ _ h => h) (Or.inl ⟨by rfl, ?_⟩) hHeld ?_ ?_
              rotate_left
              · rintro w' s0
                go_simp
                with_reducible rfl
              rotate_left
              · simp only [Act.put, List.setIfInBounds_toArray, List.set_cons_zero, List.set_cons_succ, i64_w, i32_w]
                rfl
              refine one_ (i := 1) (N := some 142) #[true, true, true, true, true, true, false, false] rfl rfl (one_of HT_.out (by kernel_rfl)) (by decide) (fun K hK => ?_)
              refine goes_ Try.func25 (by kernel_rfl) rfl #[.pointer (some ⟨gh, 0, none⟩)] (by rfl) rfl rfl (by (try simp only [List.map_toArray, List.map_cons, List.map_nil]); first | done | rfl) ?_
              refine (listS gh L8 w8 HSd.out (by have := HLN8.out; omega)).mono ?_
              rintro e w9 ⟨v1, rfl, q1, q2⟩; obtain ⟨A9, c9, rfl⟩ := Kd.R_slice q1
              refine ⟨_, rfl, ?_⟩
              have HC9 := Lib.hid (Kd.R_reads' q1).2.2
              have HD9 := Lib.hid (Kd.R_reads' q1).2.1
              replace HGd := Lib.hid (blk_below HGd.out q2)
              replace HCd := Lib.hid (Kd.C_below HCd.out q2)
              replace HSd := Lib.hid (HSd.out.below q2)
              replace HRd := Lib.hid (HRd.out.below q2)
              replace HBd := Lib.hid (below_step HBd.out q2)
              clear q1 q2
              refine hK.out _ _ ((blk_cell HGd.out 0).trans rfl) (fun hHeld => ?_)
              clear hK K
              refine norm_ (a' := ?_) ?_ ?_
              rotate_left
              · show Act.put _ (some 142) _ = _
                simp only [Act.put, List.setIfInBounds_toArray, List.set_cons_zero, List.set_cons_succ, i64_w, i32_w]
                rfl
              refine one_ (i := 6) (N := some 147) #[true, true, true, true, true, true, true, false] rfl rfl (one_of HT_.out (by kernel_rfl)) (by decide) (fun K hK => ?_)
              refine goes_ Try.func27 (by kernel_rfl) rfl #[.slice A9 L8.length c9, .slice A8 L8.length c8] (by rfl) rfl rfl (by (try simp only [List.map_toArray, List.map_cons, List.map_nil]); first | done | rfl) ?_
              refine (horariumref16_Same.calls 1000001 _ _ L8 _ _ L8 true w9 HC9.out HD9.out HCd.out HL8c.out (Same_self L8 (by have := HLN8.out; omega))).mono ?_
              rintro e w10 ⟨rfl, q1⟩
              refine ⟨_, rfl, ?_⟩
              replace HGd := Lib.hid (blk_below HGd.out q1.below)
              replace HCd := Lib.hid (Kd.C_below HCd.out q1.below)
              replace HSd := Lib.hid (HSd.out.below q1.below)
              replace HRd := Lib.hid (HRd.out.below q1.below)
              replace HBd := Lib.hid (below_step HBd.out q1.below)
              clear q1 HC9 HD9
              refine hK.out _ _ ((blk_cell HGd.out 0).trans rfl) (fun hHeld => ?_)
              clear hK K
              refine norm_ (a' := ?_) ?_ ?_
              rotate_left
              · show Act.put _ (some 147) _ = _
                simp only [Act.put, List.setIfInBounds_toArray, List.set_cons_zero, List.set_cons_succ, i64_w, i32_w]
                rfl
              refine pure_ (i := 7) (N := some 18) (v := ?_) (a' := ?_) #[true, true, true, true, true, true, true, true] rfl rfl (any_of HT_.out (by kernel_rfl)) (fun _ _ _ h => h) (Or.inl ⟨by rfl, ?_⟩) ?_ ?_
              rotate_left
              · intro w'
                go_simp
                with_reducible rfl
              rotate_left
              · simp only [Act.put, List.setIfInBounds_toArray, List.set_cons_zero, List.set_cons_succ, i64_w, i32_w]
                rfl
              refine done_ (done_of HT_.out (by kernel_rfl)) ?_
              have c10 := (blk_cell HGd.out 0).trans rfl
              replace c10 : w10.cell? ⟨hb, 0, none⟩ = some (.slice A8 L8.length c8) := c10
              go_wp2
              go_quiet (exact Calls.quiet_of_same ((len.calls gh L8 _ (HSd.out.below (pw_below_drewN (Below.refl _ _) _)).1).mono fun _ _ ⟨h1, h2⟩ => ⟨h1, h2.symm⟩))
              go_wp2
              go_roundg (l0.length - (j + 1) + 1)
              case measure => omega
              case rel => exact ⟨j + 1, L8, by go_num, by omega, by omega, by omega, HLN8, Lib.hid (HSd.out.below (pw_below_drewN (Below.refl _ _) _)), Lib.hid (HRd.out.below (pw_below_drewN (Below.refl _ _) _)), Lib.hid (pw_below_drewN HBd.out _)⟩
          | cons y R =>
            replace c0 : wr.cell? ⟨hb, 0, none⟩ = some (.slice A (R.length + 1) c) := c0
            obtain ⟨b, o, rfl, hy0⟩ := rw_one hh4
            have hRl : R.length < 899 := by have := HLL.out; simp at this; omega
            have HRL := Lib.hid hRl
            have q0 : (0 : Int) < (R.length : Int) + 1 := by omega
            have HSO := Lib.hid (List.pairwise_cons.1 HS.out.2).2
            clear hh4 hRl
            go_wp2_with (first
              | (go_at_call 23; refine (takeS gh y R _ HS.out (by have := HRL.out; omega)).mono ?_; rintro e w5 ⟨rfl, q1, q2⟩; replace HR := Lib.hid (HR.out.heap HS.out q2); replace HS := Lib.hid q1; replace HB := Lib.hid (below_own HB.out HGH.out q2); clear q1 q2)
              | (go_at_call 30; refine (rtake.calls w.heap.size hb y R _ HR.out (by have := HRL.out; omega)).mono ?_; rintro e w6 ⟨rfl, q1, q2⟩; replace HS := Lib.hid (HS.out.ref HR.out q2); replace HR := Lib.hid q1; replace HB := Lib.hid (below_own HB.out HHB.out q2); clear q1 q2)
              | (go_at_call 26; refine (minS gh y R _ HS.out).mono ?_; rintro e w5 ⟨rfl, rfl⟩)
              | (go_at_call 31; refine (changeS gh x y R _ HS.out (by have := HRL.out; omega)).mono ?_; rintro e w5 ⟨rfl, q1, q2⟩; replace HR := Lib.hid (HR.out.heap HS.out q2); replace HS := Lib.hid q1; replace HB := Lib.hid (below_own HB.out HGH.out q2); clear q1 q2)
              | (go_at_call 28; refine (dropS gh (y :: R) _ HS.out (by have := HRL.out; simp; omega)).mono ?_; rintro e w5 ⟨rfl, q1, q2⟩; have HSS := Lib.hid HS.out.2; replace HR := Lib.hid (HR.out.heap HS.out q2); replace HS := Lib.hid q1; replace HB := Lib.hid (below_own HB.out HGH.out q2); clear q1 q2)
              | (go_at_call 33; refine (rdrop.calls w.heap.size hb (y :: R) _ HR.out HSS.out HB.out.size (by have := HRL.out; simp; omega)).mono ?_; rintro e w6 ⟨rfl, q1, q2⟩; replace HS := Lib.hid (HS.out.ref HR.out q2); replace HR := Lib.hid q1; replace HB := Lib.hid (below_own HB.out HHB.out q2); clear q1 q2)
              | (go_at_call 22; refine (putS gh x (y :: R) _ HS.out (by have := HRL.out; simp; omega)).mono ?_; rintro e w5 ⟨rfl, q1, q2⟩; have HSS := Lib.hid HS.out.2; replace HR := Lib.hid (HR.out.heap HS.out q2); replace HS := Lib.hid q1; replace HB := Lib.hid (below_own HB.out HGH.out q2); clear q1 q2)
              | (go_at_call 32; (first
                | (refine (rput.calls w.heap.size hb x (y :: R) _ HR.out HSS.out HB.out.size (by have := HRL.out; simp; omega)).mono ?_; rintro e w6 ⟨rfl, q1, q2⟩; replace HS := Lib.hid (HS.out.ref HR.out q2); replace HR := Lib.hid q1; replace HB := Lib.hid (below_own HB.out HHB.out q2); clear q1 q2)
                | (refine (rput.calls w.heap.size hb x R _ HR.out HSO.out HB.out.size (by have := HRL.out; omega)).mono ?_; rintro e w6 ⟨rfl, q1, q2⟩; replace HS := Lib.hid (HS.out.ref HR.out q2); replace HR := Lib.hid q1; replace HB := Lib.hid (below_own HB.out HHB.out q2); clear q1 q2))))
            all_goals
              obtain ⟨W8, L8, hW8, HS8, HR8, HLN8⟩ := nameAll HS HR (n := j + 1) (by have h1 := HLN.out; first | (simp only [ins_len, List.length_nil, List.length_cons] at h1 ⊢; omega) | exact Nat.le_trans (List.length_filter_le _ _) (Nat.le_succ_of_le h1))
              subst hW8
              obtain ⟨A8, c8, g1, g2, g3, g4⟩ := HR8.out
              have HL8c := Lib.hid g3
              have HGd := Lib.hid (blk_drew g1)
              have HCd := Lib.hid (Kd.C_below (C_rw g4 (by have := HLN8.out; omega)) (below_drew (Below.refl _ _)))
              have HSd := Lib.hid (HS8.out.below (below_drew (Below.refl _ _)))
              have HRd := Lib.hid (HR8.out.below (below_drew (Below.refl _ _)))
              have HBd := Lib.hid (below_drew HB.out)
              clear g1 g2 g3 g4 HS HR HB HS8 HR8
              refine start_ (n := 8) (S := fun w' => w'.cell? ⟨hb, 0, none⟩ = some (.slice A8 L8.length c8)) (ds := []) #[false, false, false, false, false, false, false, false] (by kernel_rfl) rfl rfl ((blk_cell HGd.out 0).trans rfl) (fun hHeld => ?_); refine with_tabW plays.tab30 plays.bits30 (fun HT_ HW_ => ?_)
              generalize W8.drew = w8 at HGd HCd HSd HRd HBd hHeld ⊢
              refine pure_ (i := 0) (N := some 141) (v := ?_) (a' := ?_) #[true, false, false, false, false, false, false, false] rfl rfl (any_of HT_.out (by kernel_rfl)) (fun _ _ _ h => h) (Or.inl ⟨by rfl, ?_⟩) ?_ ?_
              rotate_left
              · intro w'
                go_simp
                with_reducible rfl
              rotate_left
              · simp only [Act.put, List.setIfInBounds_toArray, List.set_cons_zero, List.set_cons_succ, i64_w, i32_w]
                rfl
              refine pure_ (i := 2) (N := some 143) (v := ?_) (a' := ?_) #[true, false, true, false, false, false, false, false] rfl rfl (any_of HT_.out (by kernel_rfl)) (fun _ _ _ h => h) (Or.inl ⟨by rfl, ?_⟩) ?_ ?_
              rotate_left
              · intro w'
                go_simp
                with_reducible rfl
              rotate_left
              · simp only [Act.put, List.setIfInBounds_toArray, List.set_cons_zero, List.set_cons_succ, i64_w, i32_w]
                rfl
              refine pure_ (i := 3) (N := some 144) (v := ?_) (a' := ?_) #[true, false, true, true, false, false, false, false] rfl rfl (any_of HT_.out (by kernel_rfl)) (fun _ _ _ h => h) (Or.inl ⟨by rfl, ?_⟩) ?_ ?_
              rotate_left
              · intro w'
                go_simp
                with_reducible rfl
              rotate_left
              · simp only [Act.put, List.setIfInBounds_toArray, List.set_cons_zero, List.set_cons_succ, i64_w, i32_w]
                rfl
              refine pure_ (i := 4) (N := some 145) (v := ?_) (a' := ?_) #[true, false, true, true, true, false, false, false] rfl rfl (any_of HT_.out (by kernel_rfl)) (fun _ _ _ h => h) (Or.inl ⟨by rfl, ?_⟩) ?_ ?_
              rotate_left
              · intro w'
                go_simp
                with_reducible rfl
              rotate_left
              · simp only [Act.put, List.setIfInBounds_toArray, List.set_cons_zero, List.set_cons_succ, i64_w, i32_w]
                rfl
              refine take_ (i := 5) (N := some 146) (v := ?_) (a' := ?_) #[true, false, true, true, true, true, false, false] rfl rfl (take_ofW HT_.out HW_.out (by kernel_rfl)) (fun _ _ _ h => h) (Or.inl ⟨by rfl, ?_⟩) hHeld ?_ ?_
              rotate_left
              · rintro w' s0
                go_simp
                with_reducible rfl
              rotate_left
              · simp only [Act.put, List.setIfInBounds_toArray, List.set_cons_zero, List.set_cons_succ, i64_w, i32_w]
                rfl
              refine one_ (i := 1) (N := some 142) #[true, true, true, true, true, true, false, false] rfl rfl (one_of HT_.out (by kernel_rfl)) (by decide) (fun K hK => ?_)
              refine goes_ Try.func25 (by kernel_rfl) rfl #[.pointer (some ⟨gh, 0, none⟩)] (by rfl) rfl rfl (by (try simp only [List.map_toArray, List.map_cons, List.map_nil]); first | done | rfl) ?_
              refine (listS gh L8 w8 HSd.out (by have := HLN8.out; omega)).mono ?_
              rintro e w9 ⟨v1, rfl, q1, q2⟩; obtain ⟨A9, c9, rfl⟩ := Kd.R_slice q1
              refine ⟨_, rfl, ?_⟩
              have HC9 := Lib.hid (Kd.R_reads' q1).2.2
              have HD9 := Lib.hid (Kd.R_reads' q1).2.1
              replace HGd := Lib.hid (blk_below HGd.out q2)
              replace HCd := Lib.hid (Kd.C_below HCd.out q2)
              replace HSd := Lib.hid (HSd.out.below q2)
              replace HRd := Lib.hid (HRd.out.below q2)
              replace HBd := Lib.hid (below_step HBd.out q2)
              clear q1 q2
              refine hK.out _ _ ((blk_cell HGd.out 0).trans rfl) (fun hHeld => ?_)
              clear hK K
              refine norm_ (a' := ?_) ?_ ?_
              rotate_left
              · show Act.put _ (some 142) _ = _
                simp only [Act.put, List.setIfInBounds_toArray, List.set_cons_zero, List.set_cons_succ, i64_w, i32_w]
                rfl
              refine one_ (i := 6) (N := some 147) #[true, true, true, true, true, true, true, false] rfl rfl (one_of HT_.out (by kernel_rfl)) (by decide) (fun K hK => ?_)
              refine goes_ Try.func27 (by kernel_rfl) rfl #[.slice A9 L8.length c9, .slice A8 L8.length c8] (by rfl) rfl rfl (by (try simp only [List.map_toArray, List.map_cons, List.map_nil]); first | done | rfl) ?_
              refine (horariumref16_Same.calls 1000001 _ _ L8 _ _ L8 true w9 HC9.out HD9.out HCd.out HL8c.out (Same_self L8 (by have := HLN8.out; omega))).mono ?_
              rintro e w10 ⟨rfl, q1⟩
              refine ⟨_, rfl, ?_⟩
              replace HGd := Lib.hid (blk_below HGd.out q1.below)
              replace HCd := Lib.hid (Kd.C_below HCd.out q1.below)
              replace HSd := Lib.hid (HSd.out.below q1.below)
              replace HRd := Lib.hid (HRd.out.below q1.below)
              replace HBd := Lib.hid (below_step HBd.out q1.below)
              clear q1 HC9 HD9
              refine hK.out _ _ ((blk_cell HGd.out 0).trans rfl) (fun hHeld => ?_)
              clear hK K
              refine norm_ (a' := ?_) ?_ ?_
              rotate_left
              · show Act.put _ (some 147) _ = _
                simp only [Act.put, List.setIfInBounds_toArray, List.set_cons_zero, List.set_cons_succ, i64_w, i32_w]
                rfl
              refine pure_ (i := 7) (N := some 18) (v := ?_) (a' := ?_) #[true, true, true, true, true, true, true, true] rfl rfl (any_of HT_.out (by kernel_rfl)) (fun _ _ _ h => h) (Or.inl ⟨by rfl, ?_⟩) ?_ ?_
              rotate_left
              · intro w'
                go_simp
                with_reducible rfl
              rotate_left
              · simp only [Act.put, List.setIfInBounds_toArray, List.set_cons_zero, List.set_cons_succ, i64_w, i32_w]
                rfl
              refine done_ (done_of HT_.out (by kernel_rfl)) ?_
              have c10 := (blk_cell HGd.out 0).trans rfl
              replace c10 : w10.cell? ⟨hb, 0, none⟩ = some (.slice A8 L8.length c8) := c10
              go_wp2
              go_quiet (exact Calls.quiet_of_same ((len.calls gh L8 _ (HSd.out.below (pw_below_drewN (Below.refl _ _) _)).1).mono fun _ _ ⟨h1, h2⟩ => ⟨h1, h2.symm⟩))
              go_wp2
              go_roundg (l0.length - (j + 1) + 1)
              case measure => omega
              case rel => exact ⟨j + 1, L8, by go_num, by omega, by omega, by omega, HLN8, Lib.hid (HSd.out.below (pw_below_drewN (Below.refl _ _) _)), Lib.hid (HRd.out.below (pw_below_drewN (Below.refl _ _) _)), Lib.hid (pw_below_drewN HBd.out _)⟩
        · have a8 : ¬ (j : Int) < 80 := by omega
          go_wp2
          go_ret
          exact ⟨rfl, HB.out⟩
      · have a1 : ¬ (j : Int) < (l1.length : Int) := by omega
        go_wp2
        go_ret
        exact ⟨rfl, HB.out⟩
    · have a0 : ¬ (j : Int) < (l0.length : Int) := by omega
      go_wp2
      go_ret
      exact ⟨rfl, HB.out⟩

end Go.Proofs.Ytbkjoojfpmokaaa.PHeapPlays
