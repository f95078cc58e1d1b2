/- DemandFirst, the plain part: the first time of too much work is one, and no time ahead of it is. -/
import Derived.Test.YtaifojmlbbaabaaPDemandFirstx3
import Derived.Test.YtaifojmlbbaabaaMRangeX
import Derived.Test.YtaifojmlbbaabaaMDem
import Derived.Test.YtaifojmlbbaabaaMDead
import Derived.Test.YtaifojmlbbaabaaMDead2

namespace Go.Proofs.Ytaifojmlbbaabaa.Pure
open Go.RowKit Go.Proofs.Ytaifojmlbbaabaa.PDemandFirst Go.Proofs.YtaifojmlbbaabaaW.PrintWords Go.Proofs.YtaifojmlbbaabaaW.PrintLast Go.Proofs.YtaifojmlbbaabaaW.PrintMore
set_option linter.unusedVariables false
set_option linter.unusedSimpArgs false

theorem nextV_cases {l : List S28} {y : Int} (hok : okL l) (hne : l ≠ []) (h0 : 0 ≤ y) (h1 : y ≤ 1099511627776) : nextV l y = if Hm.next (l.map tk) y > 1099511627776 then (0, false) else (Hm.next (l.map tk) y, true) := by
  have hm : mayB l y = true := mayB_ok.2 ⟨hok, h0, h1⟩
  have he : l.isEmpty = false := by simpa using hne
  unfold nextV
  by_cases hg : Hm.next (l.map tk) y > 1099511627776
  · simp [hm, he, hg]
  · simp [hm, he, hg]
theorem ofV_yes {l : List S28} {y : Int} (hok : okL l) (h0 : 0 ≤ y) (h1 : y ≤ 1099511627776) : ofV l y = Hm.of (l.map tk) y := by
  unfold ofV; rw [if_pos (mayB_ok.2 ⟨hok, h0, h1⟩)]
theorem first_spec {l : List S28} (hok : okL l) (hne : l ≠ []) {most : Int} (hm : most ≤ 1099511627776) : ∀ (c : Nat) (y : Int), 0 ≤ y → (most - y).toNat ≤ c → Hm.of (l.map tk) y ≤ y →
    (firstL l (pointsL l most c (nextV l y)) = 0 ∧ ∀ t, y < t → t ≤ most → Hm.of (l.map tk) t ≤ t) ∨
    (y < firstL l (pointsL l most c (nextV l y)) ∧ firstL l (pointsL l most c (nextV l y)) ≤ most ∧ firstL l (pointsL l most c (nextV l y)) < Hm.of (l.map tk) (firstL l (pointsL l most c (nextV l y))) ∧ ∀ t, y < t → t < firstL l (pointsL l most c (nextV l y)) → Hm.of (l.map tk) t ≤ t) := by
  intro c
  have hne' : l.map tk ≠ [] := by simpa using hne
  induction c with
  | zero =>
    intro y h0 hc hy
    exact Or.inl ⟨rfl, fun t h1 h2 => by omega⟩
  | succ c ih =>
    intro y h0 hc hy
    by_cases hym : y < most
    · rw [nextV_cases hok hne h0 (by omega)]
      have hgt := Hm.next_gt hne' (okL_map hok) y
      have hconst : ∀ t, y < t → t < Hm.next (l.map tk) y → Hm.of (l.map tk) t ≤ t := fun t h1 h2 => by
        have := Hm.of_const (okL_map hok) (show y ≤ t by omega) h2; omega
      generalize Hm.next (l.map tk) y = x at hgt hconst ⊢
      by_cases hg : x > 1099511627776
      · rw [if_pos hg]
        exact Or.inl ⟨rfl, fun t h1 h2 => hconst t h1 (by omega)⟩
      · rw [if_neg hg]
        by_cases hx : x ≤ most
        · have e : pointsL l most (c + 1) (x, true) = x :: pointsL l most c (nextV l x) := by simp [pointsL, hx]
          rw [e]
          by_cases ho : ofV l x > x
          · have e2 : firstL l (x :: pointsL l most c (nextV l x)) = x := by show (if ofV l x > x then x else _) = x; rw [if_pos ho]
            rw [e2]
            rw [ofV_yes hok (by omega) (by omega)] at ho
            exact Or.inr ⟨hgt, hx, ho, hconst⟩
          · have e2 : firstL l (x :: pointsL l most c (nextV l x)) = firstL l (pointsL l most c (nextV l x)) := by show (if ofV l x > x then x else _) = _; rw [if_neg ho]
            rw [e2]
            rw [ofV_yes hok (by omega) (by omega)] at ho
            have hall : ∀ t, y < t → t ≤ x → Hm.of (l.map tk) t ≤ t := fun t h1 h2 => by
              by_cases e : t = x
              · rw [e]; omega
              · exact hconst t h1 (by omega)
            rcases ih x (by omega) (by omega) (by omega) with ⟨g1, g2⟩ | ⟨g1, g2, g3, g4⟩
            · exact Or.inl ⟨g1, fun t h1 h2 => by
                by_cases h3 : t ≤ x
                · exact hall t h1 h3
                · exact g2 t (by omega) h2⟩
            · exact Or.inr ⟨by omega, g2, g3, fun t h1 h2 => by
                by_cases h3 : t ≤ x
                · exact hall t h1 h3
                · exact g4 t (by omega) h2⟩
        · have e : pointsL l most (c + 1) (x, true) = [] := by simp [pointsL, hx]
          rw [e]
          exact Or.inl ⟨rfl, fun t h1 h2 => hconst t h1 (by omega)⟩
    · have e : pointsL l most (c + 1) (nextV l y) = [] := by
        by_cases hy2 : y ≤ 1099511627776
        · rw [nextV_cases hok hne h0 hy2]
          have hgt := Hm.next_gt hne' (okL_map hok) y
          split
          · rfl
          · have : ¬ Hm.next (l.map tk) y ≤ most := by omega
            simp [pointsL, this]
        · have : mayB l y = false := Bool.eq_false_iff.2 (fun h => by have := (mayB_ok.1 h).2.2; omega)
          simp [nextV, this, pointsL]
      rw [e]
      exact Or.inl ⟨rfl, fun t h1 h2 => by omega⟩

/-- Tasks by numbers. -/
def MadeP (r : List S28) : Prop := ∀ i (h : i < r.length), (r[i]).f0 = (i : Int) ∧ 1 ≤ (r[i]).f1 ∧ (r[i]).f1 ≤ (r[i]).f2 ∧ (r[i]).f2 ≤ (r[i]).f3 ∧ (r[i]).f3 ≤ 24 ∧ (r[i]).f4 = 1
theorem mod_rng (a : Int) {m : Int} (h : 1 ≤ m) (hm : m ≤ 24) : 1 ≤ wrap64 (1 + Int.tmod (wrap64 (Int.tmod a m + m)) m) ∧ wrap64 (1 + Int.tmod (wrap64 (Int.tmod a m + m)) m) ≤ m := by
  have h1 : -m < Int.tmod a m ∧ Int.tmod a m < m := by
    rcases Int.le_total 0 a with ha | ha
    · have h2 := Int.tmod_lt_of_pos a (show 0 < m by omega); have h3 := Int.tmod_nonneg m ha; omega
    · have h2 := Int.tmod_lt_of_pos (-a) (show 0 < m by omega); have h3 := Int.tmod_nonneg m (show 0 ≤ -a by omega)
      rw [Int.neg_tmod] at h2 h3; omega
  rw [w64 (n := Int.tmod a m + m) (by omega) (by omega)]
  have h4 := Int.tmod_lt_of_pos (Int.tmod a m + m) (show 0 < m by omega); have h5 := Int.tmod_nonneg m (show 0 ≤ Int.tmod a m + m by omega)
  rw [w64 (by omega) (by omega)]; omega
theorem made_loop (l : List S31) (d : Nat) : ∀ (k i : Nat) (r : List S28), i + d = min l.length 8 → d < k → r.length = i → MadeP r →
    ∃ r', horariumlaw10_made.l0 k l r (i : Int) = some r' ∧ r'.length = min l.length 8 ∧ MadeP r' := by
  induction d with
  | zero =>
    intro k i r hd hk hr hm
    obtain ⟨k, rfl⟩ := some_k hk
    refine ⟨r, ?_, by omega, hm⟩
    simp only [horariumlaw10_made.l0]
    by_cases h : (i : Int) < (l.length : Int)
    · rw [if_pos h, if_neg (by omega)]
    · rw [if_neg h]
  | succ d ih =>
    intro k i r hd hk hr hm
    obtain ⟨k, rfl⟩ := some_k (show 0 < k by omega)
    simp only [horariumlaw10_made.l0]
    rw [if_pos (by omega), if_pos (by omega), if_pos (by omega)]
    have hT := mod_rng (rd_T31 l (i : Int)).f2 (m := 24) (by omega) (by omega)
    generalize wrap64 (1 + Int.tmod (wrap64 (Int.tmod (rd_T31 l (i : Int)).f2 24 + 24)) 24) = T at hT ⊢
    rw [if_neg (by omega)]
    have hD := mod_rng (rd_T31 l (i : Int)).f1 (m := T) (by omega) (by omega)
    generalize wrap64 (1 + Int.tmod (wrap64 (Int.tmod (rd_T31 l (i : Int)).f1 T + T)) T) = D at hD ⊢
    rw [if_neg (by omega), if_pos (by omega)]
    have hC := mod_rng (rd_T31 l (i : Int)).f0 (m := D) (by omega) (by omega)
    generalize wrap64 (1 + Int.tmod (wrap64 (Int.tmod (rd_T31 l (i : Int)).f0 D + D)) D) = C at hC ⊢
    rw [w64 (n := (i : Int) + 1) (by omega) (by omega)]
    have e : ((i : Int) + 1) = ((i + 1 : Nat) : Int) := by omega
    rw [e]
    refine ih k (i + 1) _ (by omega) (by omega) (by simp [hr]) ?_
    intro j hj
    by_cases h : j < r.length
    · rw [List.getElem_append_left h]; exact hm j h
    · have hj2 : j = r.length := by simp at hj; omega
      subst hj2
      rw [List.getElem_append_right (by omega)]
      simp only [Nat.sub_self, List.getElem_cons_zero]
      exact ⟨by omega, by omega, by omega, by omega, by omega, trivial⟩
theorem made_is (l : List S31) (k : Nat) (hk : 8 < k) : ∃ r, horariumlaw10_made.f k l = some r ∧ r.length = min l.length 8 ∧ MadeP r := by
  unfold horariumlaw10_made.f
  exact made_loop l (min l.length 8) k 0 [] (by omega) (by omega) rfl (fun i h => by simp at h)
theorem MadeP.okL {r : List S28} (h : MadeP r) (hl : r.length ≤ 16) : okL r := by
  refine ⟨hl, fun s hs => ?_⟩
  obtain ⟨i, hi, rfl⟩ := List.getElem_of_mem hs
  have := h i hi
  unfold Hm.Tk.ok tk
  simp only
  omega
theorem rd_at {r : List S28} {i : Nat} (hi : i < r.length) : rd_T28 r (i : Int) = r[i] := by
  simp [rd_T28, hi]

theorem awake_is : ∀ k, 20 ≤ k → horariumlaw10_awake.f k = some true := by
  have h : horariumlaw10_awake.f 20 = some true := by decide +kernel
  intro k hk
  exact at_rounds (horariumlaw10_awake.mono) hk h

theorem law_none {r : List S28} (hok : okL r) {v : Int} (h : ∀ t, 0 < t → t ≤ 400 → Hm.of (r.map tk) t ≤ t) (d : Nat) : ∀ (k : Nat) (x : Int), 1 ≤ x → x + d = 401 → d + d + 40 < k → horariumlaw10_DemandFirst.l0 k true r v false x = some true := by
  induction d with
  | zero =>
    intro k x h1 hd hk
    obtain ⟨k, rfl⟩ := some_k (show 0 < k by omega)
    simp only [horariumlaw10_DemandFirst.l0]
    rw [if_neg (by omega)]; rfl
  | succ d ih =>
    intro k x h1 hd hk
    obtain ⟨k, rfl⟩ := some_k (show 0 < k by omega)
    obtain ⟨k, rfl⟩ := some_k (show 0 < k by omega)
    have := h x (by omega) (by omega)
    simp only [horariumlaw10_DemandFirst.l0]
    rw [if_pos (by omega)]
    simp only [Bool.false_eq_true, if_false, horariumlaw10_DemandFirst.j1]
    rw [Of_all k r x (by omega), ofV_yes hok (by omega) (by omega)]
    simp only [Option.bind_some]
    rw [if_neg (by omega), w64 (by omega) (by omega)]
    exact ih k (x + 1) (by omega) (by omega) (by omega)
theorem law_some {r : List S28} (hok : okL r) {v : Int} (hv : v ≤ 400) (hw : v < Hm.of (r.map tk) v) (h : ∀ t, 0 < t → t < v → Hm.of (r.map tk) t ≤ t) (d : Nat) : ∀ (k : Nat) (x : Int), 1 ≤ x → x + d = v → d + d + 40 < k → horariumlaw10_DemandFirst.l0 k true r v true x = some true := by
  induction d with
  | zero =>
    intro k x h1 hd hk
    obtain ⟨k, rfl⟩ := some_k (show 0 < k by omega)
    obtain ⟨k, rfl⟩ := some_k (show 0 < k by omega)
    have e : x = v := by omega
    subst e
    simp only [horariumlaw10_DemandFirst.l0]
    rw [if_pos (by omega)]
    simp only [if_true, horariumlaw10_DemandFirst.j1, beq_self_eq_true]
    rw [Of_all k r x (by omega), ofV_yes hok (by omega) (by omega)]
    simp [hw]
  | succ d ih =>
    intro k x h1 hd hk
    obtain ⟨k, rfl⟩ := some_k (show 0 < k by omega)
    obtain ⟨k, rfl⟩ := some_k (show 0 < k by omega)
    have := h x (by omega) (by omega)
    have hne : (x == v) = false := by rw [beq_eq_false_iff_ne]; omega
    simp only [horariumlaw10_DemandFirst.l0]
    rw [if_pos (by omega)]
    simp only [if_true, horariumlaw10_DemandFirst.j1, hne, Bool.false_eq_true, if_false]
    rw [Of_all k r x (by omega), ofV_yes hok (by omega) (by omega)]
    simp only [Option.bind_some]
    rw [if_neg (by omega), w64 (by omega) (by omega)]
    exact ih k (x + 1) (by omega) (by omega) (by omega)
theorem DemandFirst : horariumlaw10_DemandFirst.Pure := by
  intro l _ _
  obtain ⟨r, hr, hl, hm⟩ := made_is l 2000 (by omega)
  have hok := hm.okL (by omega)
  refine ⟨2000, ?_⟩
  unfold horariumlaw10_DemandFirst.f
  rw [awake_is 2000 (by omega), hr]
  simp only [Option.bind_some]
  unfold demand_First.f
  rw [if_pos (mayB_ok.2 ⟨hok, by omega, by omega⟩)]
  simp only [Option.bind_some]
  by_cases hne : r = []
  · subst hne
    have e : firstL [] (pointsL [] 400 4096 (nextV [] 0)) = 0 := by
      have : nextV [] 0 = (0, false) := by simp [nextV]
      rw [this]; rfl
    rw [e]
    exact law_none hok (fun t h1 h2 => by simp [Hm.of]; omega) 400 2000 1 (by omega) (by omega) (by omega)
  · have hof0 : Hm.of (r.map tk) 0 ≤ 0 := by
      have h := Hm.next_gt (l := r.map tk) (by simpa using hne) (okL_map hok) 0
      exact Int.le_of_eq (Hm.of_zero (okL_map hok))
    rcases first_spec hok hne (most := 400) (by omega) 4096 0 (by omega) (by decide) hof0 with ⟨g1, g2⟩ | ⟨g1, g2, g3, g4⟩
    · rw [g1]
      exact law_none hok g2 400 2000 1 (by omega) (by omega) (by omega)
    · generalize firstL r (pointsL r 400 4096 (nextV r 0)) = v at g1 g2 g3 g4
      rw [decide_eq_true (show v > 0 from g1)]
      exact law_some hok g2 g3 g4 (v - 1).toNat 2000 1 (by omega) (by omega) (by omega)
end Go.Proofs.Ytaifojmlbbaabaa.Pure
