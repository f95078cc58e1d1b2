/- Plain facts on the digits of a number: which text is less, and what a 0 behind does. -/
import Derived.Laws.Strings

namespace Hm
set_option linter.unusedVariables false
set_option linter.unusedSimpArgs false
/-- The digits, the last one first, as bytes' numbers. -/
def rdig (n : Nat) : List Int := if n < 10 then [((48 + n : Nat) : Int)] else ((48 + n % 10 : Nat) : Int) :: rdig (n / 10)
termination_by n
decreasing_by omega
/-- The digits, the first one first, as bytes. -/
def dgs (n : Nat) : List UInt8 := if n < 10 then [UInt8.ofNat (48 + n)] else dgs (n / 10) ++ [UInt8.ofNat (48 + n % 10)]
termination_by n
decreasing_by omega
theorem rdig_lo {n : Nat} (h : n < 10) : rdig n = [((48 + n : Nat) : Int)] := by rw [rdig, if_pos h]
theorem rdig_hi {n : Nat} (h : ¬ n < 10) : rdig n = ((48 + n % 10 : Nat) : Int) :: rdig (n / 10) := by rw [rdig, if_neg h]
theorem dgs_lo {n : Nat} (h : n < 10) : dgs n = [UInt8.ofNat (48 + n)] := by rw [dgs, if_pos h]
theorem dgs_hi {n : Nat} (h : ¬ n < 10) : dgs n = dgs (n / 10) ++ [UInt8.ofNat (48 + n % 10)] := by rw [dgs, if_neg h]
theorem rdig_rev (n : Nat) : (rdig n).reverse.map (fun x => UInt8.ofNat x.toNat) = dgs n := by
  induction n using Nat.strongRecOn with
  | _ n ih =>
    by_cases h : n < 10
    · rw [rdig_lo h, dgs_lo h]; rfl
    · rw [rdig_hi h, dgs_hi h, List.reverse_cons, List.map_append, ih (n / 10) (by omega)]; rfl
theorem rdig_len {m : Nat} : ∀ {n : Nat}, n < 10 ^ m → 1 ≤ m → (rdig n).length ≤ m := by
  induction m with
  | zero => intro n _ h; omega
  | succ m ih =>
    intro n hn _
    by_cases h : n < 10
    · rw [rdig_lo h]; simp
    · rw [rdig_hi h, List.length_cons]
      have : n / 10 < 10 ^ m := by rw [Nat.pow_succ] at hn; omega
      have hm : 1 ≤ m := by
        by_cases h1 : m = 0
        · subst h1; simp at hn; omega
        · omega
      have := ih this hm
      omega
theorem dgs_ne (n : Nat) : 1 ≤ (dgs n).length := by
  by_cases h : n < 10
  · rw [dgs_lo h]; simp
  · rw [dgs_hi h]; simp
theorem byte_lt {a b : Nat} (ha : a < 10) (hb : b < 10) : (UInt8.ofNat (48 + a) < UInt8.ofNat (48 + b)) ↔ a < b := by
  have e : ∀ x : Nat, x < 10 → (UInt8.ofNat (48 + x)).toNat = 48 + x := fun x hx => by simp; omega
  rw [UInt8.lt_iff_toNat_lt, e a ha, e b hb]; omega
theorem byte_eq {a b : Nat} (ha : a < 10) (hb : b < 10) : (UInt8.ofNat (48 + a) = UInt8.ofNat (48 + b)) ↔ a = b := by
  have e : ∀ x : Nat, x < 10 → (UInt8.ofNat (48 + x)).toNat = 48 + x := fun x hx => by simp; omega
  constructor
  · intro h; have := congrArg UInt8.toNat h; rw [e a ha, e b hb] at this; omega
  · rintro rfl; rfl
theorem less_snoc (c d : UInt8) : ∀ (x y : List UInt8), x.length = y.length → (Go.Op.bytesLess (x ++ [c]) (y ++ [d]) = true ↔ Go.Op.bytesLess x y = true ∨ x = y ∧ c < d)
  | [], [], _ => by simp [Go.Op.bytesLess]
  | [], _ :: _, h => by simp at h
  | _ :: _, [], h => by simp at h
  | a :: x, b :: y, h => by
    have ih := less_snoc c d x y (by simpa using h)
    simp only [List.cons_append, Go.Op.bytesLess, Bool.or_eq_true, Bool.and_eq_true, decide_eq_true_eq, beq_iff_eq, ih, List.cons.injEq]
    constructor
    · rintro (h1 | ⟨h1, h2 | h2⟩)
      · exact Or.inl (Or.inl h1)
      · exact Or.inl (Or.inr ⟨h1, h2⟩)
      · exact Or.inr ⟨⟨h1, h2.1⟩, h2.2⟩
    · rintro ((h1 | h1) | h1)
      · exact Or.inl h1
      · exact Or.inr ⟨h1.1, Or.inl h1.2⟩
      · exact Or.inr ⟨h1.1.1, Or.inr ⟨h1.1.2, h1.2⟩⟩
theorem snoc_inj {x y : List UInt8} {c d : UInt8} : x ++ [c] = y ++ [d] ↔ x = y ∧ c = d := by
  constructor
  · intro h; have := List.append_inj' h rfl; exact ⟨this.1, by simpa using this.2⟩
  · rintro ⟨rfl, rfl⟩; rfl
theorem dgs_order (a : Nat) : ∀ b : Nat, (a < b ↔ (dgs a).length < (dgs b).length ∨ (dgs a).length = (dgs b).length ∧ Go.Op.bytesLess (dgs a) (dgs b) = true) ∧ (dgs a = dgs b ↔ a = b) := by
  induction a using Nat.strongRecOn with
  | _ a ih =>
    intro b
    by_cases ha : a < 10
    · by_cases hb : b < 10
      · rw [dgs_lo ha, dgs_lo hb]
        simp only [Go.Op.bytesLess, List.length_singleton, Nat.lt_irrefl, false_or, true_and, Bool.and_false, Bool.or_false, decide_eq_true_eq, List.cons.injEq, and_true]
        exact ⟨(byte_lt ha hb).symm, byte_eq ha hb⟩
      · rw [dgs_lo ha, dgs_hi hb]
        have := dgs_ne (b / 10)
        simp only [List.length_singleton, List.length_append]
        refine ⟨⟨fun _ => Or.inl (by omega), fun _ => by omega⟩, ⟨fun h => ?_, fun h => by omega⟩⟩
        have h9 := congrArg List.length h
        simp only [List.length_append, List.length_singleton] at h9; omega
    · by_cases hb : b < 10
      · rw [dgs_hi ha, dgs_lo hb]
        have := dgs_ne (a / 10)
        simp only [List.length_singleton, List.length_append]
        refine ⟨⟨fun h => by omega, fun h => by omega⟩, ⟨fun h => ?_, fun h => by omega⟩⟩
        have h9 := congrArg List.length h
        simp only [List.length_append, List.length_singleton] at h9; omega
      · obtain ⟨i1, i2⟩ := ih (a / 10) (by omega) (b / 10)
        rw [dgs_hi ha, dgs_hi hb]
        simp only [List.length_append, List.length_singleton]
        refine ⟨?_, ?_⟩
        · by_cases hl : (dgs (a / 10)).length = (dgs (b / 10)).length
          · rw [less_snoc _ _ _ _ hl, byte_lt (Nat.mod_lt _ (by omega)) (Nat.mod_lt _ (by omega)), i2]
            have i1' : a / 10 < b / 10 ↔ Go.Op.bytesLess (dgs (a / 10)) (dgs (b / 10)) = true := by rw [i1]; simp [hl]
            rw [← i1']
            omega
          · have i1' : a / 10 < b / 10 ↔ (dgs (a / 10)).length < (dgs (b / 10)).length := by rw [i1]; simp [hl]
            have : ¬ a / 10 = b / 10 := fun h => hl (by rw [h])
            omega
        · rw [snoc_inj, i2, byte_eq (Nat.mod_lt _ (by omega)) (Nat.mod_lt _ (by omega))]; omega
theorem dgs_ten {a : Nat} (h : 0 < a) : dgs (a * 10) = dgs a ++ [48] := by
  rw [dgs_hi (show ¬ a * 10 < 10 by omega), show a * 10 / 10 = a by omega, show a * 10 % 10 = 0 by omega]; rfl
end Hm
