/-
  No cell of these rows narrows 'for every input' (looked for: loops, veiled, ifaces, maps, wideKeys, modest, calm, conditions, laid).
  DERIVED. THE GIVEN ROWS OF THIS SEAT. 7 by the template 'for every input the law returns true; each argument reads behind the call as it read before'; 0 by the template 'total and deterministic' (their statements: YthkagoomlmgcdaaTotals.lean).
  GIVEN WITH THE SEED: the statements are not yours to turn. If you find one false, say at which input.
  Laid BY PROGRAM, IN A SANDBOX (cutbox-rows.mjs): the forced cells as the released guide's own fill.sh prints them over the translation 22610edd048e8530… (all of the seat's roots in one cut). By AI agents, Wed Nov 11 2026. No macro, syntax, notation, axiom, sorry.
-/
import Derived.Test.YthkagoomlmgcdaaChecked
import GoSem.Claim
import GoSem.ClaimJoined
import GoSem.ClaimMapViews
import Derived.JoinedTies
import Derived.KernelRfl
namespace Go.Proofs.Ythkagoomlmgcdaa
/- THE CELL 'sum', in the pinned program and in every row, IS THE sha256 OF THE DUMP (.gsa) THAT YthkagoomlmgcdaaProg.lean LOADS. Nothing in Lean hashes anything: it is a label: what it is worth is what the hold of that sum in a sandbox is worth. -/
noncomputable def Try.pinned : Pinned := { name := "ythkagoomlmgcdaa", sum := "22610edd048e85305a79172d6e8d102e5150bfb431a6c090e7db45432d81dce1", checked := Try.checked }
namespace Rows
def none {H : Type} : Left H := { results := [], args := [] }

/-- 'horariumlaw24.PlanWorks': WHATEVER THE INPUT: true; the input reads as it did. -/
def planWorksSpec : ChangeSpec := { name := "planWorks", fn := fun _ => fun
  | [d] => { results := [.lit (.bool true)], args := [d] }
  | _ => none }
def planWorksRow : OpenClaim := { program := "ythkagoomlmgcdaa", sum := "22610edd048e85305a79172d6e8d102e5150bfb431a6c090e7db45432d81dce1", func := "horarium/horariumlaw24.PlanWorks", spec := "planWorks", unfollowed := true, recurses := true, apart := false }
def PlanWorksSaid : Prop := planWorksRow.holds Try.pinned (OpenSpec.ofChange planWorksSpec)

/-- ITS FALSE NEIGHBOUR: 'it returns false'. Refute it at one input. -/
def planWorksWrong : ChangeSpec := { name := "planWorks", fn := fun _ => fun
  | [d] => { results := [.lit (.bool false)], args := [d] }
  | _ => none }
def PlanWorksWrongFalsely : Prop := planWorksRow.holds Try.pinned (OpenSpec.ofChange planWorksWrong)

/-- 'horariumlaw24.PlanRefuses': WHATEVER THE INPUT: true; the input reads as it did. -/
def planRefusesSpec : ChangeSpec := { name := "planRefuses", fn := fun _ => fun
  | [d] => { results := [.lit (.bool true)], args := [d] }
  | _ => none }
def planRefusesRow : OpenClaim := { program := "ythkagoomlmgcdaa", sum := "22610edd048e85305a79172d6e8d102e5150bfb431a6c090e7db45432d81dce1", func := "horarium/horariumlaw24.PlanRefuses", spec := "planRefuses", unfollowed := true, recurses := true, apart := false }
def PlanRefusesSaid : Prop := planRefusesRow.holds Try.pinned (OpenSpec.ofChange planRefusesSpec)

/-- ITS FALSE NEIGHBOUR: 'it returns false'. Refute it at one input. -/
def planRefusesWrong : ChangeSpec := { name := "planRefuses", fn := fun _ => fun
  | [d] => { results := [.lit (.bool false)], args := [d] }
  | _ => none }
def PlanRefusesWrongFalsely : Prop := planRefusesRow.holds Try.pinned (OpenSpec.ofChange planRefusesWrong)

/-- 'horariumlaw24.PlanTurns': WHATEVER THE INPUT: true; the input reads as it did. -/
def planTurnsSpec : ChangeSpec := { name := "planTurns", fn := fun _ => fun
  | [d] => { results := [.lit (.bool true)], args := [d] }
  | _ => none }
def planTurnsRow : OpenClaim := { program := "ythkagoomlmgcdaa", sum := "22610edd048e85305a79172d6e8d102e5150bfb431a6c090e7db45432d81dce1", func := "horarium/horariumlaw24.PlanTurns", spec := "planTurns", unfollowed := true, recurses := true, apart := false }
def PlanTurnsSaid : Prop := planTurnsRow.holds Try.pinned (OpenSpec.ofChange planTurnsSpec)

/-- ITS FALSE NEIGHBOUR: 'it returns false'. Refute it at one input. -/
def planTurnsWrong : ChangeSpec := { name := "planTurns", fn := fun _ => fun
  | [d] => { results := [.lit (.bool false)], args := [d] }
  | _ => none }
def PlanTurnsWrongFalsely : Prop := planTurnsRow.holds Try.pinned (OpenSpec.ofChange planTurnsWrong)

/-- 'horariumlaw24.PlanPart': WHATEVER THE INPUT: true; the input reads as it did. -/
def planPartSpec : ChangeSpec := { name := "planPart", fn := fun _ => fun
  | [d1, d2, d3] => { results := [.lit (.bool true)], args := [d1, d2, d3] }
  | _ => none }
def planPartRow : OpenClaim := { program := "ythkagoomlmgcdaa", sum := "22610edd048e85305a79172d6e8d102e5150bfb431a6c090e7db45432d81dce1", func := "horarium/horariumlaw24.PlanPart", spec := "planPart", unfollowed := true, recurses := true, apart := false }
def PlanPartSaid : Prop := planPartRow.holds Try.pinned (OpenSpec.ofChange planPartSpec)

/-- ITS FALSE NEIGHBOUR: 'it returns false'. Refute it at one input. -/
def planPartWrong : ChangeSpec := { name := "planPart", fn := fun _ => fun
  | [d1, d2, d3] => { results := [.lit (.bool false)], args := [d1, d2, d3] }
  | _ => none }
def PlanPartWrongFalsely : Prop := planPartRow.holds Try.pinned (OpenSpec.ofChange planPartWrong)

/-- 'horariumlaw15.JudgeFits': WHATEVER THE INPUT: true; the input reads as it did. -/
def judgeFitsSpec : ChangeSpec := { name := "judgeFits", fn := fun _ => fun
  | [d] => { results := [.lit (.bool true)], args := [d] }
  | _ => none }
def judgeFitsRow : OpenClaim := { program := "ythkagoomlmgcdaa", sum := "22610edd048e85305a79172d6e8d102e5150bfb431a6c090e7db45432d81dce1", func := "horarium/horariumlaw15.JudgeFits", spec := "judgeFits", unfollowed := true, recurses := true, apart := false }
def JudgeFitsSaid : Prop := judgeFitsRow.holds Try.pinned (OpenSpec.ofChange judgeFitsSpec)

/-- ITS FALSE NEIGHBOUR: 'it returns false'. Refute it at one input. -/
def judgeFitsWrong : ChangeSpec := { name := "judgeFits", fn := fun _ => fun
  | [d] => { results := [.lit (.bool false)], args := [d] }
  | _ => none }
def JudgeFitsWrongFalsely : Prop := judgeFitsRow.holds Try.pinned (OpenSpec.ofChange judgeFitsWrong)

/-- 'horariumlaw15.JudgeLess': WHATEVER THE INPUT: true; the input reads as it did. -/
def judgeLessSpec : ChangeSpec := { name := "judgeLess", fn := fun _ => fun
  | [d1, d2, d3] => { results := [.lit (.bool true)], args := [d1, d2, d3] }
  | _ => none }
def judgeLessRow : OpenClaim := { program := "ythkagoomlmgcdaa", sum := "22610edd048e85305a79172d6e8d102e5150bfb431a6c090e7db45432d81dce1", func := "horarium/horariumlaw15.JudgeLess", spec := "judgeLess", unfollowed := true, recurses := true, apart := false }
def JudgeLessSaid : Prop := judgeLessRow.holds Try.pinned (OpenSpec.ofChange judgeLessSpec)

/-- ITS FALSE NEIGHBOUR: 'it returns false'. Refute it at one input. -/
def judgeLessWrong : ChangeSpec := { name := "judgeLess", fn := fun _ => fun
  | [d1, d2, d3] => { results := [.lit (.bool false)], args := [d1, d2, d3] }
  | _ => none }
def JudgeLessWrongFalsely : Prop := judgeLessRow.holds Try.pinned (OpenSpec.ofChange judgeLessWrong)

/-- 'horariumlaw24.PlanMeets': WHATEVER THE INPUT: true; the input reads as it did. -/
def planMeetsSpec : ChangeSpec := { name := "planMeets", fn := fun _ => fun
  | [d] => { results := [.lit (.bool true)], args := [d] }
  | _ => none }
def planMeetsRow : OpenClaim := { program := "ythkagoomlmgcdaa", sum := "22610edd048e85305a79172d6e8d102e5150bfb431a6c090e7db45432d81dce1", func := "horarium/horariumlaw24.PlanMeets", spec := "planMeets", unfollowed := true, recurses := true, apart := false }
def PlanMeetsSaid : Prop := planMeetsRow.holds Try.pinned (OpenSpec.ofChange planMeetsSpec)

/-- ITS FALSE NEIGHBOUR: 'it returns false'. Refute it at one input. -/
def planMeetsWrong : ChangeSpec := { name := "planMeets", fn := fun _ => fun
  | [d] => { results := [.lit (.bool false)], args := [d] }
  | _ => none }
def PlanMeetsWrongFalsely : Prop := planMeetsRow.holds Try.pinned (OpenSpec.ofChange planMeetsWrong)

/- THE SECOND FORM. 'bulk': how many values and letters a reading holds, each counted each time it is reached (what is shared counts as often as it is met; a slice's spare places count too). A statement '..UptoSaid' is the law's where the arguments, and the package variables that the reading takes, are together of bulk at most 1048576: NARROWER than '..Said'. Prove '..Said' where nothing that the law and all that it calls make is longer than what came in: it says more and counts as full. Else prove '..UptoSaid'. A law counts once. -/
mutual
def uptoBulk {H : Type} : DataW H → Nat
  | .lit (.string bytes) => bytes.length + 1
  | .lit _ => 1
  | .nil => 1
  | .ptr d => uptoBulk d + 1
  | .slice elems spare => uptoBulkAll elems + uptoBulkAll spare + 1
  | .agg parts => uptoBulkAll parts + 1
  | .iface _ d => uptoBulk d + 1
  | .map entries => uptoBulkEntries entries + 1
  | .held _ => 1
def uptoBulkAll {H : Type} : List (DataW H) → Nat
  | [] => 0
  | d :: r => uptoBulk d + uptoBulkAll r
def uptoBulkEntries {H : Type} : List (Lit × DataW H) → Nat
  | [] => 0
  | x :: r => uptoBulkEntry x + uptoBulkEntries r
def uptoBulkEntry {H : Type} : Lit × DataW H → Nat
  | (.string bytes, d) => bytes.length + uptoBulk d + 1
  | (_, d) => uptoBulk d + 1
 end
def uptoSmall : (H : Type) → List (DataW H) → Bool := fun _ ds => decide (uptoBulkAll ds ≤ 1048576)
def OpenSpec.upto (s : _root_.Go.ChangeSpec) : _root_.Go.OpenSpec := { _root_.Go.OpenSpec.ofChange s with cond := some uptoSmall }

/-- 'horariumlaw24.PlanWorks', WHERE WHAT IT READS IS OF BULK AT MOST 1048576: true; the input reads as it did. -/
def planWorksUptoRow : OpenClaim := { program := "ythkagoomlmgcdaa", sum := "22610edd048e85305a79172d6e8d102e5150bfb431a6c090e7db45432d81dce1", func := "horarium/horariumlaw24.PlanWorks", spec := "planWorks", unfollowed := true, recurses := true, apart := false, narrowed := true }
def PlanWorksUptoSaid : Prop := planWorksUptoRow.holds Try.pinned (OpenSpec.upto planWorksSpec)

/-- 'horariumlaw24.PlanRefuses', WHERE WHAT IT READS IS OF BULK AT MOST 1048576: true; the input reads as it did. -/
def planRefusesUptoRow : OpenClaim := { program := "ythkagoomlmgcdaa", sum := "22610edd048e85305a79172d6e8d102e5150bfb431a6c090e7db45432d81dce1", func := "horarium/horariumlaw24.PlanRefuses", spec := "planRefuses", unfollowed := true, recurses := true, apart := false, narrowed := true }
def PlanRefusesUptoSaid : Prop := planRefusesUptoRow.holds Try.pinned (OpenSpec.upto planRefusesSpec)

/-- 'horariumlaw24.PlanTurns', WHERE WHAT IT READS IS OF BULK AT MOST 1048576: true; the input reads as it did. -/
def planTurnsUptoRow : OpenClaim := { program := "ythkagoomlmgcdaa", sum := "22610edd048e85305a79172d6e8d102e5150bfb431a6c090e7db45432d81dce1", func := "horarium/horariumlaw24.PlanTurns", spec := "planTurns", unfollowed := true, recurses := true, apart := false, narrowed := true }
def PlanTurnsUptoSaid : Prop := planTurnsUptoRow.holds Try.pinned (OpenSpec.upto planTurnsSpec)

/-- 'horariumlaw24.PlanPart', WHERE WHAT IT READS IS OF BULK AT MOST 1048576: true; the input reads as it did. -/
def planPartUptoRow : OpenClaim := { program := "ythkagoomlmgcdaa", sum := "22610edd048e85305a79172d6e8d102e5150bfb431a6c090e7db45432d81dce1", func := "horarium/horariumlaw24.PlanPart", spec := "planPart", unfollowed := true, recurses := true, apart := false, narrowed := true }
def PlanPartUptoSaid : Prop := planPartUptoRow.holds Try.pinned (OpenSpec.upto planPartSpec)

/-- 'horariumlaw15.JudgeFits', WHERE WHAT IT READS IS OF BULK AT MOST 1048576: true; the input reads as it did. -/
def judgeFitsUptoRow : OpenClaim := { program := "ythkagoomlmgcdaa", sum := "22610edd048e85305a79172d6e8d102e5150bfb431a6c090e7db45432d81dce1", func := "horarium/horariumlaw15.JudgeFits", spec := "judgeFits", unfollowed := true, recurses := true, apart := false, narrowed := true }
def JudgeFitsUptoSaid : Prop := judgeFitsUptoRow.holds Try.pinned (OpenSpec.upto judgeFitsSpec)

/-- 'horariumlaw15.JudgeLess', WHERE WHAT IT READS IS OF BULK AT MOST 1048576: true; the input reads as it did. -/
def judgeLessUptoRow : OpenClaim := { program := "ythkagoomlmgcdaa", sum := "22610edd048e85305a79172d6e8d102e5150bfb431a6c090e7db45432d81dce1", func := "horarium/horariumlaw15.JudgeLess", spec := "judgeLess", unfollowed := true, recurses := true, apart := false, narrowed := true }
def JudgeLessUptoSaid : Prop := judgeLessUptoRow.holds Try.pinned (OpenSpec.upto judgeLessSpec)

/-- 'horariumlaw24.PlanMeets', WHERE WHAT IT READS IS OF BULK AT MOST 1048576: true; the input reads as it did. -/
def planMeetsUptoRow : OpenClaim := { program := "ythkagoomlmgcdaa", sum := "22610edd048e85305a79172d6e8d102e5150bfb431a6c090e7db45432d81dce1", func := "horarium/horariumlaw24.PlanMeets", spec := "planMeets", unfollowed := true, recurses := true, apart := false, narrowed := true }
def PlanMeetsUptoSaid : Prop := planMeetsUptoRow.holds Try.pinned (OpenSpec.upto planMeetsSpec)

end Rows
end Go.Proofs.Ythkagoomlmgcdaa
