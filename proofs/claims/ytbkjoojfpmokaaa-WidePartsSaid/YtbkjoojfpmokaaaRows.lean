/-
  No cell of these rows narrows 'for every input' (looked for: loops, veiled, ifaces, maps, wideKeys, modest, calm, conditions, laid).
  DERIVED. THE GIVEN ROWS OF THIS SEAT. 16 by the template 'for every input the law returns true; each argument reads behind the call as it read before'; 0 by the template 'total and deterministic' (their statements: YtbkjoojfpmokaaaTotals.lean).
  GIVEN WITH THE SEED: the statements are not yours to turn. If you find one false, say at which input.
  Laid BY PROGRAM, IN A SANDBOX (cutbox-rows.mjs): the forced cells as the released guide's own fill.sh prints them over the translation 9a24deec102a41d9… (all of the seat's roots in one cut). By AI agents, Wed Nov 11 2026. No macro, syntax, notation, axiom, sorry.
-/
import Derived.Test.YtbkjoojfpmokaaaChecked
import GoSem.Claim
import GoSem.ClaimJoined
import GoSem.ClaimMapViews
import Derived.JoinedTies
import Derived.KernelRfl
namespace Go.Proofs.Ytbkjoojfpmokaaa
/- THE CELL 'sum', in the pinned program and in every row, IS THE sha256 OF THE DUMP (.gsa) THAT YtbkjoojfpmokaaaProg.lean LOADS. Nothing in Lean hashes anything: it is a label: what it is worth is what the hold of that sum in a sandbox is worth. -/
noncomputable def Try.pinned : Pinned := { name := "ytbkjoojfpmokaaa", sum := "9a24deec102a41d9e65e3ddb2c77b7ece8523fc19ab52b055bcb728e6b969782", checked := Try.checked }
namespace Rows
def none {H : Type} : Left H := { results := [], args := [] }

/-- 'horariumlaw16.HeapSorts': WHATEVER THE INPUT: true; the input reads as it did. -/
def heapSortsSpec : ChangeSpec := { name := "heapSorts", fn := fun _ => fun
  | [d] => { results := [.lit (.bool true)], args := [d] }
  | _ => none }
def heapSortsRow : OpenClaim := { program := "ytbkjoojfpmokaaa", sum := "9a24deec102a41d9e65e3ddb2c77b7ece8523fc19ab52b055bcb728e6b969782", func := "horarium/horariumlaw16.HeapSorts", spec := "heapSorts", unfollowed := true, recurses := true, apart := false }
def HeapSortsSaid : Prop := heapSortsRow.holds Try.pinned (OpenSpec.ofChange heapSortsSpec)

/-- ITS FALSE NEIGHBOUR: 'it returns false'. Refute it at one input. -/
def heapSortsWrong : ChangeSpec := { name := "heapSorts", fn := fun _ => fun
  | [d] => { results := [.lit (.bool false)], args := [d] }
  | _ => none }
def HeapSortsWrongFalsely : Prop := heapSortsRow.holds Try.pinned (OpenSpec.ofChange heapSortsWrong)

/-- 'horariumlaw16.HeapLists': WHATEVER THE INPUT: true; the input reads as it did. -/
def heapListsSpec : ChangeSpec := { name := "heapLists", fn := fun _ => fun
  | [d] => { results := [.lit (.bool true)], args := [d] }
  | _ => none }
def heapListsRow : OpenClaim := { program := "ytbkjoojfpmokaaa", sum := "9a24deec102a41d9e65e3ddb2c77b7ece8523fc19ab52b055bcb728e6b969782", func := "horarium/horariumlaw16.HeapLists", spec := "heapLists", unfollowed := true, recurses := true, apart := false }
def HeapListsSaid : Prop := heapListsRow.holds Try.pinned (OpenSpec.ofChange heapListsSpec)

/-- ITS FALSE NEIGHBOUR: 'it returns false'. Refute it at one input. -/
def heapListsWrong : ChangeSpec := { name := "heapLists", fn := fun _ => fun
  | [d] => { results := [.lit (.bool false)], args := [d] }
  | _ => none }
def HeapListsWrongFalsely : Prop := heapListsRow.holds Try.pinned (OpenSpec.ofChange heapListsWrong)

/-- 'horariumlaw16.HeapDrops': WHATEVER THE INPUT: true; the input reads as it did. -/
def heapDropsSpec : ChangeSpec := { name := "heapDrops", fn := fun _ => fun
  | [d] => { results := [.lit (.bool true)], args := [d] }
  | _ => none }
def heapDropsRow : OpenClaim := { program := "ytbkjoojfpmokaaa", sum := "9a24deec102a41d9e65e3ddb2c77b7ece8523fc19ab52b055bcb728e6b969782", func := "horarium/horariumlaw16.HeapDrops", spec := "heapDrops", unfollowed := true, recurses := true, apart := false }
def HeapDropsSaid : Prop := heapDropsRow.holds Try.pinned (OpenSpec.ofChange heapDropsSpec)

/-- ITS FALSE NEIGHBOUR: 'it returns false'. Refute it at one input. -/
def heapDropsWrong : ChangeSpec := { name := "heapDrops", fn := fun _ => fun
  | [d] => { results := [.lit (.bool false)], args := [d] }
  | _ => none }
def HeapDropsWrongFalsely : Prop := heapDropsRow.holds Try.pinned (OpenSpec.ofChange heapDropsWrong)

/-- 'horariumlaw16.HeapPlays': WHATEVER THE INPUT: true; the input reads as it did. -/
def heapPlaysSpec : ChangeSpec := { name := "heapPlays", fn := fun _ => fun
  | [d1, d2] => { results := [.lit (.bool true)], args := [d1, d2] }
  | _ => none }
def heapPlaysRow : OpenClaim := { program := "ytbkjoojfpmokaaa", sum := "9a24deec102a41d9e65e3ddb2c77b7ece8523fc19ab52b055bcb728e6b969782", func := "horarium/horariumlaw16.HeapPlays", spec := "heapPlays", unfollowed := true, recurses := true, apart := false }
def HeapPlaysSaid : Prop := heapPlaysRow.holds Try.pinned (OpenSpec.ofChange heapPlaysSpec)

/-- ITS FALSE NEIGHBOUR: 'it returns false'. Refute it at one input. -/
def heapPlaysWrong : ChangeSpec := { name := "heapPlays", fn := fun _ => fun
  | [d1, d2] => { results := [.lit (.bool false)], args := [d1, d2] }
  | _ => none }
def HeapPlaysWrongFalsely : Prop := heapPlaysRow.holds Try.pinned (OpenSpec.ofChange heapPlaysWrong)

/-- 'horariumlaw16.HeapNil': WHATEVER THE INPUT: true; the input reads as it did. -/
def heapNilSpec : ChangeSpec := { name := "heapNil", fn := fun _ => fun
  | [d] => { results := [.lit (.bool true)], args := [d] }
  | _ => none }
def heapNilRow : OpenClaim := { program := "ytbkjoojfpmokaaa", sum := "9a24deec102a41d9e65e3ddb2c77b7ece8523fc19ab52b055bcb728e6b969782", func := "horarium/horariumlaw16.HeapNil", spec := "heapNil", unfollowed := true, recurses := true, apart := false }
def HeapNilSaid : Prop := heapNilRow.holds Try.pinned (OpenSpec.ofChange heapNilSpec)

/-- ITS FALSE NEIGHBOUR: 'it returns false'. Refute it at one input. -/
def heapNilWrong : ChangeSpec := { name := "heapNil", fn := fun _ => fun
  | [d] => { results := [.lit (.bool false)], args := [d] }
  | _ => none }
def HeapNilWrongFalsely : Prop := heapNilRow.holds Try.pinned (OpenSpec.ofChange heapNilWrong)

/-- 'horariumlaw01.WideParts': WHATEVER THE INPUT: true; the input reads as it did. -/
def widePartsSpec : ChangeSpec := { name := "wideParts", fn := fun _ => fun
  | [d1, d2, d3] => { results := [.lit (.bool true)], args := [d1, d2, d3] }
  | _ => none }
def widePartsRow : OpenClaim := { program := "ytbkjoojfpmokaaa", sum := "9a24deec102a41d9e65e3ddb2c77b7ece8523fc19ab52b055bcb728e6b969782", func := "horarium/horariumlaw01.WideParts", spec := "wideParts", unfollowed := true, recurses := true, named := ["math/bits.divideError", "math/bits.overflowError"], apart := false }
def WidePartsSaid : Prop := widePartsRow.holds Try.pinned (OpenSpec.ofChange widePartsSpec)

/-- ITS FALSE NEIGHBOUR: 'it returns false'. Refute it at one input. -/
def widePartsWrong : ChangeSpec := { name := "wideParts", fn := fun _ => fun
  | [d1, d2, d3] => { results := [.lit (.bool false)], args := [d1, d2, d3] }
  | _ => none }
def WidePartsWrongFalsely : Prop := widePartsRow.holds Try.pinned (OpenSpec.ofChange widePartsWrong)

/-- 'horariumlaw01.WideFair': WHATEVER THE INPUT: true; the input reads as it did. -/
def wideFairSpec : ChangeSpec := { name := "wideFair", fn := fun _ => fun
  | [d1, d2, d3] => { results := [.lit (.bool true)], args := [d1, d2, d3] }
  | _ => none }
def wideFairRow : OpenClaim := { program := "ytbkjoojfpmokaaa", sum := "9a24deec102a41d9e65e3ddb2c77b7ece8523fc19ab52b055bcb728e6b969782", func := "horarium/horariumlaw01.WideFair", spec := "wideFair", unfollowed := true, recurses := true, named := ["math/bits.divideError", "math/bits.overflowError"], apart := false }
def WideFairSaid : Prop := wideFairRow.holds Try.pinned (OpenSpec.ofChange wideFairSpec)

/-- ITS FALSE NEIGHBOUR: 'it returns false'. Refute it at one input. -/
def wideFairWrong : ChangeSpec := { name := "wideFair", fn := fun _ => fun
  | [d1, d2, d3] => { results := [.lit (.bool false)], args := [d1, d2, d3] }
  | _ => none }
def WideFairWrongFalsely : Prop := wideFairRow.holds Try.pinned (OpenSpec.ofChange wideFairWrong)

/-- 'horariumlaw01.WideText': WHATEVER THE INPUT: true; the input reads as it did. -/
def wideTextSpec : ChangeSpec := { name := "wideText", fn := fun _ => fun
  | [d1, d2] => { results := [.lit (.bool true)], args := [d1, d2] }
  | _ => none }
def wideTextRow : OpenClaim := { program := "ytbkjoojfpmokaaa", sum := "9a24deec102a41d9e65e3ddb2c77b7ece8523fc19ab52b055bcb728e6b969782", func := "horarium/horariumlaw01.WideText", spec := "wideText", unfollowed := true, recurses := true, named := ["math/bits.divideError", "math/bits.overflowError"], apart := false }
def WideTextSaid : Prop := wideTextRow.holds Try.pinned (OpenSpec.ofChange wideTextSpec)

/-- ITS FALSE NEIGHBOUR: 'it returns false'. Refute it at one input. -/
def wideTextWrong : ChangeSpec := { name := "wideText", fn := fun _ => fun
  | [d1, d2] => { results := [.lit (.bool false)], args := [d1, d2] }
  | _ => none }
def WideTextWrongFalsely : Prop := wideTextRow.holds Try.pinned (OpenSpec.ofChange wideTextWrong)

/-- 'horariumlaw18.EdfAll': WHATEVER THE INPUT: true; the input reads as it did. -/
def edfAllSpec : ChangeSpec := { name := "edfAll", fn := fun _ => fun
  | [d] => { results := [.lit (.bool true)], args := [d] }
  | _ => none }
def edfAllRow : OpenClaim := { program := "ytbkjoojfpmokaaa", sum := "9a24deec102a41d9e65e3ddb2c77b7ece8523fc19ab52b055bcb728e6b969782", func := "horarium/horariumlaw18.EdfAll", spec := "edfAll", unfollowed := true, recurses := true, apart := false }
def EdfAllSaid : Prop := edfAllRow.holds Try.pinned (OpenSpec.ofChange edfAllSpec)

/-- ITS FALSE NEIGHBOUR: 'it returns false'. Refute it at one input. -/
def edfAllWrong : ChangeSpec := { name := "edfAll", fn := fun _ => fun
  | [d] => { results := [.lit (.bool false)], args := [d] }
  | _ => none }
def EdfAllWrongFalsely : Prop := edfAllRow.holds Try.pinned (OpenSpec.ofChange edfAllWrong)

/-- 'horariumlaw01.WideSteps': WHATEVER THE INPUT: true; the input reads as it did. -/
def wideStepsSpec : ChangeSpec := { name := "wideSteps", fn := fun _ => fun
  | [d1, d2, d3] => { results := [.lit (.bool true)], args := [d1, d2, d3] }
  | _ => none }
def wideStepsRow : OpenClaim := { program := "ytbkjoojfpmokaaa", sum := "9a24deec102a41d9e65e3ddb2c77b7ece8523fc19ab52b055bcb728e6b969782", func := "horarium/horariumlaw01.WideSteps", spec := "wideSteps", inPlace := ["math/bits.Add64"], unfollowed := true, recurses := true, named := ["math/bits.divideError", "math/bits.overflowError"], apart := false }
def WideStepsSaid : Prop := wideStepsRow.holds Try.pinned (OpenSpec.ofChange wideStepsSpec)

/-- ITS FALSE NEIGHBOUR: 'it returns false'. Refute it at one input. -/
def wideStepsWrong : ChangeSpec := { name := "wideSteps", fn := fun _ => fun
  | [d1, d2, d3] => { results := [.lit (.bool false)], args := [d1, d2, d3] }
  | _ => none }
def WideStepsWrongFalsely : Prop := wideStepsRow.holds Try.pinned (OpenSpec.ofChange wideStepsWrong)

/-- 'horariumlaw18.EdfMeets': WHATEVER THE INPUT: true; the input reads as it did. -/
def edfMeetsSpec : ChangeSpec := { name := "edfMeets", fn := fun _ => fun
  | [d1, d2, d3] => { results := [.lit (.bool true)], args := [d1, d2, d3] }
  | _ => none }
def edfMeetsRow : OpenClaim := { program := "ytbkjoojfpmokaaa", sum := "9a24deec102a41d9e65e3ddb2c77b7ece8523fc19ab52b055bcb728e6b969782", func := "horarium/horariumlaw18.EdfMeets", spec := "edfMeets", unfollowed := true, recurses := true, apart := false }
def EdfMeetsSaid : Prop := edfMeetsRow.holds Try.pinned (OpenSpec.ofChange edfMeetsSpec)

/-- ITS FALSE NEIGHBOUR: 'it returns false'. Refute it at one input. -/
def edfMeetsWrong : ChangeSpec := { name := "edfMeets", fn := fun _ => fun
  | [d1, d2, d3] => { results := [.lit (.bool false)], args := [d1, d2, d3] }
  | _ => none }
def EdfMeetsWrongFalsely : Prop := edfMeetsRow.holds Try.pinned (OpenSpec.ofChange edfMeetsWrong)

/-- 'horariumlaw01.WideOrder': WHATEVER THE INPUT: true; the input reads as it did. -/
def wideOrderSpec : ChangeSpec := { name := "wideOrder", fn := fun _ => fun
  | [d1, d2] => { results := [.lit (.bool true)], args := [d1, d2] }
  | _ => none }
def wideOrderRow : OpenClaim := { program := "ytbkjoojfpmokaaa", sum := "9a24deec102a41d9e65e3ddb2c77b7ece8523fc19ab52b055bcb728e6b969782", func := "horarium/horariumlaw01.WideOrder", spec := "wideOrder", inPlace := ["math/bits.Sub64", "math/bits.Add64"], unfollowed := true, recurses := true, named := ["math/bits.divideError", "math/bits.overflowError"], apart := false }
def WideOrderSaid : Prop := wideOrderRow.holds Try.pinned (OpenSpec.ofChange wideOrderSpec)

/-- ITS FALSE NEIGHBOUR: 'it returns false'. Refute it at one input. -/
def wideOrderWrong : ChangeSpec := { name := "wideOrder", fn := fun _ => fun
  | [d1, d2] => { results := [.lit (.bool false)], args := [d1, d2] }
  | _ => none }
def WideOrderWrongFalsely : Prop := wideOrderRow.holds Try.pinned (OpenSpec.ofChange wideOrderWrong)

/-- 'horariumlaw01.WideSums': WHATEVER THE INPUT: true; the input reads as it did. -/
def wideSumsSpec : ChangeSpec := { name := "wideSums", fn := fun _ => fun
  | [d1, d2, d3] => { results := [.lit (.bool true)], args := [d1, d2, d3] }
  | _ => none }
def wideSumsRow : OpenClaim := { program := "ytbkjoojfpmokaaa", sum := "9a24deec102a41d9e65e3ddb2c77b7ece8523fc19ab52b055bcb728e6b969782", func := "horarium/horariumlaw01.WideSums", spec := "wideSums", inPlace := ["math/bits.Add64", "math/bits.Sub64"], unfollowed := true, recurses := true, named := ["math/bits.divideError", "math/bits.overflowError"], apart := false }
def WideSumsSaid : Prop := wideSumsRow.holds Try.pinned (OpenSpec.ofChange wideSumsSpec)

/-- ITS FALSE NEIGHBOUR: 'it returns false'. Refute it at one input. -/
def wideSumsWrong : ChangeSpec := { name := "wideSums", fn := fun _ => fun
  | [d1, d2, d3] => { results := [.lit (.bool false)], args := [d1, d2, d3] }
  | _ => none }
def WideSumsWrongFalsely : Prop := wideSumsRow.holds Try.pinned (OpenSpec.ofChange wideSumsWrong)

/-- 'horariumlaw01.WideBack': WHATEVER THE INPUT: true; the input reads as it did. -/
def wideBackSpec : ChangeSpec := { name := "wideBack", fn := fun _ => fun
  | [d1, d2, d3] => { results := [.lit (.bool true)], args := [d1, d2, d3] }
  | _ => none }
def wideBackRow : OpenClaim := { program := "ytbkjoojfpmokaaa", sum := "9a24deec102a41d9e65e3ddb2c77b7ece8523fc19ab52b055bcb728e6b969782", func := "horarium/horariumlaw01.WideBack", spec := "wideBack", inPlace := ["math/bits.Add64", "math/bits.Sub64"], unfollowed := true, recurses := true, named := ["math/bits.divideError", "math/bits.overflowError"], apart := false }
def WideBackSaid : Prop := wideBackRow.holds Try.pinned (OpenSpec.ofChange wideBackSpec)

/-- ITS FALSE NEIGHBOUR: 'it returns false'. Refute it at one input. -/
def wideBackWrong : ChangeSpec := { name := "wideBack", fn := fun _ => fun
  | [d1, d2, d3] => { results := [.lit (.bool false)], args := [d1, d2, d3] }
  | _ => none }
def WideBackWrongFalsely : Prop := wideBackRow.holds Try.pinned (OpenSpec.ofChange wideBackWrong)

/-- 'horariumlaw18.EdfPlays': WHATEVER THE INPUT: true; the input reads as it did. -/
def edfPlaysSpec : ChangeSpec := { name := "edfPlays", fn := fun _ => fun
  | [d1, d2] => { results := [.lit (.bool true)], args := [d1, d2] }
  | _ => none }
def edfPlaysRow : OpenClaim := { program := "ytbkjoojfpmokaaa", sum := "9a24deec102a41d9e65e3ddb2c77b7ece8523fc19ab52b055bcb728e6b969782", func := "horarium/horariumlaw18.EdfPlays", spec := "edfPlays", unfollowed := true, recurses := true, apart := false }
def EdfPlaysSaid : Prop := edfPlaysRow.holds Try.pinned (OpenSpec.ofChange edfPlaysSpec)

/-- ITS FALSE NEIGHBOUR: 'it returns false'. Refute it at one input. -/
def edfPlaysWrong : ChangeSpec := { name := "edfPlays", fn := fun _ => fun
  | [d1, d2] => { results := [.lit (.bool false)], args := [d1, d2] }
  | _ => none }
def EdfPlaysWrongFalsely : Prop := edfPlaysRow.holds Try.pinned (OpenSpec.ofChange edfPlaysWrong)

/-- 'horariumlaw18.EdfLate': WHATEVER THE INPUT: true; the input reads as it did. -/
def edfLateSpec : ChangeSpec := { name := "edfLate", fn := fun _ => fun
  | [d1, d2] => { results := [.lit (.bool true)], args := [d1, d2] }
  | _ => none }
def edfLateRow : OpenClaim := { program := "ytbkjoojfpmokaaa", sum := "9a24deec102a41d9e65e3ddb2c77b7ece8523fc19ab52b055bcb728e6b969782", func := "horarium/horariumlaw18.EdfLate", spec := "edfLate", unfollowed := true, recurses := true, apart := false }
def EdfLateSaid : Prop := edfLateRow.holds Try.pinned (OpenSpec.ofChange edfLateSpec)

/-- ITS FALSE NEIGHBOUR: 'it returns false'. Refute it at one input. -/
def edfLateWrong : ChangeSpec := { name := "edfLate", fn := fun _ => fun
  | [d1, d2] => { results := [.lit (.bool false)], args := [d1, d2] }
  | _ => none }
def EdfLateWrongFalsely : Prop := edfLateRow.holds Try.pinned (OpenSpec.ofChange edfLateWrong)

/- THE SECOND FORM. 'bulk': how many values and letters a reading holds, each counted each time it is reached (what is shared counts as often as it is met; a slice's spare places count too). A statement '..UptoSaid' is the law's where the arguments, and the package variables that the reading takes, are together of bulk at most 1048576: NARROWER than '..Said'. Prove '..Said' where nothing that the law and all that it calls make is longer than what came in: it says more and counts as full. Else prove '..UptoSaid'. A law counts once. -/
mutual
def uptoBulk {H : Type} : DataW H → Nat
  | .lit (.string bytes) => bytes.length + 1
  | .lit _ => 1
  | .nil => 1
  | .ptr d => uptoBulk d + 1
  | .slice elems spare => uptoBulkAll elems + uptoBulkAll spare + 1
  | .agg parts => uptoBulkAll parts + 1
  | .iface _ d => uptoBulk d + 1
  | .map entries => uptoBulkEntries entries + 1
  | .held _ => 1
def uptoBulkAll {H : Type} : List (DataW H) → Nat
  | [] => 0
  | d :: r => uptoBulk d + uptoBulkAll r
def uptoBulkEntries {H : Type} : List (Lit × DataW H) → Nat
  | [] => 0
  | x :: r => uptoBulkEntry x + uptoBulkEntries r
def uptoBulkEntry {H : Type} : Lit × DataW H → Nat
  | (.string bytes, d) => bytes.length + uptoBulk d + 1
  | (_, d) => uptoBulk d + 1
 end
def uptoSmall : (H : Type) → List (DataW H) → Bool := fun _ ds => decide (uptoBulkAll ds ≤ 1048576)
def OpenSpec.upto (s : _root_.Go.ChangeSpec) : _root_.Go.OpenSpec := { _root_.Go.OpenSpec.ofChange s with cond := some uptoSmall }

/-- 'horariumlaw16.HeapSorts', WHERE WHAT IT READS IS OF BULK AT MOST 1048576: true; the input reads as it did. -/
def heapSortsUptoRow : OpenClaim := { program := "ytbkjoojfpmokaaa", sum := "9a24deec102a41d9e65e3ddb2c77b7ece8523fc19ab52b055bcb728e6b969782", func := "horarium/horariumlaw16.HeapSorts", spec := "heapSorts", unfollowed := true, recurses := true, apart := false, narrowed := true }
def HeapSortsUptoSaid : Prop := heapSortsUptoRow.holds Try.pinned (OpenSpec.upto heapSortsSpec)

/-- 'horariumlaw16.HeapLists', WHERE WHAT IT READS IS OF BULK AT MOST 1048576: true; the input reads as it did. -/
def heapListsUptoRow : OpenClaim := { program := "ytbkjoojfpmokaaa", sum := "9a24deec102a41d9e65e3ddb2c77b7ece8523fc19ab52b055bcb728e6b969782", func := "horarium/horariumlaw16.HeapLists", spec := "heapLists", unfollowed := true, recurses := true, apart := false, narrowed := true }
def HeapListsUptoSaid : Prop := heapListsUptoRow.holds Try.pinned (OpenSpec.upto heapListsSpec)

/-- 'horariumlaw16.HeapDrops', WHERE WHAT IT READS IS OF BULK AT MOST 1048576: true; the input reads as it did. -/
def heapDropsUptoRow : OpenClaim := { program := "ytbkjoojfpmokaaa", sum := "9a24deec102a41d9e65e3ddb2c77b7ece8523fc19ab52b055bcb728e6b969782", func := "horarium/horariumlaw16.HeapDrops", spec := "heapDrops", unfollowed := true, recurses := true, apart := false, narrowed := true }
def HeapDropsUptoSaid : Prop := heapDropsUptoRow.holds Try.pinned (OpenSpec.upto heapDropsSpec)

/-- 'horariumlaw16.HeapPlays', WHERE WHAT IT READS IS OF BULK AT MOST 1048576: true; the input reads as it did. -/
def heapPlaysUptoRow : OpenClaim := { program := "ytbkjoojfpmokaaa", sum := "9a24deec102a41d9e65e3ddb2c77b7ece8523fc19ab52b055bcb728e6b969782", func := "horarium/horariumlaw16.HeapPlays", spec := "heapPlays", unfollowed := true, recurses := true, apart := false, narrowed := true }
def HeapPlaysUptoSaid : Prop := heapPlaysUptoRow.holds Try.pinned (OpenSpec.upto heapPlaysSpec)

/-- 'horariumlaw16.HeapNil', WHERE WHAT IT READS IS OF BULK AT MOST 1048576: true; the input reads as it did. -/
def heapNilUptoRow : OpenClaim := { program := "ytbkjoojfpmokaaa", sum := "9a24deec102a41d9e65e3ddb2c77b7ece8523fc19ab52b055bcb728e6b969782", func := "horarium/horariumlaw16.HeapNil", spec := "heapNil", unfollowed := true, recurses := true, apart := false, narrowed := true }
def HeapNilUptoSaid : Prop := heapNilUptoRow.holds Try.pinned (OpenSpec.upto heapNilSpec)

/-- 'horariumlaw01.WideParts', WHERE WHAT IT READS IS OF BULK AT MOST 1048576: true; the input reads as it did. -/
def widePartsUptoRow : OpenClaim := { program := "ytbkjoojfpmokaaa", sum := "9a24deec102a41d9e65e3ddb2c77b7ece8523fc19ab52b055bcb728e6b969782", func := "horarium/horariumlaw01.WideParts", spec := "wideParts", unfollowed := true, recurses := true, named := ["math/bits.divideError", "math/bits.overflowError"], apart := false, narrowed := true }
def WidePartsUptoSaid : Prop := widePartsUptoRow.holds Try.pinned (OpenSpec.upto widePartsSpec)

/-- 'horariumlaw01.WideFair', WHERE WHAT IT READS IS OF BULK AT MOST 1048576: true; the input reads as it did. -/
def wideFairUptoRow : OpenClaim := { program := "ytbkjoojfpmokaaa", sum := "9a24deec102a41d9e65e3ddb2c77b7ece8523fc19ab52b055bcb728e6b969782", func := "horarium/horariumlaw01.WideFair", spec := "wideFair", unfollowed := true, recurses := true, named := ["math/bits.divideError", "math/bits.overflowError"], apart := false, narrowed := true }
def WideFairUptoSaid : Prop := wideFairUptoRow.holds Try.pinned (OpenSpec.upto wideFairSpec)

/-- 'horariumlaw01.WideText', WHERE WHAT IT READS IS OF BULK AT MOST 1048576: true; the input reads as it did. -/
def wideTextUptoRow : OpenClaim := { program := "ytbkjoojfpmokaaa", sum := "9a24deec102a41d9e65e3ddb2c77b7ece8523fc19ab52b055bcb728e6b969782", func := "horarium/horariumlaw01.WideText", spec := "wideText", unfollowed := true, recurses := true, named := ["math/bits.divideError", "math/bits.overflowError"], apart := false, narrowed := true }
def WideTextUptoSaid : Prop := wideTextUptoRow.holds Try.pinned (OpenSpec.upto wideTextSpec)

/-- 'horariumlaw18.EdfAll', WHERE WHAT IT READS IS OF BULK AT MOST 1048576: true; the input reads as it did. -/
def edfAllUptoRow : OpenClaim := { program := "ytbkjoojfpmokaaa", sum := "9a24deec102a41d9e65e3ddb2c77b7ece8523fc19ab52b055bcb728e6b969782", func := "horarium/horariumlaw18.EdfAll", spec := "edfAll", unfollowed := true, recurses := true, apart := false, narrowed := true }
def EdfAllUptoSaid : Prop := edfAllUptoRow.holds Try.pinned (OpenSpec.upto edfAllSpec)

/-- 'horariumlaw01.WideSteps', WHERE WHAT IT READS IS OF BULK AT MOST 1048576: true; the input reads as it did. -/
def wideStepsUptoRow : OpenClaim := { program := "ytbkjoojfpmokaaa", sum := "9a24deec102a41d9e65e3ddb2c77b7ece8523fc19ab52b055bcb728e6b969782", func := "horarium/horariumlaw01.WideSteps", spec := "wideSteps", inPlace := ["math/bits.Add64"], unfollowed := true, recurses := true, named := ["math/bits.divideError", "math/bits.overflowError"], apart := false, narrowed := true }
def WideStepsUptoSaid : Prop := wideStepsUptoRow.holds Try.pinned (OpenSpec.upto wideStepsSpec)

/-- 'horariumlaw18.EdfMeets', WHERE WHAT IT READS IS OF BULK AT MOST 1048576: true; the input reads as it did. -/
def edfMeetsUptoRow : OpenClaim := { program := "ytbkjoojfpmokaaa", sum := "9a24deec102a41d9e65e3ddb2c77b7ece8523fc19ab52b055bcb728e6b969782", func := "horarium/horariumlaw18.EdfMeets", spec := "edfMeets", unfollowed := true, recurses := true, apart := false, narrowed := true }
def EdfMeetsUptoSaid : Prop := edfMeetsUptoRow.holds Try.pinned (OpenSpec.upto edfMeetsSpec)

/-- 'horariumlaw01.WideOrder', WHERE WHAT IT READS IS OF BULK AT MOST 1048576: true; the input reads as it did. -/
def wideOrderUptoRow : OpenClaim := { program := "ytbkjoojfpmokaaa", sum := "9a24deec102a41d9e65e3ddb2c77b7ece8523fc19ab52b055bcb728e6b969782", func := "horarium/horariumlaw01.WideOrder", spec := "wideOrder", inPlace := ["math/bits.Sub64", "math/bits.Add64"], unfollowed := true, recurses := true, named := ["math/bits.divideError", "math/bits.overflowError"], apart := false, narrowed := true }
def WideOrderUptoSaid : Prop := wideOrderUptoRow.holds Try.pinned (OpenSpec.upto wideOrderSpec)

/-- 'horariumlaw01.WideSums', WHERE WHAT IT READS IS OF BULK AT MOST 1048576: true; the input reads as it did. -/
def wideSumsUptoRow : OpenClaim := { program := "ytbkjoojfpmokaaa", sum := "9a24deec102a41d9e65e3ddb2c77b7ece8523fc19ab52b055bcb728e6b969782", func := "horarium/horariumlaw01.WideSums", spec := "wideSums", inPlace := ["math/bits.Add64", "math/bits.Sub64"], unfollowed := true, recurses := true, named := ["math/bits.divideError", "math/bits.overflowError"], apart := false, narrowed := true }
def WideSumsUptoSaid : Prop := wideSumsUptoRow.holds Try.pinned (OpenSpec.upto wideSumsSpec)

/-- 'horariumlaw01.WideBack', WHERE WHAT IT READS IS OF BULK AT MOST 1048576: true; the input reads as it did. -/
def wideBackUptoRow : OpenClaim := { program := "ytbkjoojfpmokaaa", sum := "9a24deec102a41d9e65e3ddb2c77b7ece8523fc19ab52b055bcb728e6b969782", func := "horarium/horariumlaw01.WideBack", spec := "wideBack", inPlace := ["math/bits.Add64", "math/bits.Sub64"], unfollowed := true, recurses := true, named := ["math/bits.divideError", "math/bits.overflowError"], apart := false, narrowed := true }
def WideBackUptoSaid : Prop := wideBackUptoRow.holds Try.pinned (OpenSpec.upto wideBackSpec)

/-- 'horariumlaw18.EdfPlays', WHERE WHAT IT READS IS OF BULK AT MOST 1048576: true; the input reads as it did. -/
def edfPlaysUptoRow : OpenClaim := { program := "ytbkjoojfpmokaaa", sum := "9a24deec102a41d9e65e3ddb2c77b7ece8523fc19ab52b055bcb728e6b969782", func := "horarium/horariumlaw18.EdfPlays", spec := "edfPlays", unfollowed := true, recurses := true, apart := false, narrowed := true }
def EdfPlaysUptoSaid : Prop := edfPlaysUptoRow.holds Try.pinned (OpenSpec.upto edfPlaysSpec)

/-- 'horariumlaw18.EdfLate', WHERE WHAT IT READS IS OF BULK AT MOST 1048576: true; the input reads as it did. -/
def edfLateUptoRow : OpenClaim := { program := "ytbkjoojfpmokaaa", sum := "9a24deec102a41d9e65e3ddb2c77b7ece8523fc19ab52b055bcb728e6b969782", func := "horarium/horariumlaw18.EdfLate", spec := "edfLate", unfollowed := true, recurses := true, apart := false, narrowed := true }
def EdfLateUptoSaid : Prop := edfLateUptoRow.holds Try.pinned (OpenSpec.upto edfLateSpec)

end Rows
end Go.Proofs.Ytbkjoojfpmokaaa
