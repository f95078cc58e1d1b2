/-
  No cell of these rows narrows 'for every input' (looked for: loops, veiled, ifaces, maps, wideKeys, modest, calm, conditions, laid).
  DERIVED. THE GIVEN ROWS OF THIS SEAT. 8 by the template 'for every input the law returns true; each argument reads behind the call as it read before'; 0 by the template 'total and deterministic' (their statements: YtmgmpifbhjoijaaTotals.lean).
  GIVEN WITH THE SEED: the statements are not yours to turn. If you find one false, say at which input.
  Laid BY PROGRAM, IN A SANDBOX (cutbox-rows.mjs): the forced cells as the released guide's own fill.sh prints them over the translation 849315a9d65b8d4a… (all of the seat's roots in one cut). By AI agents, Wed Nov 11 2026. No macro, syntax, notation, axiom, sorry.
-/
import Derived.Test.YtmgmpifbhjoijaaChecked
import GoSem.Claim
import GoSem.ClaimJoined
import GoSem.ClaimMapViews
import Derived.JoinedTies
import Derived.KernelRfl
namespace Go.Proofs.Ytmgmpifbhjoijaa
/- THE CELL 'sum', in the pinned program and in every row, IS THE sha256 OF THE DUMP (.gsa) THAT YtmgmpifbhjoijaaProg.lean LOADS. Nothing in Lean hashes anything: it is a label: what it is worth is what the hold of that sum in a sandbox is worth. -/
noncomputable def Try.pinned : Pinned := { name := "ytmgmpifbhjoijaa", sum := "849315a9d65b8d4a5c0624c752d6284bb1fc41e3fc5da95d181b344e516cdabd", checked := Try.checked }
namespace Rows
def none {H : Type} : Left H := { results := [], args := [] }

/-- 'horariumlaw09.ParamHeavier': WHATEVER THE INPUT: true; the input reads as it did. -/
def paramHeavierSpec : ChangeSpec := { name := "paramHeavier", fn := fun _ => fun
  | [d1, d2] => { results := [.lit (.bool true)], args := [d1, d2] }
  | _ => none }
def paramHeavierRow : OpenClaim := { program := "ytmgmpifbhjoijaa", sum := "849315a9d65b8d4a5c0624c752d6284bb1fc41e3fc5da95d181b344e516cdabd", func := "horarium/horariumlaw09.ParamHeavier", spec := "paramHeavier", unfollowed := true, recurses := true, apart := false }
def ParamHeavierSaid : Prop := paramHeavierRow.holds Try.pinned (OpenSpec.ofChange paramHeavierSpec)

/-- ITS FALSE NEIGHBOUR: 'it returns false'. Refute it at one input. -/
def paramHeavierWrong : ChangeSpec := { name := "paramHeavier", fn := fun _ => fun
  | [d1, d2] => { results := [.lit (.bool false)], args := [d1, d2] }
  | _ => none }
def ParamHeavierWrongFalsely : Prop := paramHeavierRow.holds Try.pinned (OpenSpec.ofChange paramHeavierWrong)

/-- 'horariumlaw09.ParamTells': WHATEVER THE INPUT: true; the input reads as it did. -/
def paramTellsSpec : ChangeSpec := { name := "paramTells", fn := fun _ => fun
  | [d1, d2] => { results := [.lit (.bool true)], args := [d1, d2] }
  | _ => none }
def paramTellsRow : OpenClaim := { program := "ytmgmpifbhjoijaa", sum := "849315a9d65b8d4a5c0624c752d6284bb1fc41e3fc5da95d181b344e516cdabd", func := "horarium/horariumlaw09.ParamTells", spec := "paramTells", unfollowed := true, recurses := true, apart := false }
def ParamTellsSaid : Prop := paramTellsRow.holds Try.pinned (OpenSpec.ofChange paramTellsSpec)

/-- ITS FALSE NEIGHBOUR: 'it returns false'. Refute it at one input. -/
def paramTellsWrong : ChangeSpec := { name := "paramTells", fn := fun _ => fun
  | [d1, d2] => { results := [.lit (.bool false)], args := [d1, d2] }
  | _ => none }
def ParamTellsWrongFalsely : Prop := paramTellsRow.holds Try.pinned (OpenSpec.ofChange paramTellsWrong)

/-- 'horariumlaw09.ParamSorts': WHATEVER THE INPUT: true; the input reads as it did. -/
def paramSortsSpec : ChangeSpec := { name := "paramSorts", fn := fun _ => fun
  | [d] => { results := [.lit (.bool true)], args := [d] }
  | _ => none }
def paramSortsRow : OpenClaim := { program := "ytmgmpifbhjoijaa", sum := "849315a9d65b8d4a5c0624c752d6284bb1fc41e3fc5da95d181b344e516cdabd", func := "horarium/horariumlaw09.ParamSorts", spec := "paramSorts", unfollowed := true, recurses := true, apart := false }
def ParamSortsSaid : Prop := paramSortsRow.holds Try.pinned (OpenSpec.ofChange paramSortsSpec)

/-- ITS FALSE NEIGHBOUR: 'it returns false'. Refute it at one input. -/
def paramSortsWrong : ChangeSpec := { name := "paramSorts", fn := fun _ => fun
  | [d] => { results := [.lit (.bool false)], args := [d] }
  | _ => none }
def ParamSortsWrongFalsely : Prop := paramSortsRow.holds Try.pinned (OpenSpec.ofChange paramSortsWrong)

/-- 'horariumlaw26.ProbeEdges': WHATEVER THE INPUT: true; the input reads as it did. -/
def probeEdgesSpec : ChangeSpec := { name := "probeEdges", fn := fun _ => fun
  | [d1, d2] => { results := [.lit (.bool true)], args := [d1, d2] }
  | _ => none }
def probeEdgesRow : OpenClaim := { program := "ytmgmpifbhjoijaa", sum := "849315a9d65b8d4a5c0624c752d6284bb1fc41e3fc5da95d181b344e516cdabd", func := "horarium/horariumlaw26.ProbeEdges", spec := "probeEdges", unfollowed := true, recurses := true, apart := false }
def ProbeEdgesSaid : Prop := probeEdgesRow.holds Try.pinned (OpenSpec.ofChange probeEdgesSpec)

/-- ITS FALSE NEIGHBOUR: 'it returns false'. Refute it at one input. -/
def probeEdgesWrong : ChangeSpec := { name := "probeEdges", fn := fun _ => fun
  | [d1, d2] => { results := [.lit (.bool false)], args := [d1, d2] }
  | _ => none }
def ProbeEdgesWrongFalsely : Prop := probeEdgesRow.holds Try.pinned (OpenSpec.ofChange probeEdgesWrong)

/-- 'horariumlaw26.ProbeSlack': WHATEVER THE INPUT: true; the input reads as it did. -/
def probeSlackSpec : ChangeSpec := { name := "probeSlack", fn := fun _ => fun
  | [d] => { results := [.lit (.bool true)], args := [d] }
  | _ => none }
def probeSlackRow : OpenClaim := { program := "ytmgmpifbhjoijaa", sum := "849315a9d65b8d4a5c0624c752d6284bb1fc41e3fc5da95d181b344e516cdabd", func := "horarium/horariumlaw26.ProbeSlack", spec := "probeSlack", unfollowed := true, recurses := true, apart := false }
def ProbeSlackSaid : Prop := probeSlackRow.holds Try.pinned (OpenSpec.ofChange probeSlackSpec)

/-- ITS FALSE NEIGHBOUR: 'it returns false'. Refute it at one input. -/
def probeSlackWrong : ChangeSpec := { name := "probeSlack", fn := fun _ => fun
  | [d] => { results := [.lit (.bool false)], args := [d] }
  | _ => none }
def ProbeSlackWrongFalsely : Prop := probeSlackRow.holds Try.pinned (OpenSpec.ofChange probeSlackWrong)

/-- 'horariumlaw26.ProbeMore': WHATEVER THE INPUT: true; the input reads as it did. -/
def probeMoreSpec : ChangeSpec := { name := "probeMore", fn := fun _ => fun
  | [d1, d2, d3] => { results := [.lit (.bool true)], args := [d1, d2, d3] }
  | _ => none }
def probeMoreRow : OpenClaim := { program := "ytmgmpifbhjoijaa", sum := "849315a9d65b8d4a5c0624c752d6284bb1fc41e3fc5da95d181b344e516cdabd", func := "horarium/horariumlaw26.ProbeMore", spec := "probeMore", unfollowed := true, recurses := true, apart := false }
def ProbeMoreSaid : Prop := probeMoreRow.holds Try.pinned (OpenSpec.ofChange probeMoreSpec)

/-- ITS FALSE NEIGHBOUR: 'it returns false'. Refute it at one input. -/
def probeMoreWrong : ChangeSpec := { name := "probeMore", fn := fun _ => fun
  | [d1, d2, d3] => { results := [.lit (.bool false)], args := [d1, d2, d3] }
  | _ => none }
def ProbeMoreWrongFalsely : Prop := probeMoreRow.holds Try.pinned (OpenSpec.ofChange probeMoreWrong)

/-- 'horariumlaw26.ProbeTells': WHATEVER THE INPUT: true; the input reads as it did. -/
def probeTellsSpec : ChangeSpec := { name := "probeTells", fn := fun _ => fun
  | [d1, d2] => { results := [.lit (.bool true)], args := [d1, d2] }
  | _ => none }
def probeTellsRow : OpenClaim := { program := "ytmgmpifbhjoijaa", sum := "849315a9d65b8d4a5c0624c752d6284bb1fc41e3fc5da95d181b344e516cdabd", func := "horarium/horariumlaw26.ProbeTells", spec := "probeTells", unfollowed := true, recurses := true, apart := false }
def ProbeTellsSaid : Prop := probeTellsRow.holds Try.pinned (OpenSpec.ofChange probeTellsSpec)

/-- ITS FALSE NEIGHBOUR: 'it returns false'. Refute it at one input. -/
def probeTellsWrong : ChangeSpec := { name := "probeTells", fn := fun _ => fun
  | [d1, d2] => { results := [.lit (.bool false)], args := [d1, d2] }
  | _ => none }
def ProbeTellsWrongFalsely : Prop := probeTellsRow.holds Try.pinned (OpenSpec.ofChange probeTellsWrong)

/-- 'horariumlaw26.ProbeReports': WHATEVER THE INPUT: true; the input reads as it did. -/
def probeReportsSpec : ChangeSpec := { name := "probeReports", fn := fun _ => fun
  | [d1, d2, d3] => { results := [.lit (.bool true)], args := [d1, d2, d3] }
  | _ => none }
def probeReportsRow : OpenClaim := { program := "ytmgmpifbhjoijaa", sum := "849315a9d65b8d4a5c0624c752d6284bb1fc41e3fc5da95d181b344e516cdabd", func := "horarium/horariumlaw26.ProbeReports", spec := "probeReports", unfollowed := true, recurses := true, apart := false }
def ProbeReportsSaid : Prop := probeReportsRow.holds Try.pinned (OpenSpec.ofChange probeReportsSpec)

/-- ITS FALSE NEIGHBOUR: 'it returns false'. Refute it at one input. -/
def probeReportsWrong : ChangeSpec := { name := "probeReports", fn := fun _ => fun
  | [d1, d2, d3] => { results := [.lit (.bool false)], args := [d1, d2, d3] }
  | _ => none }
def ProbeReportsWrongFalsely : Prop := probeReportsRow.holds Try.pinned (OpenSpec.ofChange probeReportsWrong)

/- THE SECOND FORM. 'bulk': how many values and letters a reading holds, each counted each time it is reached (what is shared counts as often as it is met; a slice's spare places count too). A statement '..UptoSaid' is the law's where the arguments, and the package variables that the reading takes, are together of bulk at most 1048576: NARROWER than '..Said'. Prove '..Said' where nothing that the law and all that it calls make is longer than what came in: it says more and counts as full. Else prove '..UptoSaid'. A law counts once. -/
mutual
def uptoBulk {H : Type} : DataW H → Nat
  | .lit (.string bytes) => bytes.length + 1
  | .lit _ => 1
  | .nil => 1
  | .ptr d => uptoBulk d + 1
  | .slice elems spare => uptoBulkAll elems + uptoBulkAll spare + 1
  | .agg parts => uptoBulkAll parts + 1
  | .iface _ d => uptoBulk d + 1
  | .map entries => uptoBulkEntries entries + 1
  | .held _ => 1
def uptoBulkAll {H : Type} : List (DataW H) → Nat
  | [] => 0
  | d :: r => uptoBulk d + uptoBulkAll r
def uptoBulkEntries {H : Type} : List (Lit × DataW H) → Nat
  | [] => 0
  | x :: r => uptoBulkEntry x + uptoBulkEntries r
def uptoBulkEntry {H : Type} : Lit × DataW H → Nat
  | (.string bytes, d) => bytes.length + uptoBulk d + 1
  | (_, d) => uptoBulk d + 1
 end
def uptoSmall : (H : Type) → List (DataW H) → Bool := fun _ ds => decide (uptoBulkAll ds ≤ 1048576)
def OpenSpec.upto (s : _root_.Go.ChangeSpec) : _root_.Go.OpenSpec := { _root_.Go.OpenSpec.ofChange s with cond := some uptoSmall }

/-- 'horariumlaw09.ParamHeavier', WHERE WHAT IT READS IS OF BULK AT MOST 1048576: true; the input reads as it did. -/
def paramHeavierUptoRow : OpenClaim := { program := "ytmgmpifbhjoijaa", sum := "849315a9d65b8d4a5c0624c752d6284bb1fc41e3fc5da95d181b344e516cdabd", func := "horarium/horariumlaw09.ParamHeavier", spec := "paramHeavier", unfollowed := true, recurses := true, apart := false, narrowed := true }
def ParamHeavierUptoSaid : Prop := paramHeavierUptoRow.holds Try.pinned (OpenSpec.upto paramHeavierSpec)

/-- 'horariumlaw09.ParamTells', WHERE WHAT IT READS IS OF BULK AT MOST 1048576: true; the input reads as it did. -/
def paramTellsUptoRow : OpenClaim := { program := "ytmgmpifbhjoijaa", sum := "849315a9d65b8d4a5c0624c752d6284bb1fc41e3fc5da95d181b344e516cdabd", func := "horarium/horariumlaw09.ParamTells", spec := "paramTells", unfollowed := true, recurses := true, apart := false, narrowed := true }
def ParamTellsUptoSaid : Prop := paramTellsUptoRow.holds Try.pinned (OpenSpec.upto paramTellsSpec)

/-- 'horariumlaw09.ParamSorts', WHERE WHAT IT READS IS OF BULK AT MOST 1048576: true; the input reads as it did. -/
def paramSortsUptoRow : OpenClaim := { program := "ytmgmpifbhjoijaa", sum := "849315a9d65b8d4a5c0624c752d6284bb1fc41e3fc5da95d181b344e516cdabd", func := "horarium/horariumlaw09.ParamSorts", spec := "paramSorts", unfollowed := true, recurses := true, apart := false, narrowed := true }
def ParamSortsUptoSaid : Prop := paramSortsUptoRow.holds Try.pinned (OpenSpec.upto paramSortsSpec)

/-- 'horariumlaw26.ProbeEdges', WHERE WHAT IT READS IS OF BULK AT MOST 1048576: true; the input reads as it did. -/
def probeEdgesUptoRow : OpenClaim := { program := "ytmgmpifbhjoijaa", sum := "849315a9d65b8d4a5c0624c752d6284bb1fc41e3fc5da95d181b344e516cdabd", func := "horarium/horariumlaw26.ProbeEdges", spec := "probeEdges", unfollowed := true, recurses := true, apart := false, narrowed := true }
def ProbeEdgesUptoSaid : Prop := probeEdgesUptoRow.holds Try.pinned (OpenSpec.upto probeEdgesSpec)

/-- 'horariumlaw26.ProbeSlack', WHERE WHAT IT READS IS OF BULK AT MOST 1048576: true; the input reads as it did. -/
def probeSlackUptoRow : OpenClaim := { program := "ytmgmpifbhjoijaa", sum := "849315a9d65b8d4a5c0624c752d6284bb1fc41e3fc5da95d181b344e516cdabd", func := "horarium/horariumlaw26.ProbeSlack", spec := "probeSlack", unfollowed := true, recurses := true, apart := false, narrowed := true }
def ProbeSlackUptoSaid : Prop := probeSlackUptoRow.holds Try.pinned (OpenSpec.upto probeSlackSpec)

/-- 'horariumlaw26.ProbeMore', WHERE WHAT IT READS IS OF BULK AT MOST 1048576: true; the input reads as it did. -/
def probeMoreUptoRow : OpenClaim := { program := "ytmgmpifbhjoijaa", sum := "849315a9d65b8d4a5c0624c752d6284bb1fc41e3fc5da95d181b344e516cdabd", func := "horarium/horariumlaw26.ProbeMore", spec := "probeMore", unfollowed := true, recurses := true, apart := false, narrowed := true }
def ProbeMoreUptoSaid : Prop := probeMoreUptoRow.holds Try.pinned (OpenSpec.upto probeMoreSpec)

/-- 'horariumlaw26.ProbeTells', WHERE WHAT IT READS IS OF BULK AT MOST 1048576: true; the input reads as it did. -/
def probeTellsUptoRow : OpenClaim := { program := "ytmgmpifbhjoijaa", sum := "849315a9d65b8d4a5c0624c752d6284bb1fc41e3fc5da95d181b344e516cdabd", func := "horarium/horariumlaw26.ProbeTells", spec := "probeTells", unfollowed := true, recurses := true, apart := false, narrowed := true }
def ProbeTellsUptoSaid : Prop := probeTellsUptoRow.holds Try.pinned (OpenSpec.upto probeTellsSpec)

/-- 'horariumlaw26.ProbeReports', WHERE WHAT IT READS IS OF BULK AT MOST 1048576: true; the input reads as it did. -/
def probeReportsUptoRow : OpenClaim := { program := "ytmgmpifbhjoijaa", sum := "849315a9d65b8d4a5c0624c752d6284bb1fc41e3fc5da95d181b344e516cdabd", func := "horarium/horariumlaw26.ProbeReports", spec := "probeReports", unfollowed := true, recurses := true, apart := false, narrowed := true }
def ProbeReportsUptoSaid : Prop := probeReportsUptoRow.holds Try.pinned (OpenSpec.upto probeReportsSpec)

end Rows
end Go.Proofs.Ytmgmpifbhjoijaa
