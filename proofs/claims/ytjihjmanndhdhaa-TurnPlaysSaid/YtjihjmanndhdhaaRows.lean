/-
  No cell of these rows narrows 'for every input' (looked for: loops, veiled, ifaces, maps, wideKeys, modest, calm, conditions, laid).
  DERIVED. THE GIVEN ROWS OF THIS SEAT. 12 by the template 'for every input the law returns true; each argument reads behind the call as it read before'; 0 by the template 'total and deterministic' (their statements: YtjihjmanndhdhaaTotals.lean).
  GIVEN WITH THE SEED: the statements are not yours to turn. If you find one false, say at which input.
  Laid BY PROGRAM, IN A SANDBOX (cutbox-rows.mjs): the forced cells as the released guide's own fill.sh prints them over the translation 7df53afd8ca42f0c… (all of the seat's roots in one cut). By AI agents, Wed Nov 11 2026. No macro, syntax, notation, axiom, sorry.
-/
import Derived.Test.YtjihjmanndhdhaaChecked
import GoSem.Claim
import GoSem.ClaimJoined
import GoSem.ClaimMapViews
import Derived.JoinedTies
import Derived.KernelRfl
namespace Go.Proofs.Ytjihjmanndhdhaa
/- THE CELL 'sum', in the pinned program and in every row, IS THE sha256 OF THE DUMP (.gsa) THAT YtjihjmanndhdhaaProg.lean LOADS. Nothing in Lean hashes anything: it is a label: what it is worth is what the hold of that sum in a sandbox is worth. -/
noncomputable def Try.pinned : Pinned := { name := "ytjihjmanndhdhaa", sum := "7df53afd8ca42f0cefc56054cc4342b22aa91178f90068cefe71b1a5f141938a", checked := Try.checked }
namespace Rows
def none {H : Type} : Left H := { results := [], args := [] }

/-- 'beadlelaw19.GateLess': WHATEVER THE INPUT: true; the input reads as it did. -/
def gateLessSpec : ChangeSpec := { name := "gateLess", fn := fun _ => fun
  | [d1, d2, d3, d4, d5, d6] => { results := [.lit (.bool true)], args := [d1, d2, d3, d4, d5, d6] }
  | _ => none }
def gateLessRow : OpenClaim := { program := "ytjihjmanndhdhaa", sum := "7df53afd8ca42f0cefc56054cc4342b22aa91178f90068cefe71b1a5f141938a", func := "beadle/beadlelaw19.GateLess", spec := "gateLess", apart := false }
def GateLessSaid : Prop := gateLessRow.holds Try.pinned (OpenSpec.ofChange gateLessSpec)

/-- ITS FALSE NEIGHBOUR: 'it returns false'. Refute it at one input. -/
def gateLessWrong : ChangeSpec := { name := "gateLess", fn := fun _ => fun
  | [d1, d2, d3, d4, d5, d6] => { results := [.lit (.bool false)], args := [d1, d2, d3, d4, d5, d6] }
  | _ => none }
def GateLessWrongFalsely : Prop := gateLessRow.holds Try.pinned (OpenSpec.ofChange gateLessWrong)

/-- 'beadlelaw5.IdsParts': WHATEVER THE INPUT: true; the input reads as it did. -/
def idsPartsSpec : ChangeSpec := { name := "idsParts", fn := fun _ => fun
  | [d1, d2, d3] => { results := [.lit (.bool true)], args := [d1, d2, d3] }
  | _ => none }
def idsPartsRow : OpenClaim := { program := "ytjihjmanndhdhaa", sum := "7df53afd8ca42f0cefc56054cc4342b22aa91178f90068cefe71b1a5f141938a", func := "beadle/beadlelaw5.IdsParts", spec := "idsParts", apart := false }
def IdsPartsSaid : Prop := idsPartsRow.holds Try.pinned (OpenSpec.ofChange idsPartsSpec)

/-- ITS FALSE NEIGHBOUR: 'it returns false'. Refute it at one input. -/
def idsPartsWrong : ChangeSpec := { name := "idsParts", fn := fun _ => fun
  | [d1, d2, d3] => { results := [.lit (.bool false)], args := [d1, d2, d3] }
  | _ => none }
def IdsPartsWrongFalsely : Prop := idsPartsRow.holds Try.pinned (OpenSpec.ofChange idsPartsWrong)

/-- 'beadlelaw19.GateKnown': WHATEVER THE INPUT: true; the input reads as it did. -/
def gateKnownSpec : ChangeSpec := { name := "gateKnown", fn := fun _ => fun
  | [] => { results := [.lit (.bool true)], args := [] }
  | _ => none }
def gateKnownRow : OpenClaim := { program := "ytjihjmanndhdhaa", sum := "7df53afd8ca42f0cefc56054cc4342b22aa91178f90068cefe71b1a5f141938a", func := "beadle/beadlelaw19.GateKnown", spec := "gateKnown", apart := false }
def GateKnownSaid : Prop := gateKnownRow.holds Try.pinned (OpenSpec.ofChange gateKnownSpec)

/-- ITS FALSE NEIGHBOUR: 'it returns false'. Refute it at one input. -/
def gateKnownWrong : ChangeSpec := { name := "gateKnown", fn := fun _ => fun
  | [] => { results := [.lit (.bool false)], args := [] }
  | _ => none }
def GateKnownWrongFalsely : Prop := gateKnownRow.holds Try.pinned (OpenSpec.ofChange gateKnownWrong)

/-- 'beadlelaw19.GateSays': WHATEVER THE INPUT: true; the input reads as it did. -/
def gateSaysSpec : ChangeSpec := { name := "gateSays", fn := fun _ => fun
  | [d1, d2, d3, d4, d5, d6] => { results := [.lit (.bool true)], args := [d1, d2, d3, d4, d5, d6] }
  | _ => none }
def gateSaysRow : OpenClaim := { program := "ytjihjmanndhdhaa", sum := "7df53afd8ca42f0cefc56054cc4342b22aa91178f90068cefe71b1a5f141938a", func := "beadle/beadlelaw19.GateSays", spec := "gateSays", apart := false }
def GateSaysSaid : Prop := gateSaysRow.holds Try.pinned (OpenSpec.ofChange gateSaysSpec)

/-- ITS FALSE NEIGHBOUR: 'it returns false'. Refute it at one input. -/
def gateSaysWrong : ChangeSpec := { name := "gateSays", fn := fun _ => fun
  | [d1, d2, d3, d4, d5, d6] => { results := [.lit (.bool false)], args := [d1, d2, d3, d4, d5, d6] }
  | _ => none }
def GateSaysWrongFalsely : Prop := gateSaysRow.holds Try.pinned (OpenSpec.ofChange gateSaysWrong)

/-- 'beadlelaw19.GateSwells': WHATEVER THE INPUT: true; the input reads as it did. -/
def gateSwellsSpec : ChangeSpec := { name := "gateSwells", fn := fun _ => fun
  | [d1, d2, d3] => { results := [.lit (.bool true)], args := [d1, d2, d3] }
  | _ => none }
def gateSwellsRow : OpenClaim := { program := "ytjihjmanndhdhaa", sum := "7df53afd8ca42f0cefc56054cc4342b22aa91178f90068cefe71b1a5f141938a", func := "beadle/beadlelaw19.GateSwells", spec := "gateSwells", apart := false }
def GateSwellsSaid : Prop := gateSwellsRow.holds Try.pinned (OpenSpec.ofChange gateSwellsSpec)

/-- ITS FALSE NEIGHBOUR: 'it returns false'. Refute it at one input. -/
def gateSwellsWrong : ChangeSpec := { name := "gateSwells", fn := fun _ => fun
  | [d1, d2, d3] => { results := [.lit (.bool false)], args := [d1, d2, d3] }
  | _ => none }
def GateSwellsWrongFalsely : Prop := gateSwellsRow.holds Try.pinned (OpenSpec.ofChange gateSwellsWrong)

/-- 'beadlelaw8.TurnAll': WHATEVER THE INPUT: true; the input reads as it did. -/
def turnAllSpec : ChangeSpec := { name := "turnAll", fn := fun _ => fun
  | [d] => { results := [.lit (.bool true)], args := [d] }
  | _ => none }
def turnAllRow : OpenClaim := { program := "ytjihjmanndhdhaa", sum := "7df53afd8ca42f0cefc56054cc4342b22aa91178f90068cefe71b1a5f141938a", func := "beadle/beadlelaw8.TurnAll", spec := "turnAll", apart := false }
def TurnAllSaid : Prop := turnAllRow.holds Try.pinned (OpenSpec.ofChange turnAllSpec)

/-- ITS FALSE NEIGHBOUR: 'it returns false'. Refute it at one input. -/
def turnAllWrong : ChangeSpec := { name := "turnAll", fn := fun _ => fun
  | [d] => { results := [.lit (.bool false)], args := [d] }
  | _ => none }
def TurnAllWrongFalsely : Prop := turnAllRow.holds Try.pinned (OpenSpec.ofChange turnAllWrong)

/-- 'beadlelaw5.IdsKnown': WHATEVER THE INPUT: true; the input reads as it did. -/
def idsKnownSpec : ChangeSpec := { name := "idsKnown", fn := fun _ => fun
  | [] => { results := [.lit (.bool true)], args := [] }
  | _ => none }
def idsKnownRow : OpenClaim := { program := "ytjihjmanndhdhaa", sum := "7df53afd8ca42f0cefc56054cc4342b22aa91178f90068cefe71b1a5f141938a", func := "beadle/beadlelaw5.IdsKnown", spec := "idsKnown", apart := false }
def IdsKnownSaid : Prop := idsKnownRow.holds Try.pinned (OpenSpec.ofChange idsKnownSpec)

/-- ITS FALSE NEIGHBOUR: 'it returns false'. Refute it at one input. -/
def idsKnownWrong : ChangeSpec := { name := "idsKnown", fn := fun _ => fun
  | [] => { results := [.lit (.bool false)], args := [] }
  | _ => none }
def IdsKnownWrongFalsely : Prop := idsKnownRow.holds Try.pinned (OpenSpec.ofChange idsKnownWrong)

/-- 'beadlelaw5.IdsPlays': WHATEVER THE INPUT: true; the input reads as it did. -/
def idsPlaysSpec : ChangeSpec := { name := "idsPlays", fn := fun _ => fun
  | [d1, d2] => { results := [.lit (.bool true)], args := [d1, d2] }
  | _ => none }
def idsPlaysRow : OpenClaim := { program := "ytjihjmanndhdhaa", sum := "7df53afd8ca42f0cefc56054cc4342b22aa91178f90068cefe71b1a5f141938a", func := "beadle/beadlelaw5.IdsPlays", spec := "idsPlays", apart := false }
def IdsPlaysSaid : Prop := idsPlaysRow.holds Try.pinned (OpenSpec.ofChange idsPlaysSpec)

/-- ITS FALSE NEIGHBOUR: 'it returns false'. Refute it at one input. -/
def idsPlaysWrong : ChangeSpec := { name := "idsPlays", fn := fun _ => fun
  | [d1, d2] => { results := [.lit (.bool false)], args := [d1, d2] }
  | _ => none }
def IdsPlaysWrongFalsely : Prop := idsPlaysRow.holds Try.pinned (OpenSpec.ofChange idsPlaysWrong)

/-- 'beadlelaw5.IdsOnce': WHATEVER THE INPUT: true; the input reads as it did. -/
def idsOnceSpec : ChangeSpec := { name := "idsOnce", fn := fun _ => fun
  | [d1, d2] => { results := [.lit (.bool true)], args := [d1, d2] }
  | _ => none }
def idsOnceRow : OpenClaim := { program := "ytjihjmanndhdhaa", sum := "7df53afd8ca42f0cefc56054cc4342b22aa91178f90068cefe71b1a5f141938a", func := "beadle/beadlelaw5.IdsOnce", spec := "idsOnce", apart := false }
def IdsOnceSaid : Prop := idsOnceRow.holds Try.pinned (OpenSpec.ofChange idsOnceSpec)

/-- ITS FALSE NEIGHBOUR: 'it returns false'. Refute it at one input. -/
def idsOnceWrong : ChangeSpec := { name := "idsOnce", fn := fun _ => fun
  | [d1, d2] => { results := [.lit (.bool false)], args := [d1, d2] }
  | _ => none }
def IdsOnceWrongFalsely : Prop := idsOnceRow.holds Try.pinned (OpenSpec.ofChange idsOnceWrong)

/-- 'beadlelaw8.TurnKnown': WHATEVER THE INPUT: true; the input reads as it did. -/
def turnKnownSpec : ChangeSpec := { name := "turnKnown", fn := fun _ => fun
  | [] => { results := [.lit (.bool true)], args := [] }
  | _ => none }
def turnKnownRow : OpenClaim := { program := "ytjihjmanndhdhaa", sum := "7df53afd8ca42f0cefc56054cc4342b22aa91178f90068cefe71b1a5f141938a", func := "beadle/beadlelaw8.TurnKnown", spec := "turnKnown", apart := false }
def TurnKnownSaid : Prop := turnKnownRow.holds Try.pinned (OpenSpec.ofChange turnKnownSpec)

/-- ITS FALSE NEIGHBOUR: 'it returns false'. Refute it at one input. -/
def turnKnownWrong : ChangeSpec := { name := "turnKnown", fn := fun _ => fun
  | [] => { results := [.lit (.bool false)], args := [] }
  | _ => none }
def TurnKnownWrongFalsely : Prop := turnKnownRow.holds Try.pinned (OpenSpec.ofChange turnKnownWrong)

/-- 'beadlelaw8.TurnPlays': WHATEVER THE INPUT: true; the input reads as it did. -/
def turnPlaysSpec : ChangeSpec := { name := "turnPlays", fn := fun _ => fun
  | [d] => { results := [.lit (.bool true)], args := [d] }
  | _ => none }
def turnPlaysRow : OpenClaim := { program := "ytjihjmanndhdhaa", sum := "7df53afd8ca42f0cefc56054cc4342b22aa91178f90068cefe71b1a5f141938a", func := "beadle/beadlelaw8.TurnPlays", spec := "turnPlays", apart := false }
def TurnPlaysSaid : Prop := turnPlaysRow.holds Try.pinned (OpenSpec.ofChange turnPlaysSpec)

/-- ITS FALSE NEIGHBOUR: 'it returns false'. Refute it at one input. -/
def turnPlaysWrong : ChangeSpec := { name := "turnPlays", fn := fun _ => fun
  | [d] => { results := [.lit (.bool false)], args := [d] }
  | _ => none }
def TurnPlaysWrongFalsely : Prop := turnPlaysRow.holds Try.pinned (OpenSpec.ofChange turnPlaysWrong)

/-- 'beadlelaw8.TurnLeaves': WHATEVER THE INPUT: true; the input reads as it did. -/
def turnLeavesSpec : ChangeSpec := { name := "turnLeaves", fn := fun _ => fun
  | [d1, d2] => { results := [.lit (.bool true)], args := [d1, d2] }
  | _ => none }
def turnLeavesRow : OpenClaim := { program := "ytjihjmanndhdhaa", sum := "7df53afd8ca42f0cefc56054cc4342b22aa91178f90068cefe71b1a5f141938a", func := "beadle/beadlelaw8.TurnLeaves", spec := "turnLeaves", apart := false }
def TurnLeavesSaid : Prop := turnLeavesRow.holds Try.pinned (OpenSpec.ofChange turnLeavesSpec)

/-- ITS FALSE NEIGHBOUR: 'it returns false'. Refute it at one input. -/
def turnLeavesWrong : ChangeSpec := { name := "turnLeaves", fn := fun _ => fun
  | [d1, d2] => { results := [.lit (.bool false)], args := [d1, d2] }
  | _ => none }
def TurnLeavesWrongFalsely : Prop := turnLeavesRow.holds Try.pinned (OpenSpec.ofChange turnLeavesWrong)

/- THE SECOND FORM. 'bulk': how many values and letters a reading holds, each counted each time it is reached (what is shared counts as often as it is met; a slice's spare places count too). A statement '..UptoSaid' is the law's where the arguments, and the package variables that the reading takes, are together of bulk at most 1048576: NARROWER than '..Said'. Prove '..Said' where nothing that the law and all that it calls make is longer than what came in: it says more and counts as full. Else prove '..UptoSaid'. A law counts once. -/
mutual
def uptoBulk {H : Type} : DataW H → Nat
  | .lit (.string bytes) => bytes.length + 1
  | .lit _ => 1
  | .nil => 1
  | .ptr d => uptoBulk d + 1
  | .slice elems spare => uptoBulkAll elems + uptoBulkAll spare + 1
  | .agg parts => uptoBulkAll parts + 1
  | .iface _ d => uptoBulk d + 1
  | .map entries => uptoBulkEntries entries + 1
  | .held _ => 1
def uptoBulkAll {H : Type} : List (DataW H) → Nat
  | [] => 0
  | d :: r => uptoBulk d + uptoBulkAll r
def uptoBulkEntries {H : Type} : List (Lit × DataW H) → Nat
  | [] => 0
  | x :: r => uptoBulkEntry x + uptoBulkEntries r
def uptoBulkEntry {H : Type} : Lit × DataW H → Nat
  | (.string bytes, d) => bytes.length + uptoBulk d + 1
  | (_, d) => uptoBulk d + 1
 end
def uptoSmall : (H : Type) → List (DataW H) → Bool := fun _ ds => decide (uptoBulkAll ds ≤ 1048576)
def OpenSpec.upto (s : _root_.Go.ChangeSpec) : _root_.Go.OpenSpec := { _root_.Go.OpenSpec.ofChange s with cond := some uptoSmall }

/-- 'beadlelaw19.GateLess', WHERE WHAT IT READS IS OF BULK AT MOST 1048576: true; the input reads as it did. -/
def gateLessUptoRow : OpenClaim := { program := "ytjihjmanndhdhaa", sum := "7df53afd8ca42f0cefc56054cc4342b22aa91178f90068cefe71b1a5f141938a", func := "beadle/beadlelaw19.GateLess", spec := "gateLess", apart := false, narrowed := true }
def GateLessUptoSaid : Prop := gateLessUptoRow.holds Try.pinned (OpenSpec.upto gateLessSpec)

/-- 'beadlelaw5.IdsParts', WHERE WHAT IT READS IS OF BULK AT MOST 1048576: true; the input reads as it did. -/
def idsPartsUptoRow : OpenClaim := { program := "ytjihjmanndhdhaa", sum := "7df53afd8ca42f0cefc56054cc4342b22aa91178f90068cefe71b1a5f141938a", func := "beadle/beadlelaw5.IdsParts", spec := "idsParts", apart := false, narrowed := true }
def IdsPartsUptoSaid : Prop := idsPartsUptoRow.holds Try.pinned (OpenSpec.upto idsPartsSpec)

/-- 'beadlelaw19.GateKnown', WHERE WHAT IT READS IS OF BULK AT MOST 1048576: true; the input reads as it did. -/
def gateKnownUptoRow : OpenClaim := { program := "ytjihjmanndhdhaa", sum := "7df53afd8ca42f0cefc56054cc4342b22aa91178f90068cefe71b1a5f141938a", func := "beadle/beadlelaw19.GateKnown", spec := "gateKnown", apart := false, narrowed := true }
def GateKnownUptoSaid : Prop := gateKnownUptoRow.holds Try.pinned (OpenSpec.upto gateKnownSpec)

/-- 'beadlelaw19.GateSays', WHERE WHAT IT READS IS OF BULK AT MOST 1048576: true; the input reads as it did. -/
def gateSaysUptoRow : OpenClaim := { program := "ytjihjmanndhdhaa", sum := "7df53afd8ca42f0cefc56054cc4342b22aa91178f90068cefe71b1a5f141938a", func := "beadle/beadlelaw19.GateSays", spec := "gateSays", apart := false, narrowed := true }
def GateSaysUptoSaid : Prop := gateSaysUptoRow.holds Try.pinned (OpenSpec.upto gateSaysSpec)

/-- 'beadlelaw19.GateSwells', WHERE WHAT IT READS IS OF BULK AT MOST 1048576: true; the input reads as it did. -/
def gateSwellsUptoRow : OpenClaim := { program := "ytjihjmanndhdhaa", sum := "7df53afd8ca42f0cefc56054cc4342b22aa91178f90068cefe71b1a5f141938a", func := "beadle/beadlelaw19.GateSwells", spec := "gateSwells", apart := false, narrowed := true }
def GateSwellsUptoSaid : Prop := gateSwellsUptoRow.holds Try.pinned (OpenSpec.upto gateSwellsSpec)

/-- 'beadlelaw8.TurnAll', WHERE WHAT IT READS IS OF BULK AT MOST 1048576: true; the input reads as it did. -/
def turnAllUptoRow : OpenClaim := { program := "ytjihjmanndhdhaa", sum := "7df53afd8ca42f0cefc56054cc4342b22aa91178f90068cefe71b1a5f141938a", func := "beadle/beadlelaw8.TurnAll", spec := "turnAll", apart := false, narrowed := true }
def TurnAllUptoSaid : Prop := turnAllUptoRow.holds Try.pinned (OpenSpec.upto turnAllSpec)

/-- 'beadlelaw5.IdsKnown', WHERE WHAT IT READS IS OF BULK AT MOST 1048576: true; the input reads as it did. -/
def idsKnownUptoRow : OpenClaim := { program := "ytjihjmanndhdhaa", sum := "7df53afd8ca42f0cefc56054cc4342b22aa91178f90068cefe71b1a5f141938a", func := "beadle/beadlelaw5.IdsKnown", spec := "idsKnown", apart := false, narrowed := true }
def IdsKnownUptoSaid : Prop := idsKnownUptoRow.holds Try.pinned (OpenSpec.upto idsKnownSpec)

/-- 'beadlelaw5.IdsPlays', WHERE WHAT IT READS IS OF BULK AT MOST 1048576: true; the input reads as it did. -/
def idsPlaysUptoRow : OpenClaim := { program := "ytjihjmanndhdhaa", sum := "7df53afd8ca42f0cefc56054cc4342b22aa91178f90068cefe71b1a5f141938a", func := "beadle/beadlelaw5.IdsPlays", spec := "idsPlays", apart := false, narrowed := true }
def IdsPlaysUptoSaid : Prop := idsPlaysUptoRow.holds Try.pinned (OpenSpec.upto idsPlaysSpec)

/-- 'beadlelaw5.IdsOnce', WHERE WHAT IT READS IS OF BULK AT MOST 1048576: true; the input reads as it did. -/
def idsOnceUptoRow : OpenClaim := { program := "ytjihjmanndhdhaa", sum := "7df53afd8ca42f0cefc56054cc4342b22aa91178f90068cefe71b1a5f141938a", func := "beadle/beadlelaw5.IdsOnce", spec := "idsOnce", apart := false, narrowed := true }
def IdsOnceUptoSaid : Prop := idsOnceUptoRow.holds Try.pinned (OpenSpec.upto idsOnceSpec)

/-- 'beadlelaw8.TurnKnown', WHERE WHAT IT READS IS OF BULK AT MOST 1048576: true; the input reads as it did. -/
def turnKnownUptoRow : OpenClaim := { program := "ytjihjmanndhdhaa", sum := "7df53afd8ca42f0cefc56054cc4342b22aa91178f90068cefe71b1a5f141938a", func := "beadle/beadlelaw8.TurnKnown", spec := "turnKnown", apart := false, narrowed := true }
def TurnKnownUptoSaid : Prop := turnKnownUptoRow.holds Try.pinned (OpenSpec.upto turnKnownSpec)

/-- 'beadlelaw8.TurnPlays', WHERE WHAT IT READS IS OF BULK AT MOST 1048576: true; the input reads as it did. -/
def turnPlaysUptoRow : OpenClaim := { program := "ytjihjmanndhdhaa", sum := "7df53afd8ca42f0cefc56054cc4342b22aa91178f90068cefe71b1a5f141938a", func := "beadle/beadlelaw8.TurnPlays", spec := "turnPlays", apart := false, narrowed := true }
def TurnPlaysUptoSaid : Prop := turnPlaysUptoRow.holds Try.pinned (OpenSpec.upto turnPlaysSpec)

/-- 'beadlelaw8.TurnLeaves', WHERE WHAT IT READS IS OF BULK AT MOST 1048576: true; the input reads as it did. -/
def turnLeavesUptoRow : OpenClaim := { program := "ytjihjmanndhdhaa", sum := "7df53afd8ca42f0cefc56054cc4342b22aa91178f90068cefe71b1a5f141938a", func := "beadle/beadlelaw8.TurnLeaves", spec := "turnLeaves", apart := false, narrowed := true }
def TurnLeavesUptoSaid : Prop := turnLeavesUptoRow.holds Try.pinned (OpenSpec.upto turnLeavesSpec)

end Rows
end Go.Proofs.Ytjihjmanndhdhaa
