/-
  No cell of these rows narrows 'for every input' (looked for: loops, veiled, ifaces, maps, wideKeys, modest, calm, conditions, laid).
  DERIVED. THE GIVEN ROWS OF THIS SEAT. 4 by the template 'for every input the law returns true; each argument reads behind the call as it read before'; 0 by the template 'total and deterministic' (their statements: YtfimkmlgnmaopaaGreatTotals.lean).
  GIVEN WITH THE SEED: the statements are not yours to turn. If you find one false, say at which input.
  Laid BY PROGRAM, IN A SANDBOX (cutbox-rows.mjs): the forced cells as the released guide's own fill.sh prints them over the translation e76dd360cc07e5fe… (all of the seat's roots in one cut). By AI agents, Wed Nov 11 2026. No macro, syntax, notation, axiom, sorry.
-/
import Derived.Test.YtfimkmlgnmaopaaGreatChecked
import GoSem.Claim
import GoSem.ClaimJoined
import GoSem.ClaimMapViews
import Derived.JoinedTies
import Derived.KernelRfl
namespace Go.Proofs.YtfimkmlgnmaopaaGreat
/- THE CELL 'sum', in the pinned program and in every row, IS THE sha256 OF THE DUMP (.gsa) THAT YtfimkmlgnmaopaaGreatProg.lean LOADS. Nothing in Lean hashes anything: it is a label: what it is worth is what the hold of that sum in a sandbox is worth. -/
noncomputable def Tryz.pinned : Pinned := { name := "ytfimkmlgnmaopaagreat", sum := "e76dd360cc07e5fe1a8deb8f621e7dbf3162d1f284e21d8fb6257c698e13735c", checked := Tryz.checked }
namespace Rows
def none {H : Type} : Left H := { results := [], args := [] }

/-- 'beadletop.TopNames': WHATEVER THE INPUT: true; the input reads as it did. -/
def topNamesSpec : ChangeSpec := { name := "topNames", fn := fun _ => fun
  | [] => { results := [.lit (.bool true)], args := [] }
  | _ => none }
def topNamesRow : OpenClaim := { program := "ytfimkmlgnmaopaagreat", sum := "e76dd360cc07e5fe1a8deb8f621e7dbf3162d1f284e21d8fb6257c698e13735c", func := "beadle/beadletop.TopNames", spec := "topNames", inPlace := ["slices.overlaps[beadle/model.Serv]"], unfollowed := true, recurses := true, apart := false }
def TopNamesSaid : Prop := topNamesRow.holds Tryz.pinned (OpenSpec.ofChange topNamesSpec)

/-- ITS FALSE NEIGHBOUR: 'it returns false'. Refute it at one input. -/
def topNamesWrong : ChangeSpec := { name := "topNames", fn := fun _ => fun
  | [] => { results := [.lit (.bool false)], args := [] }
  | _ => none }
def TopNamesWrongFalsely : Prop := topNamesRow.holds Tryz.pinned (OpenSpec.ofChange topNamesWrong)

/-- 'beadletop.TopWindows': WHATEVER THE INPUT: true; the input reads as it did. -/
def topWindowsSpec : ChangeSpec := { name := "topWindows", fn := fun _ => fun
  | [d1, d2, d3, d4] => { results := [.lit (.bool true)], args := [d1, d2, d3, d4] }
  | _ => none }
def topWindowsRow : OpenClaim := { program := "ytfimkmlgnmaopaagreat", sum := "e76dd360cc07e5fe1a8deb8f621e7dbf3162d1f284e21d8fb6257c698e13735c", func := "beadle/beadletop.TopWindows", spec := "topWindows", inPlace := ["slices.overlaps[beadle/model.Serv]"], unfollowed := true, recurses := true, apart := false }
def TopWindowsSaid : Prop := topWindowsRow.holds Tryz.pinned (OpenSpec.ofChange topWindowsSpec)

/-- ITS FALSE NEIGHBOUR: 'it returns false'. Refute it at one input. -/
def topWindowsWrong : ChangeSpec := { name := "topWindows", fn := fun _ => fun
  | [d1, d2, d3, d4] => { results := [.lit (.bool false)], args := [d1, d2, d3, d4] }
  | _ => none }
def TopWindowsWrongFalsely : Prop := topWindowsRow.holds Tryz.pinned (OpenSpec.ofChange topWindowsWrong)

/-- 'beadletop.TopSems': WHATEVER THE INPUT: true; the input reads as it did. -/
def topSemsSpec : ChangeSpec := { name := "topSems", fn := fun _ => fun
  | [d1, d2, d3, d4] => { results := [.lit (.bool true)], args := [d1, d2, d3, d4] }
  | _ => none }
def topSemsRow : OpenClaim := { program := "ytfimkmlgnmaopaagreat", sum := "e76dd360cc07e5fe1a8deb8f621e7dbf3162d1f284e21d8fb6257c698e13735c", func := "beadle/beadletop.TopSems", spec := "topSems", inPlace := ["slices.overlaps[beadle/model.Serv]"], unfollowed := true, recurses := true, apart := false }
def TopSemsSaid : Prop := topSemsRow.holds Tryz.pinned (OpenSpec.ofChange topSemsSpec)

/-- ITS FALSE NEIGHBOUR: 'it returns false'. Refute it at one input. -/
def topSemsWrong : ChangeSpec := { name := "topSems", fn := fun _ => fun
  | [d1, d2, d3, d4] => { results := [.lit (.bool false)], args := [d1, d2, d3, d4] }
  | _ => none }
def TopSemsWrongFalsely : Prop := topSemsRow.holds Tryz.pinned (OpenSpec.ofChange topSemsWrong)

/-- 'beadletop.TopWaits': WHATEVER THE INPUT: true; the input reads as it did. -/
def topWaitsSpec : ChangeSpec := { name := "topWaits", fn := fun _ => fun
  | [d1, d2, d3, d4] => { results := [.lit (.bool true)], args := [d1, d2, d3, d4] }
  | _ => none }
def topWaitsRow : OpenClaim := { program := "ytfimkmlgnmaopaagreat", sum := "e76dd360cc07e5fe1a8deb8f621e7dbf3162d1f284e21d8fb6257c698e13735c", func := "beadle/beadletop.TopWaits", spec := "topWaits", inPlace := ["slices.overlaps[beadle/model.Serv]"], unfollowed := true, recurses := true, apart := false }
def TopWaitsSaid : Prop := topWaitsRow.holds Tryz.pinned (OpenSpec.ofChange topWaitsSpec)

/-- ITS FALSE NEIGHBOUR: 'it returns false'. Refute it at one input. -/
def topWaitsWrong : ChangeSpec := { name := "topWaits", fn := fun _ => fun
  | [d1, d2, d3, d4] => { results := [.lit (.bool false)], args := [d1, d2, d3, d4] }
  | _ => none }
def TopWaitsWrongFalsely : Prop := topWaitsRow.holds Tryz.pinned (OpenSpec.ofChange topWaitsWrong)

/- THE SECOND FORM. 'bulk': how many values and letters a reading holds, each counted each time it is reached (what is shared counts as often as it is met; a slice's spare places count too). A statement '..UptoSaid' is the law's where the arguments, and the package variables that the reading takes, are together of bulk at most 1048576: NARROWER than '..Said'. Prove '..Said' where nothing that the law and all that it calls make is longer than what came in: it says more and counts as full. Else prove '..UptoSaid'. A law counts once. -/
mutual
def uptoBulk {H : Type} : DataW H → Nat
  | .lit (.string bytes) => bytes.length + 1
  | .lit _ => 1
  | .nil => 1
  | .ptr d => uptoBulk d + 1
  | .slice elems spare => uptoBulkAll elems + uptoBulkAll spare + 1
  | .agg parts => uptoBulkAll parts + 1
  | .iface _ d => uptoBulk d + 1
  | .map entries => uptoBulkEntries entries + 1
  | .held _ => 1
def uptoBulkAll {H : Type} : List (DataW H) → Nat
  | [] => 0
  | d :: r => uptoBulk d + uptoBulkAll r
def uptoBulkEntries {H : Type} : List (Lit × DataW H) → Nat
  | [] => 0
  | x :: r => uptoBulkEntry x + uptoBulkEntries r
def uptoBulkEntry {H : Type} : Lit × DataW H → Nat
  | (.string bytes, d) => bytes.length + uptoBulk d + 1
  | (_, d) => uptoBulk d + 1
 end
def uptoSmall : (H : Type) → List (DataW H) → Bool := fun _ ds => decide (uptoBulkAll ds ≤ 1048576)
def OpenSpec.upto (s : _root_.Go.ChangeSpec) : _root_.Go.OpenSpec := { _root_.Go.OpenSpec.ofChange s with cond := some uptoSmall }

/-- 'beadletop.TopNames', WHERE WHAT IT READS IS OF BULK AT MOST 1048576: true; the input reads as it did. -/
def topNamesUptoRow : OpenClaim := { program := "ytfimkmlgnmaopaagreat", sum := "e76dd360cc07e5fe1a8deb8f621e7dbf3162d1f284e21d8fb6257c698e13735c", func := "beadle/beadletop.TopNames", spec := "topNames", inPlace := ["slices.overlaps[beadle/model.Serv]"], unfollowed := true, recurses := true, apart := false, narrowed := true }
def TopNamesUptoSaid : Prop := topNamesUptoRow.holds Tryz.pinned (OpenSpec.upto topNamesSpec)

/-- 'beadletop.TopWindows', WHERE WHAT IT READS IS OF BULK AT MOST 1048576: true; the input reads as it did. -/
def topWindowsUptoRow : OpenClaim := { program := "ytfimkmlgnmaopaagreat", sum := "e76dd360cc07e5fe1a8deb8f621e7dbf3162d1f284e21d8fb6257c698e13735c", func := "beadle/beadletop.TopWindows", spec := "topWindows", inPlace := ["slices.overlaps[beadle/model.Serv]"], unfollowed := true, recurses := true, apart := false, narrowed := true }
def TopWindowsUptoSaid : Prop := topWindowsUptoRow.holds Tryz.pinned (OpenSpec.upto topWindowsSpec)

/-- 'beadletop.TopSems', WHERE WHAT IT READS IS OF BULK AT MOST 1048576: true; the input reads as it did. -/
def topSemsUptoRow : OpenClaim := { program := "ytfimkmlgnmaopaagreat", sum := "e76dd360cc07e5fe1a8deb8f621e7dbf3162d1f284e21d8fb6257c698e13735c", func := "beadle/beadletop.TopSems", spec := "topSems", inPlace := ["slices.overlaps[beadle/model.Serv]"], unfollowed := true, recurses := true, apart := false, narrowed := true }
def TopSemsUptoSaid : Prop := topSemsUptoRow.holds Tryz.pinned (OpenSpec.upto topSemsSpec)

/-- 'beadletop.TopWaits', WHERE WHAT IT READS IS OF BULK AT MOST 1048576: true; the input reads as it did. -/
def topWaitsUptoRow : OpenClaim := { program := "ytfimkmlgnmaopaagreat", sum := "e76dd360cc07e5fe1a8deb8f621e7dbf3162d1f284e21d8fb6257c698e13735c", func := "beadle/beadletop.TopWaits", spec := "topWaits", inPlace := ["slices.overlaps[beadle/model.Serv]"], unfollowed := true, recurses := true, apart := false, narrowed := true }
def TopWaitsUptoSaid : Prop := topWaitsUptoRow.holds Tryz.pinned (OpenSpec.upto topWaitsSpec)

end Rows
end Go.Proofs.YtfimkmlgnmaopaaGreat
