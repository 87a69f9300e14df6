/-
  No cell of these rows narrows 'for every input' (looked for: loops, veiled, ifaces, maps, wideKeys, modest, calm, conditions, laid).
  DERIVED. THE GIVEN ROWS OF THIS SEAT. 11 by the template 'for every input the law returns true; each argument reads behind the call as it read before'; 0 by the template 'total and deterministic' (their statements: YtgijjmcjobjoeaaTotals.lean).
  GIVEN WITH THE SEED: the statements are not yours to turn. If you find one false, say at which input.
  Laid BY PROGRAM, IN A SANDBOX (cutbox-rows.mjs): the forced cells as the released guide's own fill.sh prints them over the translation afe7244f3b7152ec… (all of the seat's roots in one cut). By AI agents, Wed Nov 11 2026. No macro, syntax, notation, axiom, sorry.
-/
import Derived.Test.YtgijjmcjobjoeaaChecked
import GoSem.Claim
import GoSem.ClaimJoined
import GoSem.ClaimMapViews
import Derived.JoinedTies
import Derived.KernelRfl
namespace Go.Proofs.Ytgijjmcjobjoeaa
/- THE CELL 'sum', in the pinned program and in every row, IS THE sha256 OF THE DUMP (.gsa) THAT YtgijjmcjobjoeaaProg.lean LOADS. Nothing in Lean hashes anything: it is a label: what it is worth is what the hold of that sum in a sandbox is worth. -/
noncomputable def Try.pinned : Pinned := { name := "ytgijjmcjobjoeaa", sum := "afe7244f3b7152ecf2c4854276ab7044cfdcefb4960bfa8b97b74260e6493b00", checked := Try.checked }
namespace Rows
def none {H : Type} : Left H := { results := [], args := [] }

/-- 'cardboxlaw22.WindowCuts': WHATEVER THE INPUT: true; the input reads as it did. -/
def windowCutsSpec : ChangeSpec := { name := "windowCuts", fn := fun _ => fun
  | [d1, d2] => { results := [.lit (.bool true)], args := [d1, d2] }
  | _ => none }
def windowCutsRow : OpenClaim := { program := "ytgijjmcjobjoeaa", sum := "afe7244f3b7152ecf2c4854276ab7044cfdcefb4960bfa8b97b74260e6493b00", func := "cardbox/cardboxlaw22.WindowCuts", spec := "windowCuts", apart := false }
def WindowCutsSaid : Prop := windowCutsRow.holds Try.pinned (OpenSpec.ofChange windowCutsSpec)

/-- ITS FALSE NEIGHBOUR: 'it returns false'. Refute it at one input. -/
def windowCutsWrong : ChangeSpec := { name := "windowCuts", fn := fun _ => fun
  | [d1, d2] => { results := [.lit (.bool false)], args := [d1, d2] }
  | _ => none }
def WindowCutsWrongFalsely : Prop := windowCutsRow.holds Try.pinned (OpenSpec.ofChange windowCutsWrong)

/-- 'cardboxlaw22.WindowParts': WHATEVER THE INPUT: true; the input reads as it did. -/
def windowPartsSpec : ChangeSpec := { name := "windowParts", fn := fun _ => fun
  | [d1, d2] => { results := [.lit (.bool true)], args := [d1, d2] }
  | _ => none }
def windowPartsRow : OpenClaim := { program := "ytgijjmcjobjoeaa", sum := "afe7244f3b7152ecf2c4854276ab7044cfdcefb4960bfa8b97b74260e6493b00", func := "cardbox/cardboxlaw22.WindowParts", spec := "windowParts", apart := false }
def WindowPartsSaid : Prop := windowPartsRow.holds Try.pinned (OpenSpec.ofChange windowPartsSpec)

/-- ITS FALSE NEIGHBOUR: 'it returns false'. Refute it at one input. -/
def windowPartsWrong : ChangeSpec := { name := "windowParts", fn := fun _ => fun
  | [d1, d2] => { results := [.lit (.bool false)], args := [d1, d2] }
  | _ => none }
def WindowPartsWrongFalsely : Prop := windowPartsRow.holds Try.pinned (OpenSpec.ofChange windowPartsWrong)

/-- 'cardboxlaw22.WindowEnds': WHATEVER THE INPUT: true; the input reads as it did. -/
def windowEndsSpec : ChangeSpec := { name := "windowEnds", fn := fun _ => fun
  | [d1, d2] => { results := [.lit (.bool true)], args := [d1, d2] }
  | _ => none }
def windowEndsRow : OpenClaim := { program := "ytgijjmcjobjoeaa", sum := "afe7244f3b7152ecf2c4854276ab7044cfdcefb4960bfa8b97b74260e6493b00", func := "cardbox/cardboxlaw22.WindowEnds", spec := "windowEnds", apart := false }
def WindowEndsSaid : Prop := windowEndsRow.holds Try.pinned (OpenSpec.ofChange windowEndsSpec)

/-- ITS FALSE NEIGHBOUR: 'it returns false'. Refute it at one input. -/
def windowEndsWrong : ChangeSpec := { name := "windowEnds", fn := fun _ => fun
  | [d1, d2] => { results := [.lit (.bool false)], args := [d1, d2] }
  | _ => none }
def WindowEndsWrongFalsely : Prop := windowEndsRow.holds Try.pinned (OpenSpec.ofChange windowEndsWrong)

/-- 'cardboxlaw22.WindowAnchors': WHATEVER THE INPUT: true; the input reads as it did. -/
def windowAnchorsSpec : ChangeSpec := { name := "windowAnchors", fn := fun _ => fun
  | [d1, d2, d3, d4] => { results := [.lit (.bool true)], args := [d1, d2, d3, d4] }
  | _ => none }
def windowAnchorsRow : OpenClaim := { program := "ytgijjmcjobjoeaa", sum := "afe7244f3b7152ecf2c4854276ab7044cfdcefb4960bfa8b97b74260e6493b00", func := "cardbox/cardboxlaw22.WindowAnchors", spec := "windowAnchors", apart := false }
def WindowAnchorsSaid : Prop := windowAnchorsRow.holds Try.pinned (OpenSpec.ofChange windowAnchorsSpec)

/-- ITS FALSE NEIGHBOUR: 'it returns false'. Refute it at one input. -/
def windowAnchorsWrong : ChangeSpec := { name := "windowAnchors", fn := fun _ => fun
  | [d1, d2, d3, d4] => { results := [.lit (.bool false)], args := [d1, d2, d3, d4] }
  | _ => none }
def WindowAnchorsWrongFalsely : Prop := windowAnchorsRow.holds Try.pinned (OpenSpec.ofChange windowAnchorsWrong)

/-- 'cardboxlaw22.WindowKeeps': WHATEVER THE INPUT: true; the input reads as it did. -/
def windowKeepsSpec : ChangeSpec := { name := "windowKeeps", fn := fun _ => fun
  | [d1, d2] => { results := [.lit (.bool true)], args := [d1, d2] }
  | _ => none }
def windowKeepsRow : OpenClaim := { program := "ytgijjmcjobjoeaa", sum := "afe7244f3b7152ecf2c4854276ab7044cfdcefb4960bfa8b97b74260e6493b00", func := "cardbox/cardboxlaw22.WindowKeeps", spec := "windowKeeps", apart := false }
def WindowKeepsSaid : Prop := windowKeepsRow.holds Try.pinned (OpenSpec.ofChange windowKeepsSpec)

/-- ITS FALSE NEIGHBOUR: 'it returns false'. Refute it at one input. -/
def windowKeepsWrong : ChangeSpec := { name := "windowKeeps", fn := fun _ => fun
  | [d1, d2] => { results := [.lit (.bool false)], args := [d1, d2] }
  | _ => none }
def WindowKeepsWrongFalsely : Prop := windowKeepsRow.holds Try.pinned (OpenSpec.ofChange windowKeepsWrong)

/-- 'cardboxlaw01.UtfOnes': WHATEVER THE INPUT: true; the input reads as it did. -/
def utfOnesSpec : ChangeSpec := { name := "utfOnes", fn := fun _ => fun
  | [d1, d2] => { results := [.lit (.bool true)], args := [d1, d2] }
  | _ => none }
def utfOnesRow : OpenClaim := { program := "ytgijjmcjobjoeaa", sum := "afe7244f3b7152ecf2c4854276ab7044cfdcefb4960bfa8b97b74260e6493b00", func := "cardbox/cardboxlaw01.UtfOnes", spec := "utfOnes", unfollowed := true, recurses := true, apart := false }
def UtfOnesSaid : Prop := utfOnesRow.holds Try.pinned (OpenSpec.ofChange utfOnesSpec)

/-- ITS FALSE NEIGHBOUR: 'it returns false'. Refute it at one input. -/
def utfOnesWrong : ChangeSpec := { name := "utfOnes", fn := fun _ => fun
  | [d1, d2] => { results := [.lit (.bool false)], args := [d1, d2] }
  | _ => none }
def UtfOnesWrongFalsely : Prop := utfOnesRow.holds Try.pinned (OpenSpec.ofChange utfOnesWrong)

/-- 'cardboxlaw01.UtfPuts': WHATEVER THE INPUT: true; the input reads as it did. -/
def utfPutsSpec : ChangeSpec := { name := "utfPuts", fn := fun _ => fun
  | [d] => { results := [.lit (.bool true)], args := [d] }
  | _ => none }
def utfPutsRow : OpenClaim := { program := "ytgijjmcjobjoeaa", sum := "afe7244f3b7152ecf2c4854276ab7044cfdcefb4960bfa8b97b74260e6493b00", func := "cardbox/cardboxlaw01.UtfPuts", spec := "utfPuts", unfollowed := true, recurses := true, apart := false }
def UtfPutsSaid : Prop := utfPutsRow.holds Try.pinned (OpenSpec.ofChange utfPutsSpec)

/-- ITS FALSE NEIGHBOUR: 'it returns false'. Refute it at one input. -/
def utfPutsWrong : ChangeSpec := { name := "utfPuts", fn := fun _ => fun
  | [d] => { results := [.lit (.bool false)], args := [d] }
  | _ => none }
def UtfPutsWrongFalsely : Prop := utfPutsRow.holds Try.pinned (OpenSpec.ofChange utfPutsWrong)

/-- 'cardboxlaw01.UtfJoined': WHATEVER THE INPUT: true; the input reads as it did. -/
def utfJoinedSpec : ChangeSpec := { name := "utfJoined", fn := fun _ => fun
  | [d1, d2] => { results := [.lit (.bool true)], args := [d1, d2] }
  | _ => none }
def utfJoinedRow : OpenClaim := { program := "ytgijjmcjobjoeaa", sum := "afe7244f3b7152ecf2c4854276ab7044cfdcefb4960bfa8b97b74260e6493b00", func := "cardbox/cardboxlaw01.UtfJoined", spec := "utfJoined", unfollowed := true, recurses := true, apart := false }
def UtfJoinedSaid : Prop := utfJoinedRow.holds Try.pinned (OpenSpec.ofChange utfJoinedSpec)

/-- ITS FALSE NEIGHBOUR: 'it returns false'. Refute it at one input. -/
def utfJoinedWrong : ChangeSpec := { name := "utfJoined", fn := fun _ => fun
  | [d1, d2] => { results := [.lit (.bool false)], args := [d1, d2] }
  | _ => none }
def UtfJoinedWrongFalsely : Prop := utfJoinedRow.holds Try.pinned (OpenSpec.ofChange utfJoinedWrong)

/-- 'cardboxlaw01.UtfJoins': WHATEVER THE INPUT: true; the input reads as it did. -/
def utfJoinsSpec : ChangeSpec := { name := "utfJoins", fn := fun _ => fun
  | [d] => { results := [.lit (.bool true)], args := [d] }
  | _ => none }
def utfJoinsRow : OpenClaim := { program := "ytgijjmcjobjoeaa", sum := "afe7244f3b7152ecf2c4854276ab7044cfdcefb4960bfa8b97b74260e6493b00", func := "cardbox/cardboxlaw01.UtfJoins", spec := "utfJoins", unfollowed := true, recurses := true, apart := false }
def UtfJoinsSaid : Prop := utfJoinsRow.holds Try.pinned (OpenSpec.ofChange utfJoinsSpec)

/-- ITS FALSE NEIGHBOUR: 'it returns false'. Refute it at one input. -/
def utfJoinsWrong : ChangeSpec := { name := "utfJoins", fn := fun _ => fun
  | [d] => { results := [.lit (.bool false)], args := [d] }
  | _ => none }
def UtfJoinsWrongFalsely : Prop := utfJoinsRow.holds Try.pinned (OpenSpec.ofChange utfJoinsWrong)

/-- 'cardboxlaw01.UtfPoints': WHATEVER THE INPUT: true; the input reads as it did. -/
def utfPointsSpec : ChangeSpec := { name := "utfPoints", fn := fun _ => fun
  | [d] => { results := [.lit (.bool true)], args := [d] }
  | _ => none }
def utfPointsRow : OpenClaim := { program := "ytgijjmcjobjoeaa", sum := "afe7244f3b7152ecf2c4854276ab7044cfdcefb4960bfa8b97b74260e6493b00", func := "cardbox/cardboxlaw01.UtfPoints", spec := "utfPoints", unfollowed := true, recurses := true, apart := false }
def UtfPointsSaid : Prop := utfPointsRow.holds Try.pinned (OpenSpec.ofChange utfPointsSpec)

/-- ITS FALSE NEIGHBOUR: 'it returns false'. Refute it at one input. -/
def utfPointsWrong : ChangeSpec := { name := "utfPoints", fn := fun _ => fun
  | [d] => { results := [.lit (.bool false)], args := [d] }
  | _ => none }
def UtfPointsWrongFalsely : Prop := utfPointsRow.holds Try.pinned (OpenSpec.ofChange utfPointsWrong)

/-- 'cardboxlaw01.UtfBack': WHATEVER THE INPUT: true; the input reads as it did. -/
def utfBackSpec : ChangeSpec := { name := "utfBack", fn := fun _ => fun
  | [d1, d2] => { results := [.lit (.bool true)], args := [d1, d2] }
  | _ => none }
def utfBackRow : OpenClaim := { program := "ytgijjmcjobjoeaa", sum := "afe7244f3b7152ecf2c4854276ab7044cfdcefb4960bfa8b97b74260e6493b00", func := "cardbox/cardboxlaw01.UtfBack", spec := "utfBack", unfollowed := true, recurses := true, apart := false }
def UtfBackSaid : Prop := utfBackRow.holds Try.pinned (OpenSpec.ofChange utfBackSpec)

/-- ITS FALSE NEIGHBOUR: 'it returns false'. Refute it at one input. -/
def utfBackWrong : ChangeSpec := { name := "utfBack", fn := fun _ => fun
  | [d1, d2] => { results := [.lit (.bool false)], args := [d1, d2] }
  | _ => none }
def UtfBackWrongFalsely : Prop := utfBackRow.holds Try.pinned (OpenSpec.ofChange utfBackWrong)

/- THE SECOND FORM. 'bulk': how many values and letters a reading holds, each counted each time it is reached (what is shared counts as often as it is met; a slice's spare places count too). A statement '..UptoSaid' is the law's where the arguments, and the package variables that the reading takes, are together of bulk at most 1048576: NARROWER than '..Said'. Prove '..Said' where nothing that the law and all that it calls make is longer than what came in: it says more and counts as full. Else prove '..UptoSaid'. A law counts once. -/
mutual
def uptoBulk {H : Type} : DataW H → Nat
  | .lit (.string bytes) => bytes.length + 1
  | .lit _ => 1
  | .nil => 1
  | .ptr d => uptoBulk d + 1
  | .slice elems spare => uptoBulkAll elems + uptoBulkAll spare + 1
  | .agg parts => uptoBulkAll parts + 1
  | .iface _ d => uptoBulk d + 1
  | .map entries => uptoBulkEntries entries + 1
  | .held _ => 1
def uptoBulkAll {H : Type} : List (DataW H) → Nat
  | [] => 0
  | d :: r => uptoBulk d + uptoBulkAll r
def uptoBulkEntries {H : Type} : List (Lit × DataW H) → Nat
  | [] => 0
  | x :: r => uptoBulkEntry x + uptoBulkEntries r
def uptoBulkEntry {H : Type} : Lit × DataW H → Nat
  | (.string bytes, d) => bytes.length + uptoBulk d + 1
  | (_, d) => uptoBulk d + 1
 end
def uptoSmall : (H : Type) → List (DataW H) → Bool := fun _ ds => decide (uptoBulkAll ds ≤ 1048576)
def OpenSpec.upto (s : _root_.Go.ChangeSpec) : _root_.Go.OpenSpec := { _root_.Go.OpenSpec.ofChange s with cond := some uptoSmall }

/-- 'cardboxlaw22.WindowCuts', WHERE WHAT IT READS IS OF BULK AT MOST 1048576: true; the input reads as it did. -/
def windowCutsUptoRow : OpenClaim := { program := "ytgijjmcjobjoeaa", sum := "afe7244f3b7152ecf2c4854276ab7044cfdcefb4960bfa8b97b74260e6493b00", func := "cardbox/cardboxlaw22.WindowCuts", spec := "windowCuts", apart := false, narrowed := true }
def WindowCutsUptoSaid : Prop := windowCutsUptoRow.holds Try.pinned (OpenSpec.upto windowCutsSpec)

/-- 'cardboxlaw22.WindowParts', WHERE WHAT IT READS IS OF BULK AT MOST 1048576: true; the input reads as it did. -/
def windowPartsUptoRow : OpenClaim := { program := "ytgijjmcjobjoeaa", sum := "afe7244f3b7152ecf2c4854276ab7044cfdcefb4960bfa8b97b74260e6493b00", func := "cardbox/cardboxlaw22.WindowParts", spec := "windowParts", apart := false, narrowed := true }
def WindowPartsUptoSaid : Prop := windowPartsUptoRow.holds Try.pinned (OpenSpec.upto windowPartsSpec)

/-- 'cardboxlaw22.WindowEnds', WHERE WHAT IT READS IS OF BULK AT MOST 1048576: true; the input reads as it did. -/
def windowEndsUptoRow : OpenClaim := { program := "ytgijjmcjobjoeaa", sum := "afe7244f3b7152ecf2c4854276ab7044cfdcefb4960bfa8b97b74260e6493b00", func := "cardbox/cardboxlaw22.WindowEnds", spec := "windowEnds", apart := false, narrowed := true }
def WindowEndsUptoSaid : Prop := windowEndsUptoRow.holds Try.pinned (OpenSpec.upto windowEndsSpec)

/-- 'cardboxlaw22.WindowAnchors', WHERE WHAT IT READS IS OF BULK AT MOST 1048576: true; the input reads as it did. -/
def windowAnchorsUptoRow : OpenClaim := { program := "ytgijjmcjobjoeaa", sum := "afe7244f3b7152ecf2c4854276ab7044cfdcefb4960bfa8b97b74260e6493b00", func := "cardbox/cardboxlaw22.WindowAnchors", spec := "windowAnchors", apart := false, narrowed := true }
def WindowAnchorsUptoSaid : Prop := windowAnchorsUptoRow.holds Try.pinned (OpenSpec.upto windowAnchorsSpec)

/-- 'cardboxlaw22.WindowKeeps', WHERE WHAT IT READS IS OF BULK AT MOST 1048576: true; the input reads as it did. -/
def windowKeepsUptoRow : OpenClaim := { program := "ytgijjmcjobjoeaa", sum := "afe7244f3b7152ecf2c4854276ab7044cfdcefb4960bfa8b97b74260e6493b00", func := "cardbox/cardboxlaw22.WindowKeeps", spec := "windowKeeps", apart := false, narrowed := true }
def WindowKeepsUptoSaid : Prop := windowKeepsUptoRow.holds Try.pinned (OpenSpec.upto windowKeepsSpec)

/-- 'cardboxlaw01.UtfOnes', WHERE WHAT IT READS IS OF BULK AT MOST 1048576: true; the input reads as it did. -/
def utfOnesUptoRow : OpenClaim := { program := "ytgijjmcjobjoeaa", sum := "afe7244f3b7152ecf2c4854276ab7044cfdcefb4960bfa8b97b74260e6493b00", func := "cardbox/cardboxlaw01.UtfOnes", spec := "utfOnes", unfollowed := true, recurses := true, apart := false, narrowed := true }
def UtfOnesUptoSaid : Prop := utfOnesUptoRow.holds Try.pinned (OpenSpec.upto utfOnesSpec)

/-- 'cardboxlaw01.UtfPuts', WHERE WHAT IT READS IS OF BULK AT MOST 1048576: true; the input reads as it did. -/
def utfPutsUptoRow : OpenClaim := { program := "ytgijjmcjobjoeaa", sum := "afe7244f3b7152ecf2c4854276ab7044cfdcefb4960bfa8b97b74260e6493b00", func := "cardbox/cardboxlaw01.UtfPuts", spec := "utfPuts", unfollowed := true, recurses := true, apart := false, narrowed := true }
def UtfPutsUptoSaid : Prop := utfPutsUptoRow.holds Try.pinned (OpenSpec.upto utfPutsSpec)

/-- 'cardboxlaw01.UtfJoined', WHERE WHAT IT READS IS OF BULK AT MOST 1048576: true; the input reads as it did. -/
def utfJoinedUptoRow : OpenClaim := { program := "ytgijjmcjobjoeaa", sum := "afe7244f3b7152ecf2c4854276ab7044cfdcefb4960bfa8b97b74260e6493b00", func := "cardbox/cardboxlaw01.UtfJoined", spec := "utfJoined", unfollowed := true, recurses := true, apart := false, narrowed := true }
def UtfJoinedUptoSaid : Prop := utfJoinedUptoRow.holds Try.pinned (OpenSpec.upto utfJoinedSpec)

/-- 'cardboxlaw01.UtfJoins', WHERE WHAT IT READS IS OF BULK AT MOST 1048576: true; the input reads as it did. -/
def utfJoinsUptoRow : OpenClaim := { program := "ytgijjmcjobjoeaa", sum := "afe7244f3b7152ecf2c4854276ab7044cfdcefb4960bfa8b97b74260e6493b00", func := "cardbox/cardboxlaw01.UtfJoins", spec := "utfJoins", unfollowed := true, recurses := true, apart := false, narrowed := true }
def UtfJoinsUptoSaid : Prop := utfJoinsUptoRow.holds Try.pinned (OpenSpec.upto utfJoinsSpec)

/-- 'cardboxlaw01.UtfPoints', WHERE WHAT IT READS IS OF BULK AT MOST 1048576: true; the input reads as it did. -/
def utfPointsUptoRow : OpenClaim := { program := "ytgijjmcjobjoeaa", sum := "afe7244f3b7152ecf2c4854276ab7044cfdcefb4960bfa8b97b74260e6493b00", func := "cardbox/cardboxlaw01.UtfPoints", spec := "utfPoints", unfollowed := true, recurses := true, apart := false, narrowed := true }
def UtfPointsUptoSaid : Prop := utfPointsUptoRow.holds Try.pinned (OpenSpec.upto utfPointsSpec)

/-- 'cardboxlaw01.UtfBack', WHERE WHAT IT READS IS OF BULK AT MOST 1048576: true; the input reads as it did. -/
def utfBackUptoRow : OpenClaim := { program := "ytgijjmcjobjoeaa", sum := "afe7244f3b7152ecf2c4854276ab7044cfdcefb4960bfa8b97b74260e6493b00", func := "cardbox/cardboxlaw01.UtfBack", spec := "utfBack", unfollowed := true, recurses := true, apart := false, narrowed := true }
def UtfBackUptoSaid : Prop := utfBackUptoRow.holds Try.pinned (OpenSpec.upto utfBackSpec)

end Rows
end Go.Proofs.Ytgijjmcjobjoeaa
