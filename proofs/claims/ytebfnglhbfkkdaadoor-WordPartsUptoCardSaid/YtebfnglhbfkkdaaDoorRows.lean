/-
  NARROWER THAN 'FOR EVERY INPUT', by the rows' own cells (each row's printed sentence says how): WordForms: laid · WordIns: laid · WordParts: laid · WordLonger: laid · WordLists: laid.
  DERIVED. THE GIVEN ROWS OF THIS SEAT. 5 by the template 'for every input the law returns true; each argument reads behind the call as it read before'; 0 by the template 'total and deterministic' (their statements: YtebfnglhbfkkdaaDoorTotals.lean).
  GIVEN WITH THE SEED: the statements are not yours to turn. If you find one false, say at which input.
  Laid BY PROGRAM, IN A SANDBOX (cutbox-rows.mjs): the forced cells as the released guide's own fill.sh prints them over the translation 5371f923bebc9a5a… (all of the seat's roots in one cut). By AI agents, Wed Nov 11 2026. No macro, syntax, notation, axiom, sorry.
-/
import Derived.Test.YtebfnglhbfkkdaaDoorChecked
import GoSem.PinnedTables
import GoSem.Claim
import GoSem.ClaimJoined
import GoSem.ClaimMapViews
import Derived.JoinedTies
import Derived.KernelRfl
namespace Go.Proofs.YtebfnglhbfkkdaaDoor
/- THE CELL 'sum', in the pinned program and in every row, IS THE sha256 OF THE DUMP (.gsa) THAT YtebfnglhbfkkdaaDoorProg.lean LOADS. Nothing in Lean hashes anything: it is a label: what it is worth is what the hold of that sum in a sandbox is worth. -/
noncomputable def Tryd.pinned : Pinned := { name := "ytebfnglhbfkkdaadoor", sum := "5371f923bebc9a5ab8f2060e0f01d27b769892f0a1ecc87d51e55a27d2411de6", checked := Tryd.checked }
namespace Rows
def none {H : Type} : Left H := { results := [], args := [] }

/- WHAT THE LISTED PACKAGE-LEVEL VARIABLES READ AS WHEN THE CALL BEGINS. Each datum BY PROGRAM (the guide's laid-datum.mjs) off the statement by which the dump's own 'gosem.cut.vars' lays the variable. In a bare row this is a premise. The card (YtebfnglhbfkkdaaDoorCards.lean) ties it to the program's text. -/
def laid_unicode_utf8_acceptRanges {H : Type} : DataW H := .agg [.agg [.lit (.int .u8 128), .lit (.int .u8 191)], .agg [.lit (.int .u8 160), .lit (.int .u8 191)], .agg [.lit (.int .u8 128), .lit (.int .u8 159)], .agg [.lit (.int .u8 144), .lit (.int .u8 191)], .agg [.lit (.int .u8 128), .lit (.int .u8 143)], .agg [.lit (.int .u8 0), .lit (.int .u8 0)], .agg [.lit (.int .u8 0), .lit (.int .u8 0)], .agg [.lit (.int .u8 0), .lit (.int .u8 0)], .agg [.lit (.int .u8 0), .lit (.int .u8 0)], .agg [.lit (.int .u8 0), .lit (.int .u8 0)], .agg [.lit (.int .u8 0), .lit (.int .u8 0)], .agg [.lit (.int .u8 0), .lit (.int .u8 0)], .agg [.lit (.int .u8 0), .lit (.int .u8 0)], .agg [.lit (.int .u8 0), .lit (.int .u8 0)], .agg [.lit (.int .u8 0), .lit (.int .u8 0)], .agg [.lit (.int .u8 0), .lit (.int .u8 0)]]
/-- One of Go's own tables, pinned by name: the form's constant. -/
def laid_unicode_utf8_first : DataW Unit := Go.Pinned.utf8First

/-- 'cardboxlaw12.WordForms': WHATEVER THE INPUT: true; the input reads as it did. -/
def wordFormsSpec : ChangeSpec := { name := "wordForms", fn := fun _ => fun
  | [d] => { results := [.lit (.bool true)], args := [d] }
  | _ => none }
def wordFormsRow : OpenClaim := { program := "ytebfnglhbfkkdaadoor", sum := "5371f923bebc9a5ab8f2060e0f01d27b769892f0a1ecc87d51e55a27d2411de6", func := "cardbox/cardboxlaw12.WordForms", spec := "wordForms", inPlace := ["internal/bytealg.IndexByteString", "internal/bytealg.IndexString", "internal/bytealg.CountString"], unfollowed := true, recurses := true, named := ["internal/bytealg.MaxLen", "unicode/utf8.first", "unicode/utf8.acceptRanges"], apart := false, laid := [("unicode/utf8.acceptRanges", laid_unicode_utf8_acceptRanges), ("unicode/utf8.first", laid_unicode_utf8_first)] }
def WordFormsSaid : Prop := wordFormsRow.holds Tryd.pinned (OpenSpec.ofChange wordFormsSpec)

/-- ITS FALSE NEIGHBOUR: 'it returns false'. Refute it at one input. -/
def wordFormsWrong : ChangeSpec := { name := "wordForms", fn := fun _ => fun
  | [d] => { results := [.lit (.bool false)], args := [d] }
  | _ => none }
def WordFormsWrongFalsely : Prop := wordFormsRow.holds Tryd.pinned (OpenSpec.ofChange wordFormsWrong)

/-- 'cardboxlaw12.WordIns': WHATEVER THE INPUT: true; the input reads as it did. -/
def wordInsSpec : ChangeSpec := { name := "wordIns", fn := fun _ => fun
  | [d1, d2] => { results := [.lit (.bool true)], args := [d1, d2] }
  | _ => none }
def wordInsRow : OpenClaim := { program := "ytebfnglhbfkkdaadoor", sum := "5371f923bebc9a5ab8f2060e0f01d27b769892f0a1ecc87d51e55a27d2411de6", func := "cardbox/cardboxlaw12.WordIns", spec := "wordIns", inPlace := ["internal/bytealg.IndexByteString", "internal/bytealg.IndexString", "internal/bytealg.CountString"], unfollowed := true, recurses := true, named := ["internal/bytealg.MaxLen", "unicode/utf8.first", "unicode/utf8.acceptRanges"], apart := false, laid := [("unicode/utf8.acceptRanges", laid_unicode_utf8_acceptRanges), ("unicode/utf8.first", laid_unicode_utf8_first)] }
def WordInsSaid : Prop := wordInsRow.holds Tryd.pinned (OpenSpec.ofChange wordInsSpec)

/-- ITS FALSE NEIGHBOUR: 'it returns false'. Refute it at one input. -/
def wordInsWrong : ChangeSpec := { name := "wordIns", fn := fun _ => fun
  | [d1, d2] => { results := [.lit (.bool false)], args := [d1, d2] }
  | _ => none }
def WordInsWrongFalsely : Prop := wordInsRow.holds Tryd.pinned (OpenSpec.ofChange wordInsWrong)

/-- 'cardboxlaw12.WordParts': WHATEVER THE INPUT: true; the input reads as it did. -/
def wordPartsSpec : ChangeSpec := { name := "wordParts", fn := fun _ => fun
  | [d1, d2, d3] => { results := [.lit (.bool true)], args := [d1, d2, d3] }
  | _ => none }
def wordPartsRow : OpenClaim := { program := "ytebfnglhbfkkdaadoor", sum := "5371f923bebc9a5ab8f2060e0f01d27b769892f0a1ecc87d51e55a27d2411de6", func := "cardbox/cardboxlaw12.WordParts", spec := "wordParts", inPlace := ["internal/bytealg.IndexByteString", "internal/bytealg.IndexString", "internal/bytealg.CountString"], unfollowed := true, recurses := true, named := ["internal/bytealg.MaxLen", "unicode/utf8.first", "unicode/utf8.acceptRanges"], apart := false, laid := [("unicode/utf8.acceptRanges", laid_unicode_utf8_acceptRanges), ("unicode/utf8.first", laid_unicode_utf8_first)] }
def WordPartsSaid : Prop := wordPartsRow.holds Tryd.pinned (OpenSpec.ofChange wordPartsSpec)

/-- ITS FALSE NEIGHBOUR: 'it returns false'. Refute it at one input. -/
def wordPartsWrong : ChangeSpec := { name := "wordParts", fn := fun _ => fun
  | [d1, d2, d3] => { results := [.lit (.bool false)], args := [d1, d2, d3] }
  | _ => none }
def WordPartsWrongFalsely : Prop := wordPartsRow.holds Tryd.pinned (OpenSpec.ofChange wordPartsWrong)

/-- 'cardboxlaw12.WordLonger': WHATEVER THE INPUT: true; the input reads as it did. -/
def wordLongerSpec : ChangeSpec := { name := "wordLonger", fn := fun _ => fun
  | [d1, d2] => { results := [.lit (.bool true)], args := [d1, d2] }
  | _ => none }
def wordLongerRow : OpenClaim := { program := "ytebfnglhbfkkdaadoor", sum := "5371f923bebc9a5ab8f2060e0f01d27b769892f0a1ecc87d51e55a27d2411de6", func := "cardbox/cardboxlaw12.WordLonger", spec := "wordLonger", inPlace := ["internal/bytealg.IndexByteString", "internal/bytealg.IndexString", "internal/bytealg.CountString"], unfollowed := true, recurses := true, named := ["internal/bytealg.MaxLen", "unicode/utf8.first", "unicode/utf8.acceptRanges"], apart := false, laid := [("unicode/utf8.acceptRanges", laid_unicode_utf8_acceptRanges), ("unicode/utf8.first", laid_unicode_utf8_first)] }
def WordLongerSaid : Prop := wordLongerRow.holds Tryd.pinned (OpenSpec.ofChange wordLongerSpec)

/-- ITS FALSE NEIGHBOUR: 'it returns false'. Refute it at one input. -/
def wordLongerWrong : ChangeSpec := { name := "wordLonger", fn := fun _ => fun
  | [d1, d2] => { results := [.lit (.bool false)], args := [d1, d2] }
  | _ => none }
def WordLongerWrongFalsely : Prop := wordLongerRow.holds Tryd.pinned (OpenSpec.ofChange wordLongerWrong)

/-- 'cardboxlaw12.WordLists': WHATEVER THE INPUT: true; the input reads as it did. -/
def wordListsSpec : ChangeSpec := { name := "wordLists", fn := fun _ => fun
  | [d1, d2, d3] => { results := [.lit (.bool true)], args := [d1, d2, d3] }
  | _ => none }
def wordListsRow : OpenClaim := { program := "ytebfnglhbfkkdaadoor", sum := "5371f923bebc9a5ab8f2060e0f01d27b769892f0a1ecc87d51e55a27d2411de6", func := "cardbox/cardboxlaw12.WordLists", spec := "wordLists", inPlace := ["internal/bytealg.IndexByteString", "internal/bytealg.IndexString", "internal/bytealg.CountString"], unfollowed := true, recurses := true, named := ["internal/bytealg.MaxLen", "unicode/utf8.first", "unicode/utf8.acceptRanges"], apart := false, laid := [("unicode/utf8.acceptRanges", laid_unicode_utf8_acceptRanges), ("unicode/utf8.first", laid_unicode_utf8_first)] }
def WordListsSaid : Prop := wordListsRow.holds Tryd.pinned (OpenSpec.ofChange wordListsSpec)

/-- ITS FALSE NEIGHBOUR: 'it returns false'. Refute it at one input. -/
def wordListsWrong : ChangeSpec := { name := "wordLists", fn := fun _ => fun
  | [d1, d2, d3] => { results := [.lit (.bool false)], args := [d1, d2, d3] }
  | _ => none }
def WordListsWrongFalsely : Prop := wordListsRow.holds Tryd.pinned (OpenSpec.ofChange wordListsWrong)

/- THE SECOND FORM. 'bulk': how many values and letters a reading holds, each counted each time it is reached (what is shared counts as often as it is met; a slice's spare places count too). A statement '..UptoSaid' is the law's where the arguments, and the package variables that the reading takes, are together of bulk at most 1048576: NARROWER than '..Said'. Prove '..Said' where nothing that the law and all that it calls make is longer than what came in: it says more and counts as full. Else prove '..UptoSaid'. A law counts once. -/
mutual
def uptoBulk {H : Type} : DataW H → Nat
  | .lit (.string bytes) => bytes.length + 1
  | .lit _ => 1
  | .nil => 1
  | .ptr d => uptoBulk d + 1
  | .slice elems spare => uptoBulkAll elems + uptoBulkAll spare + 1
  | .agg parts => uptoBulkAll parts + 1
  | .iface _ d => uptoBulk d + 1
  | .map entries => uptoBulkEntries entries + 1
  | .held _ => 1
def uptoBulkAll {H : Type} : List (DataW H) → Nat
  | [] => 0
  | d :: r => uptoBulk d + uptoBulkAll r
def uptoBulkEntries {H : Type} : List (Lit × DataW H) → Nat
  | [] => 0
  | x :: r => uptoBulkEntry x + uptoBulkEntries r
def uptoBulkEntry {H : Type} : Lit × DataW H → Nat
  | (.string bytes, d) => bytes.length + uptoBulk d + 1
  | (_, d) => uptoBulk d + 1
 end
def uptoSmall : (H : Type) → List (DataW H) → Bool := fun _ ds => decide (uptoBulkAll ds ≤ 1048576)
def OpenSpec.upto (s : _root_.Go.ChangeSpec) : _root_.Go.OpenSpec := { _root_.Go.OpenSpec.ofChange s with cond := some uptoSmall }

/-- 'cardboxlaw12.WordForms', WHERE WHAT IT READS IS OF BULK AT MOST 1048576: true; the input reads as it did. -/
def wordFormsUptoRow : OpenClaim := { program := "ytebfnglhbfkkdaadoor", sum := "5371f923bebc9a5ab8f2060e0f01d27b769892f0a1ecc87d51e55a27d2411de6", func := "cardbox/cardboxlaw12.WordForms", spec := "wordForms", inPlace := ["internal/bytealg.IndexByteString", "internal/bytealg.IndexString", "internal/bytealg.CountString"], unfollowed := true, recurses := true, named := ["internal/bytealg.MaxLen", "unicode/utf8.first", "unicode/utf8.acceptRanges"], apart := false, laid := [("unicode/utf8.acceptRanges", laid_unicode_utf8_acceptRanges), ("unicode/utf8.first", laid_unicode_utf8_first)], narrowed := true }
def WordFormsUptoSaid : Prop := wordFormsUptoRow.holds Tryd.pinned (OpenSpec.upto wordFormsSpec)

/-- 'cardboxlaw12.WordIns', WHERE WHAT IT READS IS OF BULK AT MOST 1048576: true; the input reads as it did. -/
def wordInsUptoRow : OpenClaim := { program := "ytebfnglhbfkkdaadoor", sum := "5371f923bebc9a5ab8f2060e0f01d27b769892f0a1ecc87d51e55a27d2411de6", func := "cardbox/cardboxlaw12.WordIns", spec := "wordIns", inPlace := ["internal/bytealg.IndexByteString", "internal/bytealg.IndexString", "internal/bytealg.CountString"], unfollowed := true, recurses := true, named := ["internal/bytealg.MaxLen", "unicode/utf8.first", "unicode/utf8.acceptRanges"], apart := false, laid := [("unicode/utf8.acceptRanges", laid_unicode_utf8_acceptRanges), ("unicode/utf8.first", laid_unicode_utf8_first)], narrowed := true }
def WordInsUptoSaid : Prop := wordInsUptoRow.holds Tryd.pinned (OpenSpec.upto wordInsSpec)

/-- 'cardboxlaw12.WordParts', WHERE WHAT IT READS IS OF BULK AT MOST 1048576: true; the input reads as it did. -/
def wordPartsUptoRow : OpenClaim := { program := "ytebfnglhbfkkdaadoor", sum := "5371f923bebc9a5ab8f2060e0f01d27b769892f0a1ecc87d51e55a27d2411de6", func := "cardbox/cardboxlaw12.WordParts", spec := "wordParts", inPlace := ["internal/bytealg.IndexByteString", "internal/bytealg.IndexString", "internal/bytealg.CountString"], unfollowed := true, recurses := true, named := ["internal/bytealg.MaxLen", "unicode/utf8.first", "unicode/utf8.acceptRanges"], apart := false, laid := [("unicode/utf8.acceptRanges", laid_unicode_utf8_acceptRanges), ("unicode/utf8.first", laid_unicode_utf8_first)], narrowed := true }
def WordPartsUptoSaid : Prop := wordPartsUptoRow.holds Tryd.pinned (OpenSpec.upto wordPartsSpec)

/-- 'cardboxlaw12.WordLonger', WHERE WHAT IT READS IS OF BULK AT MOST 1048576: true; the input reads as it did. -/
def wordLongerUptoRow : OpenClaim := { program := "ytebfnglhbfkkdaadoor", sum := "5371f923bebc9a5ab8f2060e0f01d27b769892f0a1ecc87d51e55a27d2411de6", func := "cardbox/cardboxlaw12.WordLonger", spec := "wordLonger", inPlace := ["internal/bytealg.IndexByteString", "internal/bytealg.IndexString", "internal/bytealg.CountString"], unfollowed := true, recurses := true, named := ["internal/bytealg.MaxLen", "unicode/utf8.first", "unicode/utf8.acceptRanges"], apart := false, laid := [("unicode/utf8.acceptRanges", laid_unicode_utf8_acceptRanges), ("unicode/utf8.first", laid_unicode_utf8_first)], narrowed := true }
def WordLongerUptoSaid : Prop := wordLongerUptoRow.holds Tryd.pinned (OpenSpec.upto wordLongerSpec)

/-- 'cardboxlaw12.WordLists', WHERE WHAT IT READS IS OF BULK AT MOST 1048576: true; the input reads as it did. -/
def wordListsUptoRow : OpenClaim := { program := "ytebfnglhbfkkdaadoor", sum := "5371f923bebc9a5ab8f2060e0f01d27b769892f0a1ecc87d51e55a27d2411de6", func := "cardbox/cardboxlaw12.WordLists", spec := "wordLists", inPlace := ["internal/bytealg.IndexByteString", "internal/bytealg.IndexString", "internal/bytealg.CountString"], unfollowed := true, recurses := true, named := ["internal/bytealg.MaxLen", "unicode/utf8.first", "unicode/utf8.acceptRanges"], apart := false, laid := [("unicode/utf8.acceptRanges", laid_unicode_utf8_acceptRanges), ("unicode/utf8.first", laid_unicode_utf8_first)], narrowed := true }
def WordListsUptoSaid : Prop := wordListsUptoRow.holds Tryd.pinned (OpenSpec.upto wordListsSpec)

end Rows
end Go.Proofs.YtebfnglhbfkkdaaDoor
