/-
  DERIVED. GIVEN WITH THE SEED: THE CARDS: each row of YtebfnglhbfkkdaaDoorRows.lean that lists a variable, with what it lists TIED to the program's text (the seventh form; the later family's looks); each row that meets fmt, with fmt's text TOLD by the authors' own Lean function (tested against real Go, not proved from fmt's source: count such statements apart). THE CARD IS WHAT COUNTS. Prove the row's statement (the work); the ties are given (YtebfnglhbfkkdaaDoorTie.lean); close each card by the builder's one call (the guide's Derived/Test/ToyasCard.lean, 'card_holds'). Laid BY PROGRAM, IN A SANDBOX (cutbox-door.mjs). By AI agents, Wed Nov 11 2026. No macro, syntax, notation, axiom, sorry.
-/
import Derived.Test.YtebfnglhbfkkdaaDoorRows
import GoSem.ClaimSeven
namespace Go.Proofs.YtebfnglhbfkkdaaDoor
namespace Rows

/-- THE TIED CARD OF 'cardboxlaw12.WordForms'. -/
def wordFormsCard : Claim7 := { stood := { row := wordFormsRow, standIns := [], harness := (true, "7eab2788336f3778dffc7845e7216bd000d7c36c985c34c0ccfa644360a0dd45"), looks := false }, kinds := [], alts := [], laidByText := true, laidKinds := [.data, .pinned], laidTests := true, laidLooks := .later }
def WordFormsCardSaid : Prop := Claim7.holds Tryd.pinned (.plain (OpenSpec.ofChange wordFormsSpec)) wordFormsCard

/-- THE TIED CARD OF 'cardboxlaw12.WordIns'. -/
def wordInsCard : Claim7 := { stood := { row := wordInsRow, standIns := [], harness := (true, "7eab2788336f3778dffc7845e7216bd000d7c36c985c34c0ccfa644360a0dd45"), looks := false }, kinds := [], alts := [], laidByText := true, laidKinds := [.data, .pinned], laidTests := true, laidLooks := .later }
def WordInsCardSaid : Prop := Claim7.holds Tryd.pinned (.plain (OpenSpec.ofChange wordInsSpec)) wordInsCard

/-- THE TIED CARD OF 'cardboxlaw12.WordParts'. -/
def wordPartsCard : Claim7 := { stood := { row := wordPartsRow, standIns := [], harness := (true, "7eab2788336f3778dffc7845e7216bd000d7c36c985c34c0ccfa644360a0dd45"), looks := false }, kinds := [], alts := [], laidByText := true, laidKinds := [.data, .pinned], laidTests := true, laidLooks := .later }
def WordPartsCardSaid : Prop := Claim7.holds Tryd.pinned (.plain (OpenSpec.ofChange wordPartsSpec)) wordPartsCard

/-- THE TIED CARD OF 'cardboxlaw12.WordLonger'. -/
def wordLongerCard : Claim7 := { stood := { row := wordLongerRow, standIns := [], harness := (true, "7eab2788336f3778dffc7845e7216bd000d7c36c985c34c0ccfa644360a0dd45"), looks := false }, kinds := [], alts := [], laidByText := true, laidKinds := [.data, .pinned], laidTests := true, laidLooks := .later }
def WordLongerCardSaid : Prop := Claim7.holds Tryd.pinned (.plain (OpenSpec.ofChange wordLongerSpec)) wordLongerCard

/-- THE TIED CARD OF 'cardboxlaw12.WordLists'. -/
def wordListsCard : Claim7 := { stood := { row := wordListsRow, standIns := [], harness := (true, "7eab2788336f3778dffc7845e7216bd000d7c36c985c34c0ccfa644360a0dd45"), looks := false }, kinds := [], alts := [], laidByText := true, laidKinds := [.data, .pinned], laidTests := true, laidLooks := .later }
def WordListsCardSaid : Prop := Claim7.holds Tryd.pinned (.plain (OpenSpec.ofChange wordListsSpec)) wordListsCard

/-- THE SECOND FORM's CARD OF 'cardboxlaw12.WordForms'. -/
def wordFormsUptoCard : Claim7 := { stood := { row := wordFormsUptoRow, standIns := [], harness := (true, "7eab2788336f3778dffc7845e7216bd000d7c36c985c34c0ccfa644360a0dd45"), looks := false }, kinds := [], alts := [], laidByText := true, laidKinds := [.data, .pinned], laidTests := true, laidLooks := .later }
def WordFormsUptoCardSaid : Prop := Claim7.holds Tryd.pinned (.plain (OpenSpec.upto wordFormsSpec)) wordFormsUptoCard

/-- THE SECOND FORM's CARD OF 'cardboxlaw12.WordIns'. -/
def wordInsUptoCard : Claim7 := { stood := { row := wordInsUptoRow, standIns := [], harness := (true, "7eab2788336f3778dffc7845e7216bd000d7c36c985c34c0ccfa644360a0dd45"), looks := false }, kinds := [], alts := [], laidByText := true, laidKinds := [.data, .pinned], laidTests := true, laidLooks := .later }
def WordInsUptoCardSaid : Prop := Claim7.holds Tryd.pinned (.plain (OpenSpec.upto wordInsSpec)) wordInsUptoCard

/-- THE SECOND FORM's CARD OF 'cardboxlaw12.WordParts'. -/
def wordPartsUptoCard : Claim7 := { stood := { row := wordPartsUptoRow, standIns := [], harness := (true, "7eab2788336f3778dffc7845e7216bd000d7c36c985c34c0ccfa644360a0dd45"), looks := false }, kinds := [], alts := [], laidByText := true, laidKinds := [.data, .pinned], laidTests := true, laidLooks := .later }
def WordPartsUptoCardSaid : Prop := Claim7.holds Tryd.pinned (.plain (OpenSpec.upto wordPartsSpec)) wordPartsUptoCard

/-- THE SECOND FORM's CARD OF 'cardboxlaw12.WordLonger'. -/
def wordLongerUptoCard : Claim7 := { stood := { row := wordLongerUptoRow, standIns := [], harness := (true, "7eab2788336f3778dffc7845e7216bd000d7c36c985c34c0ccfa644360a0dd45"), looks := false }, kinds := [], alts := [], laidByText := true, laidKinds := [.data, .pinned], laidTests := true, laidLooks := .later }
def WordLongerUptoCardSaid : Prop := Claim7.holds Tryd.pinned (.plain (OpenSpec.upto wordLongerSpec)) wordLongerUptoCard

/-- THE SECOND FORM's CARD OF 'cardboxlaw12.WordLists'. -/
def wordListsUptoCard : Claim7 := { stood := { row := wordListsUptoRow, standIns := [], harness := (true, "7eab2788336f3778dffc7845e7216bd000d7c36c985c34c0ccfa644360a0dd45"), looks := false }, kinds := [], alts := [], laidByText := true, laidKinds := [.data, .pinned], laidTests := true, laidLooks := .later }
def WordListsUptoCardSaid : Prop := Claim7.holds Tryd.pinned (.plain (OpenSpec.upto wordListsSpec)) wordListsUptoCard
end Rows
end Go.Proofs.YtebfnglhbfkkdaaDoor
