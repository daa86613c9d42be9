/-
  DERIVED. GIVEN WITH THE SEED: THE CARDS: each row of YtilmmmokobhnfaaDoorRows.lean that lists a variable, with what it lists TIED to the program's text (the seventh form; the later family's looks); each row that meets fmt, with fmt's text TOLD by the authors' own Lean function (tested against real Go, not proved from fmt's source: count such statements apart). THE CARD IS WHAT COUNTS. Prove the row's statement (the work); the ties are given (YtilmmmokobhnfaaDoorTie.lean); close each card by the builder's one call (the guide's Derived/Test/ToyasCard.lean, 'card_holds'). Laid BY PROGRAM, IN A SANDBOX (cutbox-door.mjs). By AI agents, Wed Nov 11 2026. No macro, syntax, notation, axiom, sorry.
-/
import Derived.Test.YtilmmmokobhnfaaDoorRows
import GoSem.ClaimSeven
namespace Go.Proofs.YtilmmmokobhnfaaDoor
namespace Rows

/-- THE TIED CARD OF 'trimtablaw02.QuantParses'. -/
def quantParsesCard : Claim7 := { stood := { row := quantParsesRow, standIns := [], harness := (true, "f9225ff1c89a87d872181185be2d862f2f063fc3fa20f629694f8594811a9db6"), looks := true }, kinds := [], alts := [], laidByText := true, laidKinds := [.data, .data, .data, .sentinel, .sentinel], laidTests := true, laidLooks := .later }
def QuantParsesCardSaid : Prop := Claim7.holds Tryd.pinned (.plain (OpenSpec.ofChange quantParsesSpec)) quantParsesCard

/-- THE TIED CARD OF 'trimtablaw02.QuantTexts'. -/
def quantTextsCard : Claim7 := { stood := { row := quantTextsRow, standIns := [], harness := (true, "f9225ff1c89a87d872181185be2d862f2f063fc3fa20f629694f8594811a9db6"), looks := true }, kinds := [], alts := [], laidByText := true, laidKinds := [.data, .data, .data, .sentinel, .sentinel], laidTests := true, laidLooks := .later }
def QuantTextsCardSaid : Prop := Claim7.holds Tryd.pinned (.plain (OpenSpec.ofChange quantTextsSpec)) quantTextsCard

/-- THE TIED CARD OF 'trimtablaw02.QuantTotals'. -/
def quantTotalsCard : Claim7 := { stood := { row := quantTotalsRow, standIns := [], harness := (true, "f9225ff1c89a87d872181185be2d862f2f063fc3fa20f629694f8594811a9db6"), looks := true }, kinds := [], alts := [], laidByText := true, laidKinds := [.data, .data, .data, .sentinel, .sentinel], laidTests := true, laidLooks := .later }
def QuantTotalsCardSaid : Prop := Claim7.holds Tryd.pinned (.plain (OpenSpec.ofChange quantTotalsSpec)) quantTotalsCard

/-- THE TIED CARD OF 'trimtablaw02.QuantSums'. -/
def quantSumsCard : Claim7 := { stood := { row := quantSumsRow, standIns := [], harness := (true, "f9225ff1c89a87d872181185be2d862f2f063fc3fa20f629694f8594811a9db6"), looks := true }, kinds := [], alts := [], laidByText := true, laidKinds := [.data, .data, .data, .sentinel, .sentinel], laidTests := true, laidLooks := .later }
def QuantSumsCardSaid : Prop := Claim7.holds Tryd.pinned (.plain (OpenSpec.ofChange quantSumsSpec)) quantSumsCard

/-- THE SECOND FORM's CARD OF 'trimtablaw02.QuantParses'. -/
def quantParsesUptoCard : Claim7 := { stood := { row := quantParsesUptoRow, standIns := [], harness := (true, "f9225ff1c89a87d872181185be2d862f2f063fc3fa20f629694f8594811a9db6"), looks := true }, kinds := [], alts := [], laidByText := true, laidKinds := [.data, .data, .data, .sentinel, .sentinel], laidTests := true, laidLooks := .later }
def QuantParsesUptoCardSaid : Prop := Claim7.holds Tryd.pinned (.plain (OpenSpec.upto quantParsesSpec)) quantParsesUptoCard

/-- THE SECOND FORM's CARD OF 'trimtablaw02.QuantTexts'. -/
def quantTextsUptoCard : Claim7 := { stood := { row := quantTextsUptoRow, standIns := [], harness := (true, "f9225ff1c89a87d872181185be2d862f2f063fc3fa20f629694f8594811a9db6"), looks := true }, kinds := [], alts := [], laidByText := true, laidKinds := [.data, .data, .data, .sentinel, .sentinel], laidTests := true, laidLooks := .later }
def QuantTextsUptoCardSaid : Prop := Claim7.holds Tryd.pinned (.plain (OpenSpec.upto quantTextsSpec)) quantTextsUptoCard

/-- THE SECOND FORM's CARD OF 'trimtablaw02.QuantTotals'. -/
def quantTotalsUptoCard : Claim7 := { stood := { row := quantTotalsUptoRow, standIns := [], harness := (true, "f9225ff1c89a87d872181185be2d862f2f063fc3fa20f629694f8594811a9db6"), looks := true }, kinds := [], alts := [], laidByText := true, laidKinds := [.data, .data, .data, .sentinel, .sentinel], laidTests := true, laidLooks := .later }
def QuantTotalsUptoCardSaid : Prop := Claim7.holds Tryd.pinned (.plain (OpenSpec.upto quantTotalsSpec)) quantTotalsUptoCard

/-- THE SECOND FORM's CARD OF 'trimtablaw02.QuantSums'. -/
def quantSumsUptoCard : Claim7 := { stood := { row := quantSumsUptoRow, standIns := [], harness := (true, "f9225ff1c89a87d872181185be2d862f2f063fc3fa20f629694f8594811a9db6"), looks := true }, kinds := [], alts := [], laidByText := true, laidKinds := [.data, .data, .data, .sentinel, .sentinel], laidTests := true, laidLooks := .later }
def QuantSumsUptoCardSaid : Prop := Claim7.holds Tryd.pinned (.plain (OpenSpec.upto quantSumsSpec)) quantSumsUptoCard
end Rows
end Go.Proofs.YtilmmmokobhnfaaDoor
