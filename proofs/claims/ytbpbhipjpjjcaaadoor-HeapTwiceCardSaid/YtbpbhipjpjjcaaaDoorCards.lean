/-
  DERIVED. GIVEN WITH THE SEED: THE CARDS: each row of YtbpbhipjpjjcaaaDoorRows.lean that lists a variable, with what it lists TIED to the program's text (the seventh form; the later family's looks); each row that meets fmt, with fmt's text TOLD by the authors' own Lean function (tested against real Go, not proved from fmt's source: count such statements apart). THE CARD IS WHAT COUNTS. Prove the row's statement (the work); the ties are given (YtbpbhipjpjjcaaaDoorTie.lean); close each card by the builder's one call (the guide's Derived/Test/ToyasCard.lean, 'card_holds'). Laid BY PROGRAM, IN A SANDBOX (cutbox-door.mjs). By AI agents, Wed Nov 11 2026. No macro, syntax, notation, axiom, sorry.
-/
import Derived.Test.YtbpbhipjpjjcaaaDoorRows
import GoSem.ClaimSeven
namespace Go.Proofs.YtbpbhipjpjjcaaaDoor
namespace Rows

/-- THE TIED CARD OF 'battledorelaw09.HeapNumbers'. -/
def heapNumbersCard : Claim7 := { stood := { row := heapNumbersRow, standIns := [], harness := (true, "0e3c5affe53ab4b029580ee9d6645a9f0928fa60a4c23764696f19ff2bcf37f9"), looks := false }, kinds := [], alts := [], laidByText := true, laidKinds := [.sentinel], laidTests := true, laidLooks := .later }
def HeapNumbersCardSaid : Prop := Claim7.holds Tryd.pinned (.plain (OpenSpec.ofChange heapNumbersSpec)) heapNumbersCard

/-- THE TIED CARD OF 'battledorelaw09.HeapCopies'. -/
def heapCopiesCard : Claim7 := { stood := { row := heapCopiesRow, standIns := [], harness := (true, "0e3c5affe53ab4b029580ee9d6645a9f0928fa60a4c23764696f19ff2bcf37f9"), looks := false }, kinds := [], alts := [], laidByText := true, laidKinds := [.sentinel], laidTests := true, laidLooks := .later }
def HeapCopiesCardSaid : Prop := Claim7.holds Tryd.pinned (.plain (OpenSpec.ofChange heapCopiesSpec)) heapCopiesCard

/-- THE TIED CARD OF 'battledorelaw09.HeapTwice'. -/
def heapTwiceCard : Claim7 := { stood := { row := heapTwiceRow, standIns := [], harness := (true, "0e3c5affe53ab4b029580ee9d6645a9f0928fa60a4c23764696f19ff2bcf37f9"), looks := false }, kinds := [], alts := [], laidByText := true, laidKinds := [.sentinel], laidTests := true, laidLooks := .later }
def HeapTwiceCardSaid : Prop := Claim7.holds Tryd.pinned (.plain (OpenSpec.ofChange heapTwiceSpec)) heapTwiceCard

/-- THE TIED CARD OF 'battledorelaw09.HeapPlays'. -/
def heapPlaysCard : Claim7 := { stood := { row := heapPlaysRow, standIns := [], harness := (true, "0e3c5affe53ab4b029580ee9d6645a9f0928fa60a4c23764696f19ff2bcf37f9"), looks := false }, kinds := [], alts := [], laidByText := true, laidKinds := [.sentinel], laidTests := true, laidLooks := .later }
def HeapPlaysCardSaid : Prop := Claim7.holds Tryd.pinned (.plain (OpenSpec.ofChange heapPlaysSpec)) heapPlaysCard

/-- THE TIED CARD OF 'battledorelaw09.HeapErrs'. -/
def heapErrsCard : Claim7 := { stood := { row := heapErrsRow, standIns := [], harness := (true, "0e3c5affe53ab4b029580ee9d6645a9f0928fa60a4c23764696f19ff2bcf37f9"), looks := false }, kinds := [], alts := [], laidByText := true, laidKinds := [.sentinel], laidTests := true, laidLooks := .later }
def HeapErrsCardSaid : Prop := Claim7.holds Tryd.pinned (.plain (OpenSpec.ofChange heapErrsSpec)) heapErrsCard

/-- THE SECOND FORM's CARD OF 'battledorelaw09.HeapNumbers'. -/
def heapNumbersUptoCard : Claim7 := { stood := { row := heapNumbersUptoRow, standIns := [], harness := (true, "0e3c5affe53ab4b029580ee9d6645a9f0928fa60a4c23764696f19ff2bcf37f9"), looks := false }, kinds := [], alts := [], laidByText := true, laidKinds := [.sentinel], laidTests := true, laidLooks := .later }
def HeapNumbersUptoCardSaid : Prop := Claim7.holds Tryd.pinned (.plain (OpenSpec.upto heapNumbersSpec)) heapNumbersUptoCard

/-- THE SECOND FORM's CARD OF 'battledorelaw09.HeapCopies'. -/
def heapCopiesUptoCard : Claim7 := { stood := { row := heapCopiesUptoRow, standIns := [], harness := (true, "0e3c5affe53ab4b029580ee9d6645a9f0928fa60a4c23764696f19ff2bcf37f9"), looks := false }, kinds := [], alts := [], laidByText := true, laidKinds := [.sentinel], laidTests := true, laidLooks := .later }
def HeapCopiesUptoCardSaid : Prop := Claim7.holds Tryd.pinned (.plain (OpenSpec.upto heapCopiesSpec)) heapCopiesUptoCard

/-- THE SECOND FORM's CARD OF 'battledorelaw09.HeapTwice'. -/
def heapTwiceUptoCard : Claim7 := { stood := { row := heapTwiceUptoRow, standIns := [], harness := (true, "0e3c5affe53ab4b029580ee9d6645a9f0928fa60a4c23764696f19ff2bcf37f9"), looks := false }, kinds := [], alts := [], laidByText := true, laidKinds := [.sentinel], laidTests := true, laidLooks := .later }
def HeapTwiceUptoCardSaid : Prop := Claim7.holds Tryd.pinned (.plain (OpenSpec.upto heapTwiceSpec)) heapTwiceUptoCard

/-- THE SECOND FORM's CARD OF 'battledorelaw09.HeapPlays'. -/
def heapPlaysUptoCard : Claim7 := { stood := { row := heapPlaysUptoRow, standIns := [], harness := (true, "0e3c5affe53ab4b029580ee9d6645a9f0928fa60a4c23764696f19ff2bcf37f9"), looks := false }, kinds := [], alts := [], laidByText := true, laidKinds := [.sentinel], laidTests := true, laidLooks := .later }
def HeapPlaysUptoCardSaid : Prop := Claim7.holds Tryd.pinned (.plain (OpenSpec.upto heapPlaysSpec)) heapPlaysUptoCard

/-- THE SECOND FORM's CARD OF 'battledorelaw09.HeapErrs'. -/
def heapErrsUptoCard : Claim7 := { stood := { row := heapErrsUptoRow, standIns := [], harness := (true, "0e3c5affe53ab4b029580ee9d6645a9f0928fa60a4c23764696f19ff2bcf37f9"), looks := false }, kinds := [], alts := [], laidByText := true, laidKinds := [.sentinel], laidTests := true, laidLooks := .later }
def HeapErrsUptoCardSaid : Prop := Claim7.holds Tryd.pinned (.plain (OpenSpec.upto heapErrsSpec)) heapErrsUptoCard
end Rows
end Go.Proofs.YtbpbhipjpjjcaaaDoor
