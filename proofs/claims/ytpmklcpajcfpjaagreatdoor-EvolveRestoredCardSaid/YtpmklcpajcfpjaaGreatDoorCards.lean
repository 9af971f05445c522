/-
  DERIVED. GIVEN WITH THE SEED: THE CARDS: each row of YtpmklcpajcfpjaaGreatDoorRows.lean that lists a variable, with what it lists TIED to the program's text (the seventh form; the later family's looks); each row that meets fmt, with fmt's text TOLD by the authors' own Lean function (tested against real Go, not proved from fmt's source: count such statements apart). THE CARD IS WHAT COUNTS. Prove the row's statement (the work); the ties are given (YtpmklcpajcfpjaaGreatDoorTie.lean); close each card by the builder's one call (the guide's Derived/Test/ToyasCard.lean, 'card_holds'). Laid BY PROGRAM, IN A SANDBOX (cutbox-door.mjs). By AI agents, Wed Nov 11 2026. No macro, syntax, notation, axiom, sorry.
-/
import Derived.Test.YtpmklcpajcfpjaaGreatDoorRows
import GoSem.ClaimSeven
namespace Go.Proofs.YtpmklcpajcfpjaaGreatDoor
namespace Rows

/-- THE TIED CARD OF 'sheavelaw23.EvolveRestored'. -/
def evolveRestoredCard : Claim7 := { stood := { row := evolveRestoredRow, standIns := [], harness := (true, "e407ba1f70d44a100aa49203213353b0586d06d2ff1ab830be03ff78034bcf98"), looks := false }, kinds := [], alts := [], laidByText := true, laidKinds := [.data, .data, .data], laidTests := true, laidLooks := .later }
def EvolveRestoredCardSaid : Prop := Claim7.holds Tryz.pinned (.plain (OpenSpec.ofChange evolveRestoredSpec)) evolveRestoredCard

/-- THE SECOND FORM's CARD OF 'sheavelaw23.EvolveRestored'. -/
def evolveRestoredUptoCard : Claim7 := { stood := { row := evolveRestoredUptoRow, standIns := [], harness := (true, "e407ba1f70d44a100aa49203213353b0586d06d2ff1ab830be03ff78034bcf98"), looks := false }, kinds := [], alts := [], laidByText := true, laidKinds := [.data, .data, .data], laidTests := true, laidLooks := .later }
def EvolveRestoredUptoCardSaid : Prop := Claim7.holds Tryz.pinned (.plain (OpenSpec.upto evolveRestoredSpec)) evolveRestoredUptoCard
end Rows
end Go.Proofs.YtpmklcpajcfpjaaGreatDoor
