/-
  DERIVED. GIVEN WITH THE SEED: THE CARDS: each row of YtbhbeakhognieaaGreatDoorRows.lean that lists a variable, with what it lists TIED to the program's text (the seventh form; the later family's looks); each row that meets fmt, with fmt's text TOLD by the authors' own Lean function (tested against real Go, not proved from fmt's source: count such statements apart). THE CARD IS WHAT COUNTS. Prove the row's statement (the work); the ties are given (YtbhbeakhognieaaGreatDoorTie.lean); close each card by the builder's one call (the guide's Derived/Test/ToyasCard.lean, 'card_holds'). Laid BY PROGRAM, IN A SANDBOX (cutbox-door.mjs). By AI agents, Wed Nov 11 2026. No macro, syntax, notation, axiom, sorry.
-/
import Derived.Test.YtbhbeakhognieaaGreatDoorRows
import GoSem.ClaimSeven
namespace Go.Proofs.YtbhbeakhognieaaGreatDoor
namespace Rows

/-- THE TIED CARD OF 'sheavelaw23.EvolveApply'. -/
def evolveApplyCard : Claim7 := { stood := { row := evolveApplyRow, standIns := [], harness := (true, "a8eaa174776034f2bd19ed976f09f19261b4b6318555334c3f2ed8cdc80dfc63"), looks := false }, kinds := [], alts := [], laidByText := true, laidKinds := [.data, .data, .data], laidTests := true, laidLooks := .later }
def EvolveApplyCardSaid : Prop := Claim7.holds Tryz.pinned (.plain (OpenSpec.ofChange evolveApplySpec)) evolveApplyCard

/-- THE TIED CARD OF 'sheavelaw23.EvolveDiff'. -/
def evolveDiffCard : Claim7 := { stood := { row := evolveDiffRow, standIns := [], harness := (true, "a8eaa174776034f2bd19ed976f09f19261b4b6318555334c3f2ed8cdc80dfc63"), looks := false }, kinds := [], alts := [], laidByText := true, laidKinds := [.data, .data, .data], laidTests := true, laidLooks := .later }
def EvolveDiffCardSaid : Prop := Claim7.holds Tryz.pinned (.plain (OpenSpec.ofChange evolveDiffSpec)) evolveDiffCard

/-- THE TIED CARD OF 'sheavelaw23.EvolveImpact'. -/
def evolveImpactCard : Claim7 := { stood := { row := evolveImpactRow, standIns := [], harness := (true, "a8eaa174776034f2bd19ed976f09f19261b4b6318555334c3f2ed8cdc80dfc63"), looks := false }, kinds := [], alts := [], laidByText := true, laidKinds := [.data, .data, .data], laidTests := true, laidLooks := .later }
def EvolveImpactCardSaid : Prop := Claim7.holds Tryz.pinned (.plain (OpenSpec.ofChange evolveImpactSpec)) evolveImpactCard

/-- THE TIED CARD OF 'sheavelaw23.EvolveBreaking'. -/
def evolveBreakingCard : Claim7 := { stood := { row := evolveBreakingRow, standIns := [], harness := (true, "a8eaa174776034f2bd19ed976f09f19261b4b6318555334c3f2ed8cdc80dfc63"), looks := false }, kinds := [], alts := [], laidByText := true, laidKinds := [.data, .data, .data], laidTests := true, laidLooks := .later }
def EvolveBreakingCardSaid : Prop := Claim7.holds Tryz.pinned (.plain (OpenSpec.ofChange evolveBreakingSpec)) evolveBreakingCard

/-- THE TIED CARD OF 'sheavelaw23.EvolveFormat'. -/
def evolveFormatCard : Claim7 := { stood := { row := evolveFormatRow, standIns := [], harness := (true, "a8eaa174776034f2bd19ed976f09f19261b4b6318555334c3f2ed8cdc80dfc63"), looks := false }, kinds := [], alts := [], laidByText := true, laidKinds := [.data, .data, .data], laidTests := true, laidLooks := .later }
def EvolveFormatCardSaid : Prop := Claim7.holds Tryz.pinned (.plain (OpenSpec.ofChange evolveFormatSpec)) evolveFormatCard

/-- THE TIED CARD OF 'sheavelaw23.EvolveNames'. -/
def evolveNamesCard : Claim7 := { stood := { row := evolveNamesRow, standIns := [], harness := (true, "a8eaa174776034f2bd19ed976f09f19261b4b6318555334c3f2ed8cdc80dfc63"), looks := false }, kinds := [], alts := [], laidByText := true, laidKinds := [.data, .data, .data], laidTests := true, laidLooks := .later }
def EvolveNamesCardSaid : Prop := Claim7.holds Tryz.pinned (.plain (OpenSpec.ofChange evolveNamesSpec)) evolveNamesCard

/-- THE TIED CARD OF 'sheavelaw23.EvolveRestored'. -/
def evolveRestoredCard : Claim7 := { stood := { row := evolveRestoredRow, standIns := [], harness := (true, "a8eaa174776034f2bd19ed976f09f19261b4b6318555334c3f2ed8cdc80dfc63"), looks := false }, kinds := [], alts := [], laidByText := true, laidKinds := [.data, .data, .data], laidTests := true, laidLooks := .later }
def EvolveRestoredCardSaid : Prop := Claim7.holds Tryz.pinned (.plain (OpenSpec.ofChange evolveRestoredSpec)) evolveRestoredCard

/-- THE TIED CARD OF 'sheavelaw23.EvolveInvert'. -/
def evolveInvertCard : Claim7 := { stood := { row := evolveInvertRow, standIns := [], harness := (true, "a8eaa174776034f2bd19ed976f09f19261b4b6318555334c3f2ed8cdc80dfc63"), looks := false }, kinds := [], alts := [], laidByText := true, laidKinds := [.data, .data, .data], laidTests := true, laidLooks := .later }
def EvolveInvertCardSaid : Prop := Claim7.holds Tryz.pinned (.plain (OpenSpec.ofChange evolveInvertSpec)) evolveInvertCard

/-- THE SECOND FORM's CARD OF 'sheavelaw23.EvolveApply'. -/
def evolveApplyUptoCard : Claim7 := { stood := { row := evolveApplyUptoRow, standIns := [], harness := (true, "a8eaa174776034f2bd19ed976f09f19261b4b6318555334c3f2ed8cdc80dfc63"), looks := false }, kinds := [], alts := [], laidByText := true, laidKinds := [.data, .data, .data], laidTests := true, laidLooks := .later }
def EvolveApplyUptoCardSaid : Prop := Claim7.holds Tryz.pinned (.plain (OpenSpec.upto evolveApplySpec)) evolveApplyUptoCard

/-- THE SECOND FORM's CARD OF 'sheavelaw23.EvolveDiff'. -/
def evolveDiffUptoCard : Claim7 := { stood := { row := evolveDiffUptoRow, standIns := [], harness := (true, "a8eaa174776034f2bd19ed976f09f19261b4b6318555334c3f2ed8cdc80dfc63"), looks := false }, kinds := [], alts := [], laidByText := true, laidKinds := [.data, .data, .data], laidTests := true, laidLooks := .later }
def EvolveDiffUptoCardSaid : Prop := Claim7.holds Tryz.pinned (.plain (OpenSpec.upto evolveDiffSpec)) evolveDiffUptoCard

/-- THE SECOND FORM's CARD OF 'sheavelaw23.EvolveImpact'. -/
def evolveImpactUptoCard : Claim7 := { stood := { row := evolveImpactUptoRow, standIns := [], harness := (true, "a8eaa174776034f2bd19ed976f09f19261b4b6318555334c3f2ed8cdc80dfc63"), looks := false }, kinds := [], alts := [], laidByText := true, laidKinds := [.data, .data, .data], laidTests := true, laidLooks := .later }
def EvolveImpactUptoCardSaid : Prop := Claim7.holds Tryz.pinned (.plain (OpenSpec.upto evolveImpactSpec)) evolveImpactUptoCard

/-- THE SECOND FORM's CARD OF 'sheavelaw23.EvolveBreaking'. -/
def evolveBreakingUptoCard : Claim7 := { stood := { row := evolveBreakingUptoRow, standIns := [], harness := (true, "a8eaa174776034f2bd19ed976f09f19261b4b6318555334c3f2ed8cdc80dfc63"), looks := false }, kinds := [], alts := [], laidByText := true, laidKinds := [.data, .data, .data], laidTests := true, laidLooks := .later }
def EvolveBreakingUptoCardSaid : Prop := Claim7.holds Tryz.pinned (.plain (OpenSpec.upto evolveBreakingSpec)) evolveBreakingUptoCard

/-- THE SECOND FORM's CARD OF 'sheavelaw23.EvolveFormat'. -/
def evolveFormatUptoCard : Claim7 := { stood := { row := evolveFormatUptoRow, standIns := [], harness := (true, "a8eaa174776034f2bd19ed976f09f19261b4b6318555334c3f2ed8cdc80dfc63"), looks := false }, kinds := [], alts := [], laidByText := true, laidKinds := [.data, .data, .data], laidTests := true, laidLooks := .later }
def EvolveFormatUptoCardSaid : Prop := Claim7.holds Tryz.pinned (.plain (OpenSpec.upto evolveFormatSpec)) evolveFormatUptoCard

/-- THE SECOND FORM's CARD OF 'sheavelaw23.EvolveNames'. -/
def evolveNamesUptoCard : Claim7 := { stood := { row := evolveNamesUptoRow, standIns := [], harness := (true, "a8eaa174776034f2bd19ed976f09f19261b4b6318555334c3f2ed8cdc80dfc63"), looks := false }, kinds := [], alts := [], laidByText := true, laidKinds := [.data, .data, .data], laidTests := true, laidLooks := .later }
def EvolveNamesUptoCardSaid : Prop := Claim7.holds Tryz.pinned (.plain (OpenSpec.upto evolveNamesSpec)) evolveNamesUptoCard

/-- THE SECOND FORM's CARD OF 'sheavelaw23.EvolveRestored'. -/
def evolveRestoredUptoCard : Claim7 := { stood := { row := evolveRestoredUptoRow, standIns := [], harness := (true, "a8eaa174776034f2bd19ed976f09f19261b4b6318555334c3f2ed8cdc80dfc63"), looks := false }, kinds := [], alts := [], laidByText := true, laidKinds := [.data, .data, .data], laidTests := true, laidLooks := .later }
def EvolveRestoredUptoCardSaid : Prop := Claim7.holds Tryz.pinned (.plain (OpenSpec.upto evolveRestoredSpec)) evolveRestoredUptoCard

/-- THE SECOND FORM's CARD OF 'sheavelaw23.EvolveInvert'. -/
def evolveInvertUptoCard : Claim7 := { stood := { row := evolveInvertUptoRow, standIns := [], harness := (true, "a8eaa174776034f2bd19ed976f09f19261b4b6318555334c3f2ed8cdc80dfc63"), looks := false }, kinds := [], alts := [], laidByText := true, laidKinds := [.data, .data, .data], laidTests := true, laidLooks := .later }
def EvolveInvertUptoCardSaid : Prop := Claim7.holds Tryz.pinned (.plain (OpenSpec.upto evolveInvertSpec)) evolveInvertUptoCard
end Rows
end Go.Proofs.YtbhbeakhognieaaGreatDoor
