/-
  DERIVED. GIVEN WITH THE SEED: THE CARDS: each row of YtaimmacnafoanaaGreatDoorRows.lean that lists a variable, with what it lists TIED to the program's text (the seventh form; the later family's looks); each row that meets fmt, with fmt's text TOLD by the authors' own Lean function (tested against real Go, not proved from fmt's source: count such statements apart). THE CARD IS WHAT COUNTS. Prove the row's statement (the work); the ties are given (YtaimmacnafoanaaGreatDoorTie.lean); close each card by the builder's one call (the guide's Derived/Test/ToyasCard.lean, 'card_holds'). Laid BY PROGRAM, IN A SANDBOX (cutbox-door.mjs). By AI agents, Wed Nov 11 2026. No macro, syntax, notation, axiom, sorry.
-/
import Derived.Test.YtaimmacnafoanaaGreatDoorRows
import GoSem.ClaimSeven
namespace Go.Proofs.YtaimmacnafoanaaGreatDoor
namespace Rows

/-- THE TIED CARD OF 'transhumancetop.TopBurst'. -/
def topBurstCard : Claim7 := { stood := { row := topBurstRow, standIns := [], harness := (true, "5fd80c9097958c6ae34ff2a2b1ebcc64cd8e83705de2a889316502434af2b693"), looks := true }, kinds := [], alts := [], laidByText := true, laidKinds := [.data, .data, .data, .data, .sentinel, .sentinel, .pinned], laidTests := true, laidLooks := .later }
def TopBurstCardSaid : Prop := Claim7.holds Tryz.pinned (.plain (OpenSpec.ofChange topBurstSpec)) topBurstCard

/-- THE TIED CARD OF 'transhumancetop.TopBound'. -/
def topBoundCard : Claim7 := { stood := { row := topBoundRow, standIns := [], harness := (true, "5fd80c9097958c6ae34ff2a2b1ebcc64cd8e83705de2a889316502434af2b693"), looks := true }, kinds := [], alts := [], laidByText := true, laidKinds := [.data, .data, .data, .data, .sentinel, .sentinel, .pinned], laidTests := true, laidLooks := .later }
def TopBoundCardSaid : Prop := Claim7.holds Tryz.pinned (.plain (OpenSpec.ofChange topBoundSpec)) topBoundCard

/-- THE TIED CARD OF 'transhumancetop.TopCounts'. -/
def topCountsCard : Claim7 := { stood := { row := topCountsRow, standIns := [], harness := (true, "5fd80c9097958c6ae34ff2a2b1ebcc64cd8e83705de2a889316502434af2b693"), looks := true }, kinds := [], alts := [], laidByText := true, laidKinds := [.data, .data, .data, .data, .sentinel, .sentinel, .pinned], laidTests := true, laidLooks := .later }
def TopCountsCardSaid : Prop := Claim7.holds Tryz.pinned (.plain (OpenSpec.ofChange topCountsSpec)) topCountsCard

/-- THE TIED CARD OF 'transhumancetop.TopSnap'. -/
def topSnapCard : Claim7 := { stood := { row := topSnapRow, standIns := [], harness := (true, "5fd80c9097958c6ae34ff2a2b1ebcc64cd8e83705de2a889316502434af2b693"), looks := true }, kinds := [], alts := [], laidByText := true, laidKinds := [.data, .data, .data, .data, .sentinel, .sentinel, .pinned], laidTests := true, laidLooks := .later }
def TopSnapCardSaid : Prop := Claim7.holds Tryz.pinned (.plain (OpenSpec.ofChange topSnapSpec)) topSnapCard

/-- THE SECOND FORM's CARD OF 'transhumancetop.TopBurst'. -/
def topBurstUptoCard : Claim7 := { stood := { row := topBurstUptoRow, standIns := [], harness := (true, "5fd80c9097958c6ae34ff2a2b1ebcc64cd8e83705de2a889316502434af2b693"), looks := true }, kinds := [], alts := [], laidByText := true, laidKinds := [.data, .data, .data, .data, .sentinel, .sentinel, .pinned], laidTests := true, laidLooks := .later }
def TopBurstUptoCardSaid : Prop := Claim7.holds Tryz.pinned (.plain (OpenSpec.upto topBurstSpec)) topBurstUptoCard

/-- THE SECOND FORM's CARD OF 'transhumancetop.TopBound'. -/
def topBoundUptoCard : Claim7 := { stood := { row := topBoundUptoRow, standIns := [], harness := (true, "5fd80c9097958c6ae34ff2a2b1ebcc64cd8e83705de2a889316502434af2b693"), looks := true }, kinds := [], alts := [], laidByText := true, laidKinds := [.data, .data, .data, .data, .sentinel, .sentinel, .pinned], laidTests := true, laidLooks := .later }
def TopBoundUptoCardSaid : Prop := Claim7.holds Tryz.pinned (.plain (OpenSpec.upto topBoundSpec)) topBoundUptoCard

/-- THE SECOND FORM's CARD OF 'transhumancetop.TopCounts'. -/
def topCountsUptoCard : Claim7 := { stood := { row := topCountsUptoRow, standIns := [], harness := (true, "5fd80c9097958c6ae34ff2a2b1ebcc64cd8e83705de2a889316502434af2b693"), looks := true }, kinds := [], alts := [], laidByText := true, laidKinds := [.data, .data, .data, .data, .sentinel, .sentinel, .pinned], laidTests := true, laidLooks := .later }
def TopCountsUptoCardSaid : Prop := Claim7.holds Tryz.pinned (.plain (OpenSpec.upto topCountsSpec)) topCountsUptoCard

/-- THE SECOND FORM's CARD OF 'transhumancetop.TopSnap'. -/
def topSnapUptoCard : Claim7 := { stood := { row := topSnapUptoRow, standIns := [], harness := (true, "5fd80c9097958c6ae34ff2a2b1ebcc64cd8e83705de2a889316502434af2b693"), looks := true }, kinds := [], alts := [], laidByText := true, laidKinds := [.data, .data, .data, .data, .sentinel, .sentinel, .pinned], laidTests := true, laidLooks := .later }
def TopSnapUptoCardSaid : Prop := Claim7.holds Tryz.pinned (.plain (OpenSpec.upto topSnapSpec)) topSnapUptoCard
end Rows
end Go.Proofs.YtaimmacnafoanaaGreatDoor
