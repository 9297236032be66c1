/-
  DERIVED. GIVEN WITH THE SEED: THE CARDS: each row of YteebpnbdihcfmaaGreatDoorRows.lean that lists a variable, with what it lists TIED to the program's text (the seventh form; the later family's looks); each row that meets fmt, with fmt's text TOLD by the authors' own Lean function (tested against real Go, not proved from fmt's source: count such statements apart). THE CARD IS WHAT COUNTS. Prove the row's statement (the work); the ties are given (YteebpnbdihcfmaaGreatDoorTie.lean); close each card by the builder's one call (the guide's Derived/Test/ToyasCard.lean, 'card_holds'). Laid BY PROGRAM, IN A SANDBOX (cutbox-door.mjs). By AI agents, Wed Nov 11 2026. No macro, syntax, notation, axiom, sorry.
-/
import Derived.Test.YteebpnbdihcfmaaGreatDoorRows
import GoSem.ClaimSeven
namespace Go.Proofs.YteebpnbdihcfmaaGreatDoor
namespace Rows

/-- THE TIED CARD OF 'soffitlaw17.TripsOf'. -/
def tripsOfCard : Claim7 := { stood := { row := tripsOfRow, standIns := [], harness := (true, "ae89559be6f3f1c25477181a4cbe676ea3c7ebf123649ba42140ead2c499d2b3"), looks := false }, kinds := [], alts := [], laidByText := true, laidKinds := [.data], laidTests := true, laidLooks := .later }
def TripsOfCardSaid : Prop := Claim7.holds Tryz.pinned (.plain (OpenSpec.ofChange tripsOfSpec)) tripsOfCard

/-- THE TIED CARD OF 'soffitlaw17.TripsTrue'. -/
def tripsTrueCard : Claim7 := { stood := { row := tripsTrueRow, standIns := [], harness := (true, "ae89559be6f3f1c25477181a4cbe676ea3c7ebf123649ba42140ead2c499d2b3"), looks := false }, kinds := [], alts := [], laidByText := true, laidKinds := [.data], laidTests := true, laidLooks := .later }
def TripsTrueCardSaid : Prop := Claim7.holds Tryz.pinned (.plain (OpenSpec.ofChange tripsTrueSpec)) tripsTrueCard

/-- THE SECOND FORM's CARD OF 'soffitlaw17.TripsOf'. -/
def tripsOfUptoCard : Claim7 := { stood := { row := tripsOfUptoRow, standIns := [], harness := (true, "ae89559be6f3f1c25477181a4cbe676ea3c7ebf123649ba42140ead2c499d2b3"), looks := false }, kinds := [], alts := [], laidByText := true, laidKinds := [.data], laidTests := true, laidLooks := .later }
def TripsOfUptoCardSaid : Prop := Claim7.holds Tryz.pinned (.plain (OpenSpec.upto tripsOfSpec)) tripsOfUptoCard

/-- THE SECOND FORM's CARD OF 'soffitlaw17.TripsTrue'. -/
def tripsTrueUptoCard : Claim7 := { stood := { row := tripsTrueUptoRow, standIns := [], harness := (true, "ae89559be6f3f1c25477181a4cbe676ea3c7ebf123649ba42140ead2c499d2b3"), looks := false }, kinds := [], alts := [], laidByText := true, laidKinds := [.data], laidTests := true, laidLooks := .later }
def TripsTrueUptoCardSaid : Prop := Claim7.holds Tryz.pinned (.plain (OpenSpec.upto tripsTrueSpec)) tripsTrueUptoCard
end Rows
end Go.Proofs.YteebpnbdihcfmaaGreatDoor
