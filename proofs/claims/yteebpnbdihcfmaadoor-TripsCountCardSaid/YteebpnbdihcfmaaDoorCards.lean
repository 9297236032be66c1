/-
  DERIVED. GIVEN WITH THE SEED: THE CARDS: each row of YteebpnbdihcfmaaDoorRows.lean that lists a variable, with what it lists TIED to the program's text (the seventh form; the later family's looks); each row that meets fmt, with fmt's text TOLD by the authors' own Lean function (tested against real Go, not proved from fmt's source: count such statements apart). THE CARD IS WHAT COUNTS. Prove the row's statement (the work); the ties are given (YteebpnbdihcfmaaDoorTie.lean); close each card by the builder's one call (the guide's Derived/Test/ToyasCard.lean, 'card_holds'). Laid BY PROGRAM, IN A SANDBOX (cutbox-door.mjs). By AI agents, Wed Nov 11 2026. No macro, syntax, notation, axiom, sorry.
-/
import Derived.Test.YteebpnbdihcfmaaDoorRows
import GoSem.ClaimSeven
namespace Go.Proofs.YteebpnbdihcfmaaDoor
namespace Rows

/-- THE TIED CARD OF 'soffitlaw17.TripsCount'. -/
def tripsCountCard : Claim7 := { stood := { row := tripsCountRow, standIns := [], harness := (true, "42588d2b946efa8b871e86284d7ea4e631d4458683cd0a2200f659a31f9fefa4"), looks := false }, kinds := [], alts := [], laidByText := true, laidKinds := [.data], laidTests := true, laidLooks := .later }
def TripsCountCardSaid : Prop := Claim7.holds Tryd.pinned (.plain (OpenSpec.ofChange tripsCountSpec)) tripsCountCard

/-- THE SECOND FORM's CARD OF 'soffitlaw17.TripsCount'. -/
def tripsCountUptoCard : Claim7 := { stood := { row := tripsCountUptoRow, standIns := [], harness := (true, "42588d2b946efa8b871e86284d7ea4e631d4458683cd0a2200f659a31f9fefa4"), looks := false }, kinds := [], alts := [], laidByText := true, laidKinds := [.data], laidTests := true, laidLooks := .later }
def TripsCountUptoCardSaid : Prop := Claim7.holds Tryd.pinned (.plain (OpenSpec.upto tripsCountSpec)) tripsCountUptoCard
end Rows
end Go.Proofs.YteebpnbdihcfmaaDoor
