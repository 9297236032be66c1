/-
  DERIVED. GIVEN WITH THE SEED: THE CARDS: each row of YtgpdggjpbmgegaaDoorRows.lean that lists a variable, with what it lists TIED to the program's text (the seventh form; the later family's looks); each row that meets fmt, with fmt's text TOLD by the authors' own Lean function (tested against real Go, not proved from fmt's source: count such statements apart). THE CARD IS WHAT COUNTS. Prove the row's statement (the work); the ties are given (YtgpdggjpbmgegaaDoorTie.lean); close each card by the builder's one call (the guide's Derived/Test/ToyasCard.lean, 'card_holds'). Laid BY PROGRAM, IN A SANDBOX (cutbox-door.mjs). By AI agents, Wed Nov 11 2026. No macro, syntax, notation, axiom, sorry.
-/
import Derived.Test.YtgpdggjpbmgegaaDoorRows
import GoSem.ClaimSeven
namespace Go.Proofs.YtgpdggjpbmgegaaDoor
namespace Rows

/-- THE TIED CARD OF 'soffitlaw21.MeterNames'. -/
def meterNamesCard : Claim7 := { stood := { row := meterNamesRow, standIns := [], harness := (true, "95b3ffd6d0286da967108f95e36a69fb8fb678f3de2d447c3d23cfa2b08fab42"), looks := true }, kinds := [], alts := [], laidByText := true, laidKinds := [.data], laidTests := true, laidLooks := .later }
def MeterNamesCardSaid : Prop := Claim7.holds Tryd.pinned (.plain (OpenSpec.ofChange meterNamesSpec)) meterNamesCard

/-- THE TIED CARD OF 'soffitlaw21.MeterRuns'. -/
def meterRunsCard : Claim7 := { stood := { row := meterRunsRow, standIns := [], harness := (true, "95b3ffd6d0286da967108f95e36a69fb8fb678f3de2d447c3d23cfa2b08fab42"), looks := true }, kinds := [], alts := [], laidByText := true, laidKinds := [.data], laidTests := true, laidLooks := .later }
def MeterRunsCardSaid : Prop := Claim7.holds Tryd.pinned (.plain (OpenSpec.ofChange meterRunsSpec)) meterRunsCard

/-- THE TIED CARD OF 'soffitlaw21.MeterFuel'. -/
def meterFuelCard : Claim7 := { stood := { row := meterFuelRow, standIns := [], harness := (true, "95b3ffd6d0286da967108f95e36a69fb8fb678f3de2d447c3d23cfa2b08fab42"), looks := true }, kinds := [], alts := [], laidByText := true, laidKinds := [.data], laidTests := true, laidLooks := .later }
def MeterFuelCardSaid : Prop := Claim7.holds Tryd.pinned (.plain (OpenSpec.ofChange meterFuelSpec)) meterFuelCard

/-- THE TIED CARD OF 'soffitlaw21.MeterKeeps'. -/
def meterKeepsCard : Claim7 := { stood := { row := meterKeepsRow, standIns := [], harness := (true, "95b3ffd6d0286da967108f95e36a69fb8fb678f3de2d447c3d23cfa2b08fab42"), looks := true }, kinds := [], alts := [], laidByText := true, laidKinds := [.data], laidTests := true, laidLooks := .later }
def MeterKeepsCardSaid : Prop := Claim7.holds Tryd.pinned (.plain (OpenSpec.ofChange meterKeepsSpec)) meterKeepsCard

/-- THE TIED CARD OF 'soffitlaw21.MeterBytes'. -/
def meterBytesCard : Claim7 := { stood := { row := meterBytesRow, standIns := [], harness := (true, "95b3ffd6d0286da967108f95e36a69fb8fb678f3de2d447c3d23cfa2b08fab42"), looks := true }, kinds := [], alts := [], laidByText := true, laidKinds := [.data], laidTests := true, laidLooks := .later }
def MeterBytesCardSaid : Prop := Claim7.holds Tryd.pinned (.plain (OpenSpec.ofChange meterBytesSpec)) meterBytesCard

/-- THE SECOND FORM's CARD OF 'soffitlaw21.MeterNames'. -/
def meterNamesUptoCard : Claim7 := { stood := { row := meterNamesUptoRow, standIns := [], harness := (true, "95b3ffd6d0286da967108f95e36a69fb8fb678f3de2d447c3d23cfa2b08fab42"), looks := true }, kinds := [], alts := [], laidByText := true, laidKinds := [.data], laidTests := true, laidLooks := .later }
def MeterNamesUptoCardSaid : Prop := Claim7.holds Tryd.pinned (.plain (OpenSpec.upto meterNamesSpec)) meterNamesUptoCard

/-- THE SECOND FORM's CARD OF 'soffitlaw21.MeterRuns'. -/
def meterRunsUptoCard : Claim7 := { stood := { row := meterRunsUptoRow, standIns := [], harness := (true, "95b3ffd6d0286da967108f95e36a69fb8fb678f3de2d447c3d23cfa2b08fab42"), looks := true }, kinds := [], alts := [], laidByText := true, laidKinds := [.data], laidTests := true, laidLooks := .later }
def MeterRunsUptoCardSaid : Prop := Claim7.holds Tryd.pinned (.plain (OpenSpec.upto meterRunsSpec)) meterRunsUptoCard

/-- THE SECOND FORM's CARD OF 'soffitlaw21.MeterFuel'. -/
def meterFuelUptoCard : Claim7 := { stood := { row := meterFuelUptoRow, standIns := [], harness := (true, "95b3ffd6d0286da967108f95e36a69fb8fb678f3de2d447c3d23cfa2b08fab42"), looks := true }, kinds := [], alts := [], laidByText := true, laidKinds := [.data], laidTests := true, laidLooks := .later }
def MeterFuelUptoCardSaid : Prop := Claim7.holds Tryd.pinned (.plain (OpenSpec.upto meterFuelSpec)) meterFuelUptoCard

/-- THE SECOND FORM's CARD OF 'soffitlaw21.MeterKeeps'. -/
def meterKeepsUptoCard : Claim7 := { stood := { row := meterKeepsUptoRow, standIns := [], harness := (true, "95b3ffd6d0286da967108f95e36a69fb8fb678f3de2d447c3d23cfa2b08fab42"), looks := true }, kinds := [], alts := [], laidByText := true, laidKinds := [.data], laidTests := true, laidLooks := .later }
def MeterKeepsUptoCardSaid : Prop := Claim7.holds Tryd.pinned (.plain (OpenSpec.upto meterKeepsSpec)) meterKeepsUptoCard

/-- THE SECOND FORM's CARD OF 'soffitlaw21.MeterBytes'. -/
def meterBytesUptoCard : Claim7 := { stood := { row := meterBytesUptoRow, standIns := [], harness := (true, "95b3ffd6d0286da967108f95e36a69fb8fb678f3de2d447c3d23cfa2b08fab42"), looks := true }, kinds := [], alts := [], laidByText := true, laidKinds := [.data], laidTests := true, laidLooks := .later }
def MeterBytesUptoCardSaid : Prop := Claim7.holds Tryd.pinned (.plain (OpenSpec.upto meterBytesSpec)) meterBytesUptoCard
end Rows
end Go.Proofs.YtgpdggjpbmgegaaDoor
