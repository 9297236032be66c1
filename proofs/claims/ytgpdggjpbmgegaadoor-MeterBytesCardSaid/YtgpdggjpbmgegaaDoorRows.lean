/-
  NARROWER THAN 'FOR EVERY INPUT', by the rows' own cells (each row's printed sentence says how): MeterNames: laid · MeterRuns: laid · MeterFuel: laid · MeterKeeps: laid · MeterBytes: laid.
  DERIVED. THE GIVEN ROWS OF THIS SEAT. 5 by the template 'for every input the law returns true; each argument reads behind the call as it read before'; 0 by the template 'total and deterministic' (their statements: YtgpdggjpbmgegaaDoorTotals.lean).
  GIVEN WITH THE SEED: the statements are not yours to turn. If you find one false, say at which input.
  Laid BY PROGRAM, IN A SANDBOX (cutbox-rows.mjs): the forced cells as the released guide's own fill.sh prints them over the translation b1ef5257bb057f4b… (all of the seat's roots in one cut). By AI agents, Wed Nov 11 2026. No macro, syntax, notation, axiom, sorry.
-/
import Derived.Test.YtgpdggjpbmgegaaDoorChecked
import GoSem.Claim
import GoSem.ClaimJoined
import GoSem.ClaimMapViews
import Derived.JoinedTies
import Derived.KernelRfl
namespace Go.Proofs.YtgpdggjpbmgegaaDoor
/- THE CELL 'sum', in the pinned program and in every row, IS THE sha256 OF THE DUMP (.gsa) THAT YtgpdggjpbmgegaaDoorProg.lean LOADS. Nothing in Lean hashes anything: it is a label: what it is worth is what the hold of that sum in a sandbox is worth. -/
noncomputable def Tryd.pinned : Pinned := { name := "ytgpdggjpbmgegaadoor", sum := "b1ef5257bb057f4bfe1cc1c19d96c8ed9d425c0c20e09d78ac56d008513c633c", checked := Tryd.checked }
namespace Rows
def none {H : Type} : Left H := { results := [], args := [] }

/- WHAT THE LISTED PACKAGE-LEVEL VARIABLES READ AS WHEN THE CALL BEGINS. Each datum BY PROGRAM (the guide's laid-datum.mjs) off the statement by which the dump's own 'gosem.cut.vars' lays the variable. In a bare row this is a premise. The card (YtgpdggjpbmgegaaDoorCards.lean) ties it to the program's text. -/
def laid_soffit_code_rows {H : Type} : DataW H := .agg [.agg [.lit (.string [114, 101, 116]), .lit (.int .i64 1), .lit (.bool true), .lit (.bool false), .lit (.bool false), .lit (.int .i64 0), .lit (.bool false)], .agg [.lit (.string [115, 101, 116]), .lit (.int .i64 1), .lit (.bool true), .lit (.bool false), .lit (.bool false), .lit (.int .i64 1), .lit (.bool true)], .agg [.lit (.string [109, 111, 118, 101]), .lit (.int .i64 1), .lit (.bool true), .lit (.bool true), .lit (.bool false), .lit (.int .i64 0), .lit (.bool true)], .agg [.lit (.string [97, 100, 100]), .lit (.int .i64 1), .lit (.bool true), .lit (.bool true), .lit (.bool true), .lit (.int .i64 0), .lit (.bool true)], .agg [.lit (.string [115, 117, 98]), .lit (.int .i64 1), .lit (.bool true), .lit (.bool true), .lit (.bool true), .lit (.int .i64 0), .lit (.bool true)], .agg [.lit (.string [109, 117, 108]), .lit (.int .i64 3), .lit (.bool true), .lit (.bool true), .lit (.bool true), .lit (.int .i64 0), .lit (.bool true)], .agg [.lit (.string [100, 105, 118]), .lit (.int .i64 8), .lit (.bool true), .lit (.bool true), .lit (.bool true), .lit (.int .i64 0), .lit (.bool true)], .agg [.lit (.string [114, 101, 109]), .lit (.int .i64 8), .lit (.bool true), .lit (.bool true), .lit (.bool true), .lit (.int .i64 0), .lit (.bool true)], .agg [.lit (.string [108, 101, 115, 115]), .lit (.int .i64 1), .lit (.bool true), .lit (.bool true), .lit (.bool true), .lit (.int .i64 0), .lit (.bool true)], .agg [.lit (.string [101, 113, 117, 97, 108]), .lit (.int .i64 1), .lit (.bool true), .lit (.bool true), .lit (.bool true), .lit (.int .i64 0), .lit (.bool true)], .agg [.lit (.string [110, 111, 116]), .lit (.int .i64 1), .lit (.bool true), .lit (.bool true), .lit (.bool false), .lit (.int .i64 0), .lit (.bool true)], .agg [.lit (.string [108, 111, 97, 100]), .lit (.int .i64 2), .lit (.bool true), .lit (.bool true), .lit (.bool false), .lit (.int .i64 1), .lit (.bool true)], .agg [.lit (.string [115, 116, 111, 114, 101]), .lit (.int .i64 2), .lit (.bool true), .lit (.bool true), .lit (.bool false), .lit (.int .i64 1), .lit (.bool false)], .agg [.lit (.string [99, 104, 101, 99, 107]), .lit (.int .i64 1), .lit (.bool true), .lit (.bool false), .lit (.bool false), .lit (.int .i64 3), .lit (.bool false)], .agg [.lit (.string [106, 117, 109, 112]), .lit (.int .i64 1), .lit (.bool false), .lit (.bool false), .lit (.bool false), .lit (.int .i64 2), .lit (.bool false)], .agg [.lit (.string [105, 102]), .lit (.int .i64 1), .lit (.bool true), .lit (.bool false), .lit (.bool false), .lit (.int .i64 2), .lit (.bool false)], .agg [.lit (.string [117, 110, 108, 101, 115, 115]), .lit (.int .i64 1), .lit (.bool true), .lit (.bool false), .lit (.bool false), .lit (.int .i64 2), .lit (.bool false)], .agg [.lit (.string [99, 111, 117, 110, 116]), .lit (.int .i64 1), .lit (.bool true), .lit (.bool true), .lit (.bool false), .lit (.int .i64 2), .lit (.bool false)], .agg [.lit (.string [115, 116, 101, 112]), .lit (.int .i64 1), .lit (.bool true), .lit (.bool false), .lit (.bool false), .lit (.int .i64 2), .lit (.bool true)], .agg [.lit (.string [99, 97, 108, 108]), .lit (.int .i64 4), .lit (.bool true), .lit (.bool true), .lit (.bool false), .lit (.int .i64 4), .lit (.bool true)]]

/-- 'soffitlaw21.MeterNames': WHATEVER THE INPUT: true; the input reads as it did. -/
def meterNamesSpec : ChangeSpec := { name := "meterNames", fn := fun _ => fun
  | [] => { results := [.lit (.bool true)], args := [] }
  | _ => none }
def meterNamesRow : OpenClaim := { program := "ytgpdggjpbmgegaadoor", sum := "b1ef5257bb057f4bfe1cc1c19d96c8ed9d425c0c20e09d78ac56d008513c633c", func := "soffit/soffitlaw21.MeterNames", spec := "meterNames", unfollowed := true, recurses := true, named := ["soffit/code.rows"], apart := false, laid := [("soffit/code.rows", laid_soffit_code_rows)] }
def MeterNamesSaid : Prop := meterNamesRow.holds Tryd.pinned (OpenSpec.ofChange meterNamesSpec)

/-- ITS FALSE NEIGHBOUR: 'it returns false'. Refute it at one input. -/
def meterNamesWrong : ChangeSpec := { name := "meterNames", fn := fun _ => fun
  | [] => { results := [.lit (.bool false)], args := [] }
  | _ => none }
def MeterNamesWrongFalsely : Prop := meterNamesRow.holds Tryd.pinned (OpenSpec.ofChange meterNamesWrong)

/-- 'soffitlaw21.MeterRuns': WHATEVER THE INPUT: true; the input reads as it did. -/
def meterRunsSpec : ChangeSpec := { name := "meterRuns", fn := fun _ => fun
  | [d1, d2, d3, d4] => { results := [.lit (.bool true)], args := [d1, d2, d3, d4] }
  | _ => none }
def meterRunsRow : OpenClaim := { program := "ytgpdggjpbmgegaadoor", sum := "b1ef5257bb057f4bfe1cc1c19d96c8ed9d425c0c20e09d78ac56d008513c633c", func := "soffit/soffitlaw21.MeterRuns", spec := "meterRuns", unfollowed := true, recurses := true, named := ["soffit/code.rows"], apart := false, laid := [("soffit/code.rows", laid_soffit_code_rows)] }
def MeterRunsSaid : Prop := meterRunsRow.holds Tryd.pinned (OpenSpec.ofChange meterRunsSpec)

/-- ITS FALSE NEIGHBOUR: 'it returns false'. Refute it at one input. -/
def meterRunsWrong : ChangeSpec := { name := "meterRuns", fn := fun _ => fun
  | [d1, d2, d3, d4] => { results := [.lit (.bool false)], args := [d1, d2, d3, d4] }
  | _ => none }
def MeterRunsWrongFalsely : Prop := meterRunsRow.holds Tryd.pinned (OpenSpec.ofChange meterRunsWrong)

/-- 'soffitlaw21.MeterFuel': WHATEVER THE INPUT: true; the input reads as it did. -/
def meterFuelSpec : ChangeSpec := { name := "meterFuel", fn := fun _ => fun
  | [d1, d2, d3, d4, d5] => { results := [.lit (.bool true)], args := [d1, d2, d3, d4, d5] }
  | _ => none }
def meterFuelRow : OpenClaim := { program := "ytgpdggjpbmgegaadoor", sum := "b1ef5257bb057f4bfe1cc1c19d96c8ed9d425c0c20e09d78ac56d008513c633c", func := "soffit/soffitlaw21.MeterFuel", spec := "meterFuel", unfollowed := true, recurses := true, named := ["soffit/code.rows"], apart := false, laid := [("soffit/code.rows", laid_soffit_code_rows)] }
def MeterFuelSaid : Prop := meterFuelRow.holds Tryd.pinned (OpenSpec.ofChange meterFuelSpec)

/-- ITS FALSE NEIGHBOUR: 'it returns false'. Refute it at one input. -/
def meterFuelWrong : ChangeSpec := { name := "meterFuel", fn := fun _ => fun
  | [d1, d2, d3, d4, d5] => { results := [.lit (.bool false)], args := [d1, d2, d3, d4, d5] }
  | _ => none }
def MeterFuelWrongFalsely : Prop := meterFuelRow.holds Tryd.pinned (OpenSpec.ofChange meterFuelWrong)

/-- 'soffitlaw21.MeterKeeps': WHATEVER THE INPUT: true; the input reads as it did. -/
def meterKeepsSpec : ChangeSpec := { name := "meterKeeps", fn := fun _ => fun
  | [d1, d2, d3, d4] => { results := [.lit (.bool true)], args := [d1, d2, d3, d4] }
  | _ => none }
def meterKeepsRow : OpenClaim := { program := "ytgpdggjpbmgegaadoor", sum := "b1ef5257bb057f4bfe1cc1c19d96c8ed9d425c0c20e09d78ac56d008513c633c", func := "soffit/soffitlaw21.MeterKeeps", spec := "meterKeeps", unfollowed := true, recurses := true, named := ["soffit/code.rows"], apart := false, laid := [("soffit/code.rows", laid_soffit_code_rows)] }
def MeterKeepsSaid : Prop := meterKeepsRow.holds Tryd.pinned (OpenSpec.ofChange meterKeepsSpec)

/-- ITS FALSE NEIGHBOUR: 'it returns false'. Refute it at one input. -/
def meterKeepsWrong : ChangeSpec := { name := "meterKeeps", fn := fun _ => fun
  | [d1, d2, d3, d4] => { results := [.lit (.bool false)], args := [d1, d2, d3, d4] }
  | _ => none }
def MeterKeepsWrongFalsely : Prop := meterKeepsRow.holds Tryd.pinned (OpenSpec.ofChange meterKeepsWrong)

/-- 'soffitlaw21.MeterBytes': WHATEVER THE INPUT: true; the input reads as it did. -/
def meterBytesSpec : ChangeSpec := { name := "meterBytes", fn := fun _ => fun
  | [d1, d2, d3, d4] => { results := [.lit (.bool true)], args := [d1, d2, d3, d4] }
  | _ => none }
def meterBytesRow : OpenClaim := { program := "ytgpdggjpbmgegaadoor", sum := "b1ef5257bb057f4bfe1cc1c19d96c8ed9d425c0c20e09d78ac56d008513c633c", func := "soffit/soffitlaw21.MeterBytes", spec := "meterBytes", unfollowed := true, recurses := true, named := ["soffit/code.rows"], apart := false, laid := [("soffit/code.rows", laid_soffit_code_rows)] }
def MeterBytesSaid : Prop := meterBytesRow.holds Tryd.pinned (OpenSpec.ofChange meterBytesSpec)

/-- ITS FALSE NEIGHBOUR: 'it returns false'. Refute it at one input. -/
def meterBytesWrong : ChangeSpec := { name := "meterBytes", fn := fun _ => fun
  | [d1, d2, d3, d4] => { results := [.lit (.bool false)], args := [d1, d2, d3, d4] }
  | _ => none }
def MeterBytesWrongFalsely : Prop := meterBytesRow.holds Tryd.pinned (OpenSpec.ofChange meterBytesWrong)

/- THE SECOND FORM. 'bulk': how many values and letters a reading holds, each counted each time it is reached (what is shared counts as often as it is met; a slice's spare places count too). A statement '..UptoSaid' is the law's where the arguments, and the package variables that the reading takes, are together of bulk at most 1048576: NARROWER than '..Said'. Prove '..Said' where nothing that the law and all that it calls make is longer than what came in: it says more and counts as full. Else prove '..UptoSaid'. A law counts once. -/
mutual
def uptoBulk {H : Type} : DataW H → Nat
  | .lit (.string bytes) => bytes.length + 1
  | .lit _ => 1
  | .nil => 1
  | .ptr d => uptoBulk d + 1
  | .slice elems spare => uptoBulkAll elems + uptoBulkAll spare + 1
  | .agg parts => uptoBulkAll parts + 1
  | .iface _ d => uptoBulk d + 1
  | .map entries => uptoBulkEntries entries + 1
  | .held _ => 1
def uptoBulkAll {H : Type} : List (DataW H) → Nat
  | [] => 0
  | d :: r => uptoBulk d + uptoBulkAll r
def uptoBulkEntries {H : Type} : List (Lit × DataW H) → Nat
  | [] => 0
  | x :: r => uptoBulkEntry x + uptoBulkEntries r
def uptoBulkEntry {H : Type} : Lit × DataW H → Nat
  | (.string bytes, d) => bytes.length + uptoBulk d + 1
  | (_, d) => uptoBulk d + 1
 end
def uptoSmall : (H : Type) → List (DataW H) → Bool := fun _ ds => decide (uptoBulkAll ds ≤ 1048576)
def OpenSpec.upto (s : _root_.Go.ChangeSpec) : _root_.Go.OpenSpec := { _root_.Go.OpenSpec.ofChange s with cond := some uptoSmall }

/-- 'soffitlaw21.MeterNames', WHERE WHAT IT READS IS OF BULK AT MOST 1048576: true; the input reads as it did. -/
def meterNamesUptoRow : OpenClaim := { program := "ytgpdggjpbmgegaadoor", sum := "b1ef5257bb057f4bfe1cc1c19d96c8ed9d425c0c20e09d78ac56d008513c633c", func := "soffit/soffitlaw21.MeterNames", spec := "meterNames", unfollowed := true, recurses := true, named := ["soffit/code.rows"], apart := false, laid := [("soffit/code.rows", laid_soffit_code_rows)], narrowed := true }
def MeterNamesUptoSaid : Prop := meterNamesUptoRow.holds Tryd.pinned (OpenSpec.upto meterNamesSpec)

/-- 'soffitlaw21.MeterRuns', WHERE WHAT IT READS IS OF BULK AT MOST 1048576: true; the input reads as it did. -/
def meterRunsUptoRow : OpenClaim := { program := "ytgpdggjpbmgegaadoor", sum := "b1ef5257bb057f4bfe1cc1c19d96c8ed9d425c0c20e09d78ac56d008513c633c", func := "soffit/soffitlaw21.MeterRuns", spec := "meterRuns", unfollowed := true, recurses := true, named := ["soffit/code.rows"], apart := false, laid := [("soffit/code.rows", laid_soffit_code_rows)], narrowed := true }
def MeterRunsUptoSaid : Prop := meterRunsUptoRow.holds Tryd.pinned (OpenSpec.upto meterRunsSpec)

/-- 'soffitlaw21.MeterFuel', WHERE WHAT IT READS IS OF BULK AT MOST 1048576: true; the input reads as it did. -/
def meterFuelUptoRow : OpenClaim := { program := "ytgpdggjpbmgegaadoor", sum := "b1ef5257bb057f4bfe1cc1c19d96c8ed9d425c0c20e09d78ac56d008513c633c", func := "soffit/soffitlaw21.MeterFuel", spec := "meterFuel", unfollowed := true, recurses := true, named := ["soffit/code.rows"], apart := false, laid := [("soffit/code.rows", laid_soffit_code_rows)], narrowed := true }
def MeterFuelUptoSaid : Prop := meterFuelUptoRow.holds Tryd.pinned (OpenSpec.upto meterFuelSpec)

/-- 'soffitlaw21.MeterKeeps', WHERE WHAT IT READS IS OF BULK AT MOST 1048576: true; the input reads as it did. -/
def meterKeepsUptoRow : OpenClaim := { program := "ytgpdggjpbmgegaadoor", sum := "b1ef5257bb057f4bfe1cc1c19d96c8ed9d425c0c20e09d78ac56d008513c633c", func := "soffit/soffitlaw21.MeterKeeps", spec := "meterKeeps", unfollowed := true, recurses := true, named := ["soffit/code.rows"], apart := false, laid := [("soffit/code.rows", laid_soffit_code_rows)], narrowed := true }
def MeterKeepsUptoSaid : Prop := meterKeepsUptoRow.holds Tryd.pinned (OpenSpec.upto meterKeepsSpec)

/-- 'soffitlaw21.MeterBytes', WHERE WHAT IT READS IS OF BULK AT MOST 1048576: true; the input reads as it did. -/
def meterBytesUptoRow : OpenClaim := { program := "ytgpdggjpbmgegaadoor", sum := "b1ef5257bb057f4bfe1cc1c19d96c8ed9d425c0c20e09d78ac56d008513c633c", func := "soffit/soffitlaw21.MeterBytes", spec := "meterBytes", unfollowed := true, recurses := true, named := ["soffit/code.rows"], apart := false, laid := [("soffit/code.rows", laid_soffit_code_rows)], narrowed := true }
def MeterBytesUptoSaid : Prop := meterBytesUptoRow.holds Tryd.pinned (OpenSpec.upto meterBytesSpec)

end Rows
end Go.Proofs.YtgpdggjpbmgegaaDoor
