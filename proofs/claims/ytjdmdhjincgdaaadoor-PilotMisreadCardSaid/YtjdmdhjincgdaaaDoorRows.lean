/-
  NARROWER THAN 'FOR EVERY INPUT', by the rows' own cells (each row's printed sentence says how): PilotMatchesReference: laid · PilotInverse: laid · PilotGreatest: laid · PilotOrder: laid · PilotRange: laid · PilotMisread: laid.
  DERIVED. THE GIVEN ROWS OF THIS SEAT. 6 by the template 'for every input the law returns true; each argument reads behind the call as it read before'; 0 by the template 'total and deterministic' (their statements: YtjdmdhjincgdaaaDoorTotals.lean).
  GIVEN WITH THE SEED: the statements are not yours to turn. If you find one false, say at which input.
  Laid BY PROGRAM, IN A SANDBOX (cutbox-rows.mjs): the forced cells as the released guide's own fill.sh prints them over the translation b528bdacf5417dd8… (all of the seat's roots in one cut). By AI agents, Wed Nov 11 2026. No macro, syntax, notation, axiom, sorry.
-/
import Derived.Test.YtjdmdhjincgdaaaDoorChecked
import GoSem.Claim
import GoSem.ClaimJoined
import GoSem.ClaimMapViews
import Derived.JoinedTies
import Derived.KernelRfl
namespace Go.Proofs.YtjdmdhjincgdaaaDoor
/- THE CELL 'sum', in the pinned program and in every row, IS THE sha256 OF THE DUMP (.gsa) THAT YtjdmdhjincgdaaaDoorProg.lean LOADS. Nothing in Lean hashes anything: it is a label: what it is worth is what the hold of that sum in a sandbox is worth. -/
noncomputable def Tryd.pinned : Pinned := { name := "ytjdmdhjincgdaaadoor", sum := "b528bdacf5417dd8e0881568a4550cdffe24fa8215e3bd0df8d78a7db8b829ce", checked := Tryd.checked }
namespace Rows
def none {H : Type} : Left H := { results := [], args := [] }

/- WHAT THE LISTED PACKAGE-LEVEL VARIABLES READ AS WHEN THE CALL BEGINS. Each datum BY PROGRAM (the guide's laid-datum.mjs) off the statement by which the dump's own 'gosem.cut.vars' lays the variable. In a bare row this is a premise. The card (YtjdmdhjincgdaaaDoorCards.lean) ties it to the program's text. -/
def laid_chargepark_pilot_parts {H : Type} : DataW H := .agg [.agg [.lit (.int .i64 0), .lit (.int .i64 0), .lit (.int .i64 1000), .lit (.int .i64 1000)], .agg [.lit (.int .i64 6), .lit (.int .i64 51), .lit (.int .i64 100), .lit (.int .i64 850)], .agg [.lit (.int .i64 52), .lit (.int .i64 52), .lit (.int .i64 851), .lit (.int .i64 851)], .agg [.lit (.int .i64 53), .lit (.int .i64 80), .lit (.int .i64 852), .lit (.int .i64 960)]]

/-- 'chargeparklaw11.PilotMatchesReference': WHATEVER THE INPUT: true; the input reads as it did. -/
def pilotMatchesReferenceSpec : ChangeSpec := { name := "pilotMatchesReference", fn := fun _ => fun
  | [d] => { results := [.lit (.bool true)], args := [d] }
  | _ => none }
def pilotMatchesReferenceRow : OpenClaim := { program := "ytjdmdhjincgdaaadoor", sum := "b528bdacf5417dd8e0881568a4550cdffe24fa8215e3bd0df8d78a7db8b829ce", func := "chargepark/chargeparklaw11.PilotMatchesReference", spec := "pilotMatchesReference", unfollowed := true, recurses := true, named := ["chargepark/pilot.parts"], apart := false, laid := [("chargepark/pilot.parts", laid_chargepark_pilot_parts)] }
def PilotMatchesReferenceSaid : Prop := pilotMatchesReferenceRow.holds Tryd.pinned (OpenSpec.ofChange pilotMatchesReferenceSpec)

/-- ITS FALSE NEIGHBOUR: 'it returns false'. Refute it at one input. -/
def pilotMatchesReferenceWrong : ChangeSpec := { name := "pilotMatchesReference", fn := fun _ => fun
  | [d] => { results := [.lit (.bool false)], args := [d] }
  | _ => none }
def PilotMatchesReferenceWrongFalsely : Prop := pilotMatchesReferenceRow.holds Tryd.pinned (OpenSpec.ofChange pilotMatchesReferenceWrong)

/-- 'chargeparklaw11.PilotInverse': WHATEVER THE INPUT: true; the input reads as it did. -/
def pilotInverseSpec : ChangeSpec := { name := "pilotInverse", fn := fun _ => fun
  | [d] => { results := [.lit (.bool true)], args := [d] }
  | _ => none }
def pilotInverseRow : OpenClaim := { program := "ytjdmdhjincgdaaadoor", sum := "b528bdacf5417dd8e0881568a4550cdffe24fa8215e3bd0df8d78a7db8b829ce", func := "chargepark/chargeparklaw11.PilotInverse", spec := "pilotInverse", unfollowed := true, recurses := true, named := ["chargepark/pilot.parts"], apart := false, laid := [("chargepark/pilot.parts", laid_chargepark_pilot_parts)] }
def PilotInverseSaid : Prop := pilotInverseRow.holds Tryd.pinned (OpenSpec.ofChange pilotInverseSpec)

/-- ITS FALSE NEIGHBOUR: 'it returns false'. Refute it at one input. -/
def pilotInverseWrong : ChangeSpec := { name := "pilotInverse", fn := fun _ => fun
  | [d] => { results := [.lit (.bool false)], args := [d] }
  | _ => none }
def PilotInverseWrongFalsely : Prop := pilotInverseRow.holds Tryd.pinned (OpenSpec.ofChange pilotInverseWrong)

/-- 'chargeparklaw11.PilotGreatest': WHATEVER THE INPUT: true; the input reads as it did. -/
def pilotGreatestSpec : ChangeSpec := { name := "pilotGreatest", fn := fun _ => fun
  | [d] => { results := [.lit (.bool true)], args := [d] }
  | _ => none }
def pilotGreatestRow : OpenClaim := { program := "ytjdmdhjincgdaaadoor", sum := "b528bdacf5417dd8e0881568a4550cdffe24fa8215e3bd0df8d78a7db8b829ce", func := "chargepark/chargeparklaw11.PilotGreatest", spec := "pilotGreatest", unfollowed := true, recurses := true, named := ["chargepark/pilot.parts"], apart := false, laid := [("chargepark/pilot.parts", laid_chargepark_pilot_parts)] }
def PilotGreatestSaid : Prop := pilotGreatestRow.holds Tryd.pinned (OpenSpec.ofChange pilotGreatestSpec)

/-- ITS FALSE NEIGHBOUR: 'it returns false'. Refute it at one input. -/
def pilotGreatestWrong : ChangeSpec := { name := "pilotGreatest", fn := fun _ => fun
  | [d] => { results := [.lit (.bool false)], args := [d] }
  | _ => none }
def PilotGreatestWrongFalsely : Prop := pilotGreatestRow.holds Tryd.pinned (OpenSpec.ofChange pilotGreatestWrong)

/-- 'chargeparklaw11.PilotOrder': WHATEVER THE INPUT: true; the input reads as it did. -/
def pilotOrderSpec : ChangeSpec := { name := "pilotOrder", fn := fun _ => fun
  | [d1, d2, d3, d4] => { results := [.lit (.bool true)], args := [d1, d2, d3, d4] }
  | _ => none }
def pilotOrderRow : OpenClaim := { program := "ytjdmdhjincgdaaadoor", sum := "b528bdacf5417dd8e0881568a4550cdffe24fa8215e3bd0df8d78a7db8b829ce", func := "chargepark/chargeparklaw11.PilotOrder", spec := "pilotOrder", unfollowed := true, recurses := true, named := ["chargepark/pilot.parts"], apart := false, laid := [("chargepark/pilot.parts", laid_chargepark_pilot_parts)] }
def PilotOrderSaid : Prop := pilotOrderRow.holds Tryd.pinned (OpenSpec.ofChange pilotOrderSpec)

/-- ITS FALSE NEIGHBOUR: 'it returns false'. Refute it at one input. -/
def pilotOrderWrong : ChangeSpec := { name := "pilotOrder", fn := fun _ => fun
  | [d1, d2, d3, d4] => { results := [.lit (.bool false)], args := [d1, d2, d3, d4] }
  | _ => none }
def PilotOrderWrongFalsely : Prop := pilotOrderRow.holds Tryd.pinned (OpenSpec.ofChange pilotOrderWrong)

/-- 'chargeparklaw11.PilotRange': WHATEVER THE INPUT: true; the input reads as it did. -/
def pilotRangeSpec : ChangeSpec := { name := "pilotRange", fn := fun _ => fun
  | [d] => { results := [.lit (.bool true)], args := [d] }
  | _ => none }
def pilotRangeRow : OpenClaim := { program := "ytjdmdhjincgdaaadoor", sum := "b528bdacf5417dd8e0881568a4550cdffe24fa8215e3bd0df8d78a7db8b829ce", func := "chargepark/chargeparklaw11.PilotRange", spec := "pilotRange", unfollowed := true, recurses := true, named := ["chargepark/pilot.parts"], apart := false, laid := [("chargepark/pilot.parts", laid_chargepark_pilot_parts)] }
def PilotRangeSaid : Prop := pilotRangeRow.holds Tryd.pinned (OpenSpec.ofChange pilotRangeSpec)

/-- ITS FALSE NEIGHBOUR: 'it returns false'. Refute it at one input. -/
def pilotRangeWrong : ChangeSpec := { name := "pilotRange", fn := fun _ => fun
  | [d] => { results := [.lit (.bool false)], args := [d] }
  | _ => none }
def PilotRangeWrongFalsely : Prop := pilotRangeRow.holds Tryd.pinned (OpenSpec.ofChange pilotRangeWrong)

/-- 'chargeparklaw11.PilotMisread': WHATEVER THE INPUT: true; the input reads as it did. -/
def pilotMisreadSpec : ChangeSpec := { name := "pilotMisread", fn := fun _ => fun
  | [d1, d2] => { results := [.lit (.bool true)], args := [d1, d2] }
  | _ => none }
def pilotMisreadRow : OpenClaim := { program := "ytjdmdhjincgdaaadoor", sum := "b528bdacf5417dd8e0881568a4550cdffe24fa8215e3bd0df8d78a7db8b829ce", func := "chargepark/chargeparklaw11.PilotMisread", spec := "pilotMisread", unfollowed := true, recurses := true, named := ["chargepark/pilot.parts"], apart := false, laid := [("chargepark/pilot.parts", laid_chargepark_pilot_parts)] }
def PilotMisreadSaid : Prop := pilotMisreadRow.holds Tryd.pinned (OpenSpec.ofChange pilotMisreadSpec)

/-- ITS FALSE NEIGHBOUR: 'it returns false'. Refute it at one input. -/
def pilotMisreadWrong : ChangeSpec := { name := "pilotMisread", fn := fun _ => fun
  | [d1, d2] => { results := [.lit (.bool false)], args := [d1, d2] }
  | _ => none }
def PilotMisreadWrongFalsely : Prop := pilotMisreadRow.holds Tryd.pinned (OpenSpec.ofChange pilotMisreadWrong)

/- THE SECOND FORM. 'bulk': how many values and letters a reading holds, each counted each time it is reached (what is shared counts as often as it is met; a slice's spare places count too). A statement '..UptoSaid' is the law's where the arguments, and the package variables that the reading takes, are together of bulk at most 1048576: NARROWER than '..Said'. Prove '..Said' where nothing that the law and all that it calls make is longer than what came in: it says more and counts as full. Else prove '..UptoSaid'. A law counts once. -/
mutual
def uptoBulk {H : Type} : DataW H → Nat
  | .lit (.string bytes) => bytes.length + 1
  | .lit _ => 1
  | .nil => 1
  | .ptr d => uptoBulk d + 1
  | .slice elems spare => uptoBulkAll elems + uptoBulkAll spare + 1
  | .agg parts => uptoBulkAll parts + 1
  | .iface _ d => uptoBulk d + 1
  | .map entries => uptoBulkEntries entries + 1
  | .held _ => 1
def uptoBulkAll {H : Type} : List (DataW H) → Nat
  | [] => 0
  | d :: r => uptoBulk d + uptoBulkAll r
def uptoBulkEntries {H : Type} : List (Lit × DataW H) → Nat
  | [] => 0
  | x :: r => uptoBulkEntry x + uptoBulkEntries r
def uptoBulkEntry {H : Type} : Lit × DataW H → Nat
  | (.string bytes, d) => bytes.length + uptoBulk d + 1
  | (_, d) => uptoBulk d + 1
 end
def uptoSmall : (H : Type) → List (DataW H) → Bool := fun _ ds => decide (uptoBulkAll ds ≤ 1048576)
def OpenSpec.upto (s : _root_.Go.ChangeSpec) : _root_.Go.OpenSpec := { _root_.Go.OpenSpec.ofChange s with cond := some uptoSmall }

/-- 'chargeparklaw11.PilotMatchesReference', WHERE WHAT IT READS IS OF BULK AT MOST 1048576: true; the input reads as it did. -/
def pilotMatchesReferenceUptoRow : OpenClaim := { program := "ytjdmdhjincgdaaadoor", sum := "b528bdacf5417dd8e0881568a4550cdffe24fa8215e3bd0df8d78a7db8b829ce", func := "chargepark/chargeparklaw11.PilotMatchesReference", spec := "pilotMatchesReference", unfollowed := true, recurses := true, named := ["chargepark/pilot.parts"], apart := false, laid := [("chargepark/pilot.parts", laid_chargepark_pilot_parts)], narrowed := true }
def PilotMatchesReferenceUptoSaid : Prop := pilotMatchesReferenceUptoRow.holds Tryd.pinned (OpenSpec.upto pilotMatchesReferenceSpec)

/-- 'chargeparklaw11.PilotInverse', WHERE WHAT IT READS IS OF BULK AT MOST 1048576: true; the input reads as it did. -/
def pilotInverseUptoRow : OpenClaim := { program := "ytjdmdhjincgdaaadoor", sum := "b528bdacf5417dd8e0881568a4550cdffe24fa8215e3bd0df8d78a7db8b829ce", func := "chargepark/chargeparklaw11.PilotInverse", spec := "pilotInverse", unfollowed := true, recurses := true, named := ["chargepark/pilot.parts"], apart := false, laid := [("chargepark/pilot.parts", laid_chargepark_pilot_parts)], narrowed := true }
def PilotInverseUptoSaid : Prop := pilotInverseUptoRow.holds Tryd.pinned (OpenSpec.upto pilotInverseSpec)

/-- 'chargeparklaw11.PilotGreatest', WHERE WHAT IT READS IS OF BULK AT MOST 1048576: true; the input reads as it did. -/
def pilotGreatestUptoRow : OpenClaim := { program := "ytjdmdhjincgdaaadoor", sum := "b528bdacf5417dd8e0881568a4550cdffe24fa8215e3bd0df8d78a7db8b829ce", func := "chargepark/chargeparklaw11.PilotGreatest", spec := "pilotGreatest", unfollowed := true, recurses := true, named := ["chargepark/pilot.parts"], apart := false, laid := [("chargepark/pilot.parts", laid_chargepark_pilot_parts)], narrowed := true }
def PilotGreatestUptoSaid : Prop := pilotGreatestUptoRow.holds Tryd.pinned (OpenSpec.upto pilotGreatestSpec)

/-- 'chargeparklaw11.PilotOrder', WHERE WHAT IT READS IS OF BULK AT MOST 1048576: true; the input reads as it did. -/
def pilotOrderUptoRow : OpenClaim := { program := "ytjdmdhjincgdaaadoor", sum := "b528bdacf5417dd8e0881568a4550cdffe24fa8215e3bd0df8d78a7db8b829ce", func := "chargepark/chargeparklaw11.PilotOrder", spec := "pilotOrder", unfollowed := true, recurses := true, named := ["chargepark/pilot.parts"], apart := false, laid := [("chargepark/pilot.parts", laid_chargepark_pilot_parts)], narrowed := true }
def PilotOrderUptoSaid : Prop := pilotOrderUptoRow.holds Tryd.pinned (OpenSpec.upto pilotOrderSpec)

/-- 'chargeparklaw11.PilotRange', WHERE WHAT IT READS IS OF BULK AT MOST 1048576: true; the input reads as it did. -/
def pilotRangeUptoRow : OpenClaim := { program := "ytjdmdhjincgdaaadoor", sum := "b528bdacf5417dd8e0881568a4550cdffe24fa8215e3bd0df8d78a7db8b829ce", func := "chargepark/chargeparklaw11.PilotRange", spec := "pilotRange", unfollowed := true, recurses := true, named := ["chargepark/pilot.parts"], apart := false, laid := [("chargepark/pilot.parts", laid_chargepark_pilot_parts)], narrowed := true }
def PilotRangeUptoSaid : Prop := pilotRangeUptoRow.holds Tryd.pinned (OpenSpec.upto pilotRangeSpec)

/-- 'chargeparklaw11.PilotMisread', WHERE WHAT IT READS IS OF BULK AT MOST 1048576: true; the input reads as it did. -/
def pilotMisreadUptoRow : OpenClaim := { program := "ytjdmdhjincgdaaadoor", sum := "b528bdacf5417dd8e0881568a4550cdffe24fa8215e3bd0df8d78a7db8b829ce", func := "chargepark/chargeparklaw11.PilotMisread", spec := "pilotMisread", unfollowed := true, recurses := true, named := ["chargepark/pilot.parts"], apart := false, laid := [("chargepark/pilot.parts", laid_chargepark_pilot_parts)], narrowed := true }
def PilotMisreadUptoSaid : Prop := pilotMisreadUptoRow.holds Tryd.pinned (OpenSpec.upto pilotMisreadSpec)

end Rows
end Go.Proofs.YtjdmdhjincgdaaaDoor
