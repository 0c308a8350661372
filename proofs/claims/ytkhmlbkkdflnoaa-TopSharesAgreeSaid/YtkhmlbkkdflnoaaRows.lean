/-
  No cell of these rows narrows 'for every input' (looked for: loops, veiled, ifaces, maps, wideKeys, modest, calm, conditions, laid).
  DERIVED. THE GIVEN ROWS OF THIS SEAT. 6 by the template 'for every input the law returns true; each argument reads behind the call as it read before'; 0 by the template 'total and deterministic' (their statements: YtkhmlbkkdflnoaaTotals.lean).
  GIVEN WITH THE SEED: the statements are not yours to turn. If you find one false, say at which input.
  Laid BY PROGRAM, IN A SANDBOX (cutbox-rows.mjs): the forced cells as the released guide's own fill.sh prints them over the translation 4c07d0284f287b31… (all of the seat's roots in one cut). By AI agents, Wed Nov 11 2026. No macro, syntax, notation, axiom, sorry.
-/
import Derived.Test.YtkhmlbkkdflnoaaChecked
import GoSem.Claim
import GoSem.ClaimJoined
import GoSem.ClaimMapViews
import Derived.JoinedTies
import Derived.KernelRfl
namespace Go.Proofs.Ytkhmlbkkdflnoaa
/- THE CELL 'sum', in the pinned program and in every row, IS THE sha256 OF THE DUMP (.gsa) THAT YtkhmlbkkdflnoaaProg.lean LOADS. Nothing in Lean hashes anything: it is a label: what it is worth is what the hold of that sum in a sandbox is worth. -/
noncomputable def Try.pinned : Pinned := { name := "ytkhmlbkkdflnoaa", sum := "4c07d0284f287b31f1429411d62bb3b66568c7c74d4c2115e4c94c2ed8bdce6c", checked := Try.checked }
namespace Rows
def none {H : Type} : Left H := { results := [], args := [] }

/-- 'chargeparktop.TopMeterReadings': WHATEVER THE INPUT: true; the input reads as it did. -/
def topMeterReadingsSpec : ChangeSpec := { name := "topMeterReadings", fn := fun _ => fun
  | [d1, d2, d3, d4, d5] => { results := [.lit (.bool true)], args := [d1, d2, d3, d4, d5] }
  | _ => none }
def topMeterReadingsRow : OpenClaim := { program := "ytkhmlbkkdflnoaa", sum := "4c07d0284f287b31f1429411d62bb3b66568c7c74d4c2115e4c94c2ed8bdce6c", func := "chargepark/chargeparktop.TopMeterReadings", spec := "topMeterReadings", unfollowed := true, recurses := true, plainKeys := false, apart := false }
def TopMeterReadingsSaid : Prop := topMeterReadingsRow.holds Try.pinned (OpenSpec.ofChange topMeterReadingsSpec)

/-- ITS FALSE NEIGHBOUR: 'it returns false'. Refute it at one input. -/
def topMeterReadingsWrong : ChangeSpec := { name := "topMeterReadings", fn := fun _ => fun
  | [d1, d2, d3, d4, d5] => { results := [.lit (.bool false)], args := [d1, d2, d3, d4, d5] }
  | _ => none }
def TopMeterReadingsWrongFalsely : Prop := topMeterReadingsRow.holds Try.pinned (OpenSpec.ofChange topMeterReadingsWrong)

/-- 'chargeparktop.TopBilledOnce': WHATEVER THE INPUT: true; the input reads as it did. -/
def topBilledOnceSpec : ChangeSpec := { name := "topBilledOnce", fn := fun _ => fun
  | [d1, d2, d3, d4, d5, d6, d7] => { results := [.lit (.bool true)], args := [d1, d2, d3, d4, d5, d6, d7] }
  | _ => none }
def topBilledOnceRow : OpenClaim := { program := "ytkhmlbkkdflnoaa", sum := "4c07d0284f287b31f1429411d62bb3b66568c7c74d4c2115e4c94c2ed8bdce6c", func := "chargepark/chargeparktop.TopBilledOnce", spec := "topBilledOnce", unfollowed := true, recurses := true, plainKeys := false, apart := false }
def TopBilledOnceSaid : Prop := topBilledOnceRow.holds Try.pinned (OpenSpec.ofChange topBilledOnceSpec)

/-- ITS FALSE NEIGHBOUR: 'it returns false'. Refute it at one input. -/
def topBilledOnceWrong : ChangeSpec := { name := "topBilledOnce", fn := fun _ => fun
  | [d1, d2, d3, d4, d5, d6, d7] => { results := [.lit (.bool false)], args := [d1, d2, d3, d4, d5, d6, d7] }
  | _ => none }
def TopBilledOnceWrongFalsely : Prop := topBilledOnceRow.holds Try.pinned (OpenSpec.ofChange topBilledOnceWrong)

/-- 'chargeparktop.TopDisputes': WHATEVER THE INPUT: true; the input reads as it did. -/
def topDisputesSpec : ChangeSpec := { name := "topDisputes", fn := fun _ => fun
  | [d1, d2, d3, d4, d5, d6] => { results := [.lit (.bool true)], args := [d1, d2, d3, d4, d5, d6] }
  | _ => none }
def topDisputesRow : OpenClaim := { program := "ytkhmlbkkdflnoaa", sum := "4c07d0284f287b31f1429411d62bb3b66568c7c74d4c2115e4c94c2ed8bdce6c", func := "chargepark/chargeparktop.TopDisputes", spec := "topDisputes", unfollowed := true, recurses := true, plainKeys := false, apart := false }
def TopDisputesSaid : Prop := topDisputesRow.holds Try.pinned (OpenSpec.ofChange topDisputesSpec)

/-- ITS FALSE NEIGHBOUR: 'it returns false'. Refute it at one input. -/
def topDisputesWrong : ChangeSpec := { name := "topDisputes", fn := fun _ => fun
  | [d1, d2, d3, d4, d5, d6] => { results := [.lit (.bool false)], args := [d1, d2, d3, d4, d5, d6] }
  | _ => none }
def TopDisputesWrongFalsely : Prop := topDisputesRow.holds Try.pinned (OpenSpec.ofChange topDisputesWrong)

/-- 'chargeparktop.TopRecordsArrive': WHATEVER THE INPUT: true; the input reads as it did. -/
def topRecordsArriveSpec : ChangeSpec := { name := "topRecordsArrive", fn := fun _ => fun
  | [d1, d2, d3] => { results := [.lit (.bool true)], args := [d1, d2, d3] }
  | _ => none }
def topRecordsArriveRow : OpenClaim := { program := "ytkhmlbkkdflnoaa", sum := "4c07d0284f287b31f1429411d62bb3b66568c7c74d4c2115e4c94c2ed8bdce6c", func := "chargepark/chargeparktop.TopRecordsArrive", spec := "topRecordsArrive", unfollowed := true, recurses := true, plainKeys := false, apart := false }
def TopRecordsArriveSaid : Prop := topRecordsArriveRow.holds Try.pinned (OpenSpec.ofChange topRecordsArriveSpec)

/-- ITS FALSE NEIGHBOUR: 'it returns false'. Refute it at one input. -/
def topRecordsArriveWrong : ChangeSpec := { name := "topRecordsArrive", fn := fun _ => fun
  | [d1, d2, d3] => { results := [.lit (.bool false)], args := [d1, d2, d3] }
  | _ => none }
def TopRecordsArriveWrongFalsely : Prop := topRecordsArriveRow.holds Try.pinned (OpenSpec.ofChange topRecordsArriveWrong)

/-- 'chargeparktop.TopSplitSettled': WHATEVER THE INPUT: true; the input reads as it did. -/
def topSplitSettledSpec : ChangeSpec := { name := "topSplitSettled", fn := fun _ => fun
  | [d1, d2] => { results := [.lit (.bool true)], args := [d1, d2] }
  | _ => none }
def topSplitSettledRow : OpenClaim := { program := "ytkhmlbkkdflnoaa", sum := "4c07d0284f287b31f1429411d62bb3b66568c7c74d4c2115e4c94c2ed8bdce6c", func := "chargepark/chargeparktop.TopSplitSettled", spec := "topSplitSettled", unfollowed := true, recurses := true, plainKeys := false, apart := false }
def TopSplitSettledSaid : Prop := topSplitSettledRow.holds Try.pinned (OpenSpec.ofChange topSplitSettledSpec)

/-- ITS FALSE NEIGHBOUR: 'it returns false'. Refute it at one input. -/
def topSplitSettledWrong : ChangeSpec := { name := "topSplitSettled", fn := fun _ => fun
  | [d1, d2] => { results := [.lit (.bool false)], args := [d1, d2] }
  | _ => none }
def TopSplitSettledWrongFalsely : Prop := topSplitSettledRow.holds Try.pinned (OpenSpec.ofChange topSplitSettledWrong)

/-- 'chargeparktop.TopSharesAgree': WHATEVER THE INPUT: true; the input reads as it did. -/
def topSharesAgreeSpec : ChangeSpec := { name := "topSharesAgree", fn := fun _ => fun
  | [d1, d2, d3] => { results := [.lit (.bool true)], args := [d1, d2, d3] }
  | _ => none }
def topSharesAgreeRow : OpenClaim := { program := "ytkhmlbkkdflnoaa", sum := "4c07d0284f287b31f1429411d62bb3b66568c7c74d4c2115e4c94c2ed8bdce6c", func := "chargepark/chargeparktop.TopSharesAgree", spec := "topSharesAgree", unfollowed := true, recurses := true, plainKeys := false, apart := false }
def TopSharesAgreeSaid : Prop := topSharesAgreeRow.holds Try.pinned (OpenSpec.ofChange topSharesAgreeSpec)

/-- ITS FALSE NEIGHBOUR: 'it returns false'. Refute it at one input. -/
def topSharesAgreeWrong : ChangeSpec := { name := "topSharesAgree", fn := fun _ => fun
  | [d1, d2, d3] => { results := [.lit (.bool false)], args := [d1, d2, d3] }
  | _ => none }
def TopSharesAgreeWrongFalsely : Prop := topSharesAgreeRow.holds Try.pinned (OpenSpec.ofChange topSharesAgreeWrong)

/- THE SECOND FORM. 'bulk': how many values and letters a reading holds, each counted each time it is reached (what is shared counts as often as it is met; a slice's spare places count too). A statement '..UptoSaid' is the law's where the arguments, and the package variables that the reading takes, are together of bulk at most 1048576: NARROWER than '..Said'. Prove '..Said' where nothing that the law and all that it calls make is longer than what came in: it says more and counts as full. Else prove '..UptoSaid'. A law counts once. -/
mutual
def uptoBulk {H : Type} : DataW H → Nat
  | .lit (.string bytes) => bytes.length + 1
  | .lit _ => 1
  | .nil => 1
  | .ptr d => uptoBulk d + 1
  | .slice elems spare => uptoBulkAll elems + uptoBulkAll spare + 1
  | .agg parts => uptoBulkAll parts + 1
  | .iface _ d => uptoBulk d + 1
  | .map entries => uptoBulkEntries entries + 1
  | .held _ => 1
def uptoBulkAll {H : Type} : List (DataW H) → Nat
  | [] => 0
  | d :: r => uptoBulk d + uptoBulkAll r
def uptoBulkEntries {H : Type} : List (Lit × DataW H) → Nat
  | [] => 0
  | x :: r => uptoBulkEntry x + uptoBulkEntries r
def uptoBulkEntry {H : Type} : Lit × DataW H → Nat
  | (.string bytes, d) => bytes.length + uptoBulk d + 1
  | (_, d) => uptoBulk d + 1
 end
def uptoSmall : (H : Type) → List (DataW H) → Bool := fun _ ds => decide (uptoBulkAll ds ≤ 1048576)
def OpenSpec.upto (s : _root_.Go.ChangeSpec) : _root_.Go.OpenSpec := { _root_.Go.OpenSpec.ofChange s with cond := some uptoSmall }

/-- 'chargeparktop.TopMeterReadings', WHERE WHAT IT READS IS OF BULK AT MOST 1048576: true; the input reads as it did. -/
def topMeterReadingsUptoRow : OpenClaim := { program := "ytkhmlbkkdflnoaa", sum := "4c07d0284f287b31f1429411d62bb3b66568c7c74d4c2115e4c94c2ed8bdce6c", func := "chargepark/chargeparktop.TopMeterReadings", spec := "topMeterReadings", unfollowed := true, recurses := true, plainKeys := false, apart := false, narrowed := true }
def TopMeterReadingsUptoSaid : Prop := topMeterReadingsUptoRow.holds Try.pinned (OpenSpec.upto topMeterReadingsSpec)

/-- 'chargeparktop.TopBilledOnce', WHERE WHAT IT READS IS OF BULK AT MOST 1048576: true; the input reads as it did. -/
def topBilledOnceUptoRow : OpenClaim := { program := "ytkhmlbkkdflnoaa", sum := "4c07d0284f287b31f1429411d62bb3b66568c7c74d4c2115e4c94c2ed8bdce6c", func := "chargepark/chargeparktop.TopBilledOnce", spec := "topBilledOnce", unfollowed := true, recurses := true, plainKeys := false, apart := false, narrowed := true }
def TopBilledOnceUptoSaid : Prop := topBilledOnceUptoRow.holds Try.pinned (OpenSpec.upto topBilledOnceSpec)

/-- 'chargeparktop.TopDisputes', WHERE WHAT IT READS IS OF BULK AT MOST 1048576: true; the input reads as it did. -/
def topDisputesUptoRow : OpenClaim := { program := "ytkhmlbkkdflnoaa", sum := "4c07d0284f287b31f1429411d62bb3b66568c7c74d4c2115e4c94c2ed8bdce6c", func := "chargepark/chargeparktop.TopDisputes", spec := "topDisputes", unfollowed := true, recurses := true, plainKeys := false, apart := false, narrowed := true }
def TopDisputesUptoSaid : Prop := topDisputesUptoRow.holds Try.pinned (OpenSpec.upto topDisputesSpec)

/-- 'chargeparktop.TopRecordsArrive', WHERE WHAT IT READS IS OF BULK AT MOST 1048576: true; the input reads as it did. -/
def topRecordsArriveUptoRow : OpenClaim := { program := "ytkhmlbkkdflnoaa", sum := "4c07d0284f287b31f1429411d62bb3b66568c7c74d4c2115e4c94c2ed8bdce6c", func := "chargepark/chargeparktop.TopRecordsArrive", spec := "topRecordsArrive", unfollowed := true, recurses := true, plainKeys := false, apart := false, narrowed := true }
def TopRecordsArriveUptoSaid : Prop := topRecordsArriveUptoRow.holds Try.pinned (OpenSpec.upto topRecordsArriveSpec)

/-- 'chargeparktop.TopSplitSettled', WHERE WHAT IT READS IS OF BULK AT MOST 1048576: true; the input reads as it did. -/
def topSplitSettledUptoRow : OpenClaim := { program := "ytkhmlbkkdflnoaa", sum := "4c07d0284f287b31f1429411d62bb3b66568c7c74d4c2115e4c94c2ed8bdce6c", func := "chargepark/chargeparktop.TopSplitSettled", spec := "topSplitSettled", unfollowed := true, recurses := true, plainKeys := false, apart := false, narrowed := true }
def TopSplitSettledUptoSaid : Prop := topSplitSettledUptoRow.holds Try.pinned (OpenSpec.upto topSplitSettledSpec)

/-- 'chargeparktop.TopSharesAgree', WHERE WHAT IT READS IS OF BULK AT MOST 1048576: true; the input reads as it did. -/
def topSharesAgreeUptoRow : OpenClaim := { program := "ytkhmlbkkdflnoaa", sum := "4c07d0284f287b31f1429411d62bb3b66568c7c74d4c2115e4c94c2ed8bdce6c", func := "chargepark/chargeparktop.TopSharesAgree", spec := "topSharesAgree", unfollowed := true, recurses := true, plainKeys := false, apart := false, narrowed := true }
def TopSharesAgreeUptoSaid : Prop := topSharesAgreeUptoRow.holds Try.pinned (OpenSpec.upto topSharesAgreeSpec)

end Rows
end Go.Proofs.Ytkhmlbkkdflnoaa
