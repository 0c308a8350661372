/-
  No cell of these rows narrows 'for every input' (looked for: loops, veiled, ifaces, maps, wideKeys, modest, calm, conditions, laid).
  DERIVED. THE GIVEN ROWS OF THIS SEAT. 6 by the template 'for every input the law returns true; each argument reads behind the call as it read before'; 0 by the template 'total and deterministic' (their statements: YtgbmbpllfjpdmaaTotals.lean).
  GIVEN WITH THE SEED: the statements are not yours to turn. If you find one false, say at which input.
  Laid BY PROGRAM, IN A SANDBOX (cutbox-rows.mjs): the forced cells as the released guide's own fill.sh prints them over the translation 8a1d3ea3a3a5a8db… (all of the seat's roots in one cut). By AI agents, Wed Nov 11 2026. No macro, syntax, notation, axiom, sorry.
-/
import Derived.Test.YtgbmbpllfjpdmaaChecked
import GoSem.Claim
import GoSem.ClaimJoined
import GoSem.ClaimMapViews
import Derived.JoinedTies
import Derived.KernelRfl
namespace Go.Proofs.Ytgbmbpllfjpdmaa
/- THE CELL 'sum', in the pinned program and in every row, IS THE sha256 OF THE DUMP (.gsa) THAT YtgbmbpllfjpdmaaProg.lean LOADS. Nothing in Lean hashes anything: it is a label: what it is worth is what the hold of that sum in a sandbox is worth. -/
noncomputable def Try.pinned : Pinned := { name := "ytgbmbpllfjpdmaa", sum := "8a1d3ea3a3a5a8db39b712778ab04651eedd521315ceb6c7f587f1b1a57d2583", checked := Try.checked }
namespace Rows
def none {H : Type} : Left H := { results := [], args := [] }

/-- 'chargeparklaw14.MeterMatchesReference': WHATEVER THE INPUT: true; the input reads as it did. -/
def meterMatchesReferenceSpec : ChangeSpec := { name := "meterMatchesReference", fn := fun _ => fun
  | [d1, d2, d3, d4] => { results := [.lit (.bool true)], args := [d1, d2, d3, d4] }
  | _ => none }
def meterMatchesReferenceRow : OpenClaim := { program := "ytgbmbpllfjpdmaa", sum := "8a1d3ea3a3a5a8db39b712778ab04651eedd521315ceb6c7f587f1b1a57d2583", func := "chargepark/chargeparklaw14.MeterMatchesReference", spec := "meterMatchesReference", unfollowed := true, recurses := true, apart := false }
def MeterMatchesReferenceSaid : Prop := meterMatchesReferenceRow.holds Try.pinned (OpenSpec.ofChange meterMatchesReferenceSpec)

/-- ITS FALSE NEIGHBOUR: 'it returns false'. Refute it at one input. -/
def meterMatchesReferenceWrong : ChangeSpec := { name := "meterMatchesReference", fn := fun _ => fun
  | [d1, d2, d3, d4] => { results := [.lit (.bool false)], args := [d1, d2, d3, d4] }
  | _ => none }
def MeterMatchesReferenceWrongFalsely : Prop := meterMatchesReferenceRow.holds Try.pinned (OpenSpec.ofChange meterMatchesReferenceWrong)

/-- 'chargeparklaw14.MeterSums': WHATEVER THE INPUT: true; the input reads as it did. -/
def meterSumsSpec : ChangeSpec := { name := "meterSums", fn := fun _ => fun
  | [d1, d2, d3] => { results := [.lit (.bool true)], args := [d1, d2, d3] }
  | _ => none }
def meterSumsRow : OpenClaim := { program := "ytgbmbpllfjpdmaa", sum := "8a1d3ea3a3a5a8db39b712778ab04651eedd521315ceb6c7f587f1b1a57d2583", func := "chargepark/chargeparklaw14.MeterSums", spec := "meterSums", unfollowed := true, recurses := true, apart := false }
def MeterSumsSaid : Prop := meterSumsRow.holds Try.pinned (OpenSpec.ofChange meterSumsSpec)

/-- ITS FALSE NEIGHBOUR: 'it returns false'. Refute it at one input. -/
def meterSumsWrong : ChangeSpec := { name := "meterSums", fn := fun _ => fun
  | [d1, d2, d3] => { results := [.lit (.bool false)], args := [d1, d2, d3] }
  | _ => none }
def MeterSumsWrongFalsely : Prop := meterSumsRow.holds Try.pinned (OpenSpec.ofChange meterSumsWrong)

/-- 'chargeparklaw14.MeterBackwards': WHATEVER THE INPUT: true; the input reads as it did. -/
def meterBackwardsSpec : ChangeSpec := { name := "meterBackwards", fn := fun _ => fun
  | [d1, d2] => { results := [.lit (.bool true)], args := [d1, d2] }
  | _ => none }
def meterBackwardsRow : OpenClaim := { program := "ytgbmbpllfjpdmaa", sum := "8a1d3ea3a3a5a8db39b712778ab04651eedd521315ceb6c7f587f1b1a57d2583", func := "chargepark/chargeparklaw14.MeterBackwards", spec := "meterBackwards", unfollowed := true, recurses := true, apart := false }
def MeterBackwardsSaid : Prop := meterBackwardsRow.holds Try.pinned (OpenSpec.ofChange meterBackwardsSpec)

/-- ITS FALSE NEIGHBOUR: 'it returns false'. Refute it at one input. -/
def meterBackwardsWrong : ChangeSpec := { name := "meterBackwards", fn := fun _ => fun
  | [d1, d2] => { results := [.lit (.bool false)], args := [d1, d2] }
  | _ => none }
def MeterBackwardsWrongFalsely : Prop := meterBackwardsRow.holds Try.pinned (OpenSpec.ofChange meterBackwardsWrong)

/-- 'chargeparklaw14.MeterParts': WHATEVER THE INPUT: true; the input reads as it did. -/
def meterPartsSpec : ChangeSpec := { name := "meterParts", fn := fun _ => fun
  | [d1, d2, d3] => { results := [.lit (.bool true)], args := [d1, d2, d3] }
  | _ => none }
def meterPartsRow : OpenClaim := { program := "ytgbmbpllfjpdmaa", sum := "8a1d3ea3a3a5a8db39b712778ab04651eedd521315ceb6c7f587f1b1a57d2583", func := "chargepark/chargeparklaw14.MeterParts", spec := "meterParts", unfollowed := true, recurses := true, apart := false }
def MeterPartsSaid : Prop := meterPartsRow.holds Try.pinned (OpenSpec.ofChange meterPartsSpec)

/-- ITS FALSE NEIGHBOUR: 'it returns false'. Refute it at one input. -/
def meterPartsWrong : ChangeSpec := { name := "meterParts", fn := fun _ => fun
  | [d1, d2, d3] => { results := [.lit (.bool false)], args := [d1, d2, d3] }
  | _ => none }
def MeterPartsWrongFalsely : Prop := meterPartsRow.holds Try.pinned (OpenSpec.ofChange meterPartsWrong)

/-- 'chargeparklaw14.MeterSwaps': WHATEVER THE INPUT: true; the input reads as it did. -/
def meterSwapsSpec : ChangeSpec := { name := "meterSwaps", fn := fun _ => fun
  | [d1, d2, d3, d4] => { results := [.lit (.bool true)], args := [d1, d2, d3, d4] }
  | _ => none }
def meterSwapsRow : OpenClaim := { program := "ytgbmbpllfjpdmaa", sum := "8a1d3ea3a3a5a8db39b712778ab04651eedd521315ceb6c7f587f1b1a57d2583", func := "chargepark/chargeparklaw14.MeterSwaps", spec := "meterSwaps", unfollowed := true, recurses := true, apart := false }
def MeterSwapsSaid : Prop := meterSwapsRow.holds Try.pinned (OpenSpec.ofChange meterSwapsSpec)

/-- ITS FALSE NEIGHBOUR: 'it returns false'. Refute it at one input. -/
def meterSwapsWrong : ChangeSpec := { name := "meterSwaps", fn := fun _ => fun
  | [d1, d2, d3, d4] => { results := [.lit (.bool false)], args := [d1, d2, d3, d4] }
  | _ => none }
def MeterSwapsWrongFalsely : Prop := meterSwapsRow.holds Try.pinned (OpenSpec.ofChange meterSwapsWrong)

/-- 'chargeparklaw14.MeterHours': WHATEVER THE INPUT: true; the input reads as it did. -/
def meterHoursSpec : ChangeSpec := { name := "meterHours", fn := fun _ => fun
  | [d1, d2, d3, d4] => { results := [.lit (.bool true)], args := [d1, d2, d3, d4] }
  | _ => none }
def meterHoursRow : OpenClaim := { program := "ytgbmbpllfjpdmaa", sum := "8a1d3ea3a3a5a8db39b712778ab04651eedd521315ceb6c7f587f1b1a57d2583", func := "chargepark/chargeparklaw14.MeterHours", spec := "meterHours", unfollowed := true, recurses := true, apart := false }
def MeterHoursSaid : Prop := meterHoursRow.holds Try.pinned (OpenSpec.ofChange meterHoursSpec)

/-- ITS FALSE NEIGHBOUR: 'it returns false'. Refute it at one input. -/
def meterHoursWrong : ChangeSpec := { name := "meterHours", fn := fun _ => fun
  | [d1, d2, d3, d4] => { results := [.lit (.bool false)], args := [d1, d2, d3, d4] }
  | _ => none }
def MeterHoursWrongFalsely : Prop := meterHoursRow.holds Try.pinned (OpenSpec.ofChange meterHoursWrong)

/- THE SECOND FORM. 'bulk': how many values and letters a reading holds, each counted each time it is reached (what is shared counts as often as it is met; a slice's spare places count too). A statement '..UptoSaid' is the law's where the arguments, and the package variables that the reading takes, are together of bulk at most 1048576: NARROWER than '..Said'. Prove '..Said' where nothing that the law and all that it calls make is longer than what came in: it says more and counts as full. Else prove '..UptoSaid'. A law counts once. -/
mutual
def uptoBulk {H : Type} : DataW H → Nat
  | .lit (.string bytes) => bytes.length + 1
  | .lit _ => 1
  | .nil => 1
  | .ptr d => uptoBulk d + 1
  | .slice elems spare => uptoBulkAll elems + uptoBulkAll spare + 1
  | .agg parts => uptoBulkAll parts + 1
  | .iface _ d => uptoBulk d + 1
  | .map entries => uptoBulkEntries entries + 1
  | .held _ => 1
def uptoBulkAll {H : Type} : List (DataW H) → Nat
  | [] => 0
  | d :: r => uptoBulk d + uptoBulkAll r
def uptoBulkEntries {H : Type} : List (Lit × DataW H) → Nat
  | [] => 0
  | x :: r => uptoBulkEntry x + uptoBulkEntries r
def uptoBulkEntry {H : Type} : Lit × DataW H → Nat
  | (.string bytes, d) => bytes.length + uptoBulk d + 1
  | (_, d) => uptoBulk d + 1
 end
def uptoSmall : (H : Type) → List (DataW H) → Bool := fun _ ds => decide (uptoBulkAll ds ≤ 1048576)
def OpenSpec.upto (s : _root_.Go.ChangeSpec) : _root_.Go.OpenSpec := { _root_.Go.OpenSpec.ofChange s with cond := some uptoSmall }

/-- 'chargeparklaw14.MeterMatchesReference', WHERE WHAT IT READS IS OF BULK AT MOST 1048576: true; the input reads as it did. -/
def meterMatchesReferenceUptoRow : OpenClaim := { program := "ytgbmbpllfjpdmaa", sum := "8a1d3ea3a3a5a8db39b712778ab04651eedd521315ceb6c7f587f1b1a57d2583", func := "chargepark/chargeparklaw14.MeterMatchesReference", spec := "meterMatchesReference", unfollowed := true, recurses := true, apart := false, narrowed := true }
def MeterMatchesReferenceUptoSaid : Prop := meterMatchesReferenceUptoRow.holds Try.pinned (OpenSpec.upto meterMatchesReferenceSpec)

/-- 'chargeparklaw14.MeterSums', WHERE WHAT IT READS IS OF BULK AT MOST 1048576: true; the input reads as it did. -/
def meterSumsUptoRow : OpenClaim := { program := "ytgbmbpllfjpdmaa", sum := "8a1d3ea3a3a5a8db39b712778ab04651eedd521315ceb6c7f587f1b1a57d2583", func := "chargepark/chargeparklaw14.MeterSums", spec := "meterSums", unfollowed := true, recurses := true, apart := false, narrowed := true }
def MeterSumsUptoSaid : Prop := meterSumsUptoRow.holds Try.pinned (OpenSpec.upto meterSumsSpec)

/-- 'chargeparklaw14.MeterBackwards', WHERE WHAT IT READS IS OF BULK AT MOST 1048576: true; the input reads as it did. -/
def meterBackwardsUptoRow : OpenClaim := { program := "ytgbmbpllfjpdmaa", sum := "8a1d3ea3a3a5a8db39b712778ab04651eedd521315ceb6c7f587f1b1a57d2583", func := "chargepark/chargeparklaw14.MeterBackwards", spec := "meterBackwards", unfollowed := true, recurses := true, apart := false, narrowed := true }
def MeterBackwardsUptoSaid : Prop := meterBackwardsUptoRow.holds Try.pinned (OpenSpec.upto meterBackwardsSpec)

/-- 'chargeparklaw14.MeterParts', WHERE WHAT IT READS IS OF BULK AT MOST 1048576: true; the input reads as it did. -/
def meterPartsUptoRow : OpenClaim := { program := "ytgbmbpllfjpdmaa", sum := "8a1d3ea3a3a5a8db39b712778ab04651eedd521315ceb6c7f587f1b1a57d2583", func := "chargepark/chargeparklaw14.MeterParts", spec := "meterParts", unfollowed := true, recurses := true, apart := false, narrowed := true }
def MeterPartsUptoSaid : Prop := meterPartsUptoRow.holds Try.pinned (OpenSpec.upto meterPartsSpec)

/-- 'chargeparklaw14.MeterSwaps', WHERE WHAT IT READS IS OF BULK AT MOST 1048576: true; the input reads as it did. -/
def meterSwapsUptoRow : OpenClaim := { program := "ytgbmbpllfjpdmaa", sum := "8a1d3ea3a3a5a8db39b712778ab04651eedd521315ceb6c7f587f1b1a57d2583", func := "chargepark/chargeparklaw14.MeterSwaps", spec := "meterSwaps", unfollowed := true, recurses := true, apart := false, narrowed := true }
def MeterSwapsUptoSaid : Prop := meterSwapsUptoRow.holds Try.pinned (OpenSpec.upto meterSwapsSpec)

/-- 'chargeparklaw14.MeterHours', WHERE WHAT IT READS IS OF BULK AT MOST 1048576: true; the input reads as it did. -/
def meterHoursUptoRow : OpenClaim := { program := "ytgbmbpllfjpdmaa", sum := "8a1d3ea3a3a5a8db39b712778ab04651eedd521315ceb6c7f587f1b1a57d2583", func := "chargepark/chargeparklaw14.MeterHours", spec := "meterHours", unfollowed := true, recurses := true, apart := false, narrowed := true }
def MeterHoursUptoSaid : Prop := meterHoursUptoRow.holds Try.pinned (OpenSpec.upto meterHoursSpec)

end Rows
end Go.Proofs.Ytgbmbpllfjpdmaa
