/-
  No cell of these rows narrows 'for every input' (looked for: loops, veiled, ifaces, maps, wideKeys, modest, calm, conditions, laid).
  DERIVED. THE GIVEN ROWS OF THIS SEAT. 6 by the template 'for every input the law returns true; each argument reads behind the call as it read before'; 0 by the template 'total and deterministic' (their statements: YtdeeaehdbaoloaaTotals.lean).
  GIVEN WITH THE SEED: the statements are not yours to turn. If you find one false, say at which input.
  Laid BY PROGRAM, IN A SANDBOX (cutbox-rows.mjs): the forced cells as the released guide's own fill.sh prints them over the translation 89c1e808dd1ddd81… (all of the seat's roots in one cut). By AI agents, Wed Nov 11 2026. No macro, syntax, notation, axiom, sorry.
-/
import Derived.Test.YtdeeaehdbaoloaaChecked
import GoSem.Claim
import GoSem.ClaimJoined
import GoSem.ClaimMapViews
import Derived.JoinedTies
import Derived.KernelRfl
namespace Go.Proofs.Ytdeeaehdbaoloaa
/- THE CELL 'sum', in the pinned program and in every row, IS THE sha256 OF THE DUMP (.gsa) THAT YtdeeaehdbaoloaaProg.lean LOADS. Nothing in Lean hashes anything: it is a label: what it is worth is what the hold of that sum in a sandbox is worth. -/
noncomputable def Try.pinned : Pinned := { name := "ytdeeaehdbaoloaa", sum := "89c1e808dd1ddd813ea41d2984975443f2903f0f6b0b4351b589c26b5dce0fa0", checked := Try.checked }
namespace Rows
def none {H : Type} : Left H := { results := [], args := [] }

/-- 'chargeparklaw30.BidsMatchesReference': WHATEVER THE INPUT: true; the input reads as it did. -/
def bidsMatchesReferenceSpec : ChangeSpec := { name := "bidsMatchesReference", fn := fun _ => fun
  | [d1, d2, d3, d4] => { results := [.lit (.bool true)], args := [d1, d2, d3, d4] }
  | _ => none }
def bidsMatchesReferenceRow : OpenClaim := { program := "ytdeeaehdbaoloaa", sum := "89c1e808dd1ddd813ea41d2984975443f2903f0f6b0b4351b589c26b5dce0fa0", func := "chargepark/chargeparklaw30.BidsMatchesReference", spec := "bidsMatchesReference", unfollowed := true, recurses := true, apart := false }
def BidsMatchesReferenceSaid : Prop := bidsMatchesReferenceRow.holds Try.pinned (OpenSpec.ofChange bidsMatchesReferenceSpec)

/-- ITS FALSE NEIGHBOUR: 'it returns false'. Refute it at one input. -/
def bidsMatchesReferenceWrong : ChangeSpec := { name := "bidsMatchesReference", fn := fun _ => fun
  | [d1, d2, d3, d4] => { results := [.lit (.bool false)], args := [d1, d2, d3, d4] }
  | _ => none }
def BidsMatchesReferenceWrongFalsely : Prop := bidsMatchesReferenceRow.holds Try.pinned (OpenSpec.ofChange bidsMatchesReferenceWrong)

/-- 'chargeparklaw30.BidsUnshifted': WHATEVER THE INPUT: true; the input reads as it did. -/
def bidsUnshiftedSpec : ChangeSpec := { name := "bidsUnshifted", fn := fun _ => fun
  | [d1, d2, d3, d4, d5, d6] => { results := [.lit (.bool true)], args := [d1, d2, d3, d4, d5, d6] }
  | _ => none }
def bidsUnshiftedRow : OpenClaim := { program := "ytdeeaehdbaoloaa", sum := "89c1e808dd1ddd813ea41d2984975443f2903f0f6b0b4351b589c26b5dce0fa0", func := "chargepark/chargeparklaw30.BidsUnshifted", spec := "bidsUnshifted", unfollowed := true, recurses := true, apart := false }
def BidsUnshiftedSaid : Prop := bidsUnshiftedRow.holds Try.pinned (OpenSpec.ofChange bidsUnshiftedSpec)

/-- ITS FALSE NEIGHBOUR: 'it returns false'. Refute it at one input. -/
def bidsUnshiftedWrong : ChangeSpec := { name := "bidsUnshifted", fn := fun _ => fun
  | [d1, d2, d3, d4, d5, d6] => { results := [.lit (.bool false)], args := [d1, d2, d3, d4, d5, d6] }
  | _ => none }
def BidsUnshiftedWrongFalsely : Prop := bidsUnshiftedRow.holds Try.pinned (OpenSpec.ofChange bidsUnshiftedWrong)

/-- 'chargeparklaw30.BidsMean': WHATEVER THE INPUT: true; the input reads as it did. -/
def bidsMeanSpec : ChangeSpec := { name := "bidsMean", fn := fun _ => fun
  | [d1, d2, d3, d4] => { results := [.lit (.bool true)], args := [d1, d2, d3, d4] }
  | _ => none }
def bidsMeanRow : OpenClaim := { program := "ytdeeaehdbaoloaa", sum := "89c1e808dd1ddd813ea41d2984975443f2903f0f6b0b4351b589c26b5dce0fa0", func := "chargepark/chargeparklaw30.BidsMean", spec := "bidsMean", unfollowed := true, recurses := true, apart := false }
def BidsMeanSaid : Prop := bidsMeanRow.holds Try.pinned (OpenSpec.ofChange bidsMeanSpec)

/-- ITS FALSE NEIGHBOUR: 'it returns false'. Refute it at one input. -/
def bidsMeanWrong : ChangeSpec := { name := "bidsMean", fn := fun _ => fun
  | [d1, d2, d3, d4] => { results := [.lit (.bool false)], args := [d1, d2, d3, d4] }
  | _ => none }
def BidsMeanWrongFalsely : Prop := bidsMeanRow.holds Try.pinned (OpenSpec.ofChange bidsMeanWrong)

/-- 'chargeparklaw30.BidsDelivery': WHATEVER THE INPUT: true; the input reads as it did. -/
def bidsDeliverySpec : ChangeSpec := { name := "bidsDelivery", fn := fun _ => fun
  | [d1, d2, d3, d4] => { results := [.lit (.bool true)], args := [d1, d2, d3, d4] }
  | _ => none }
def bidsDeliveryRow : OpenClaim := { program := "ytdeeaehdbaoloaa", sum := "89c1e808dd1ddd813ea41d2984975443f2903f0f6b0b4351b589c26b5dce0fa0", func := "chargepark/chargeparklaw30.BidsDelivery", spec := "bidsDelivery", unfollowed := true, recurses := true, apart := false }
def BidsDeliverySaid : Prop := bidsDeliveryRow.holds Try.pinned (OpenSpec.ofChange bidsDeliverySpec)

/-- ITS FALSE NEIGHBOUR: 'it returns false'. Refute it at one input. -/
def bidsDeliveryWrong : ChangeSpec := { name := "bidsDelivery", fn := fun _ => fun
  | [d1, d2, d3, d4] => { results := [.lit (.bool false)], args := [d1, d2, d3, d4] }
  | _ => none }
def BidsDeliveryWrongFalsely : Prop := bidsDeliveryRow.holds Try.pinned (OpenSpec.ofChange bidsDeliveryWrong)

/-- 'chargeparklaw30.BidsMore': WHATEVER THE INPUT: true; the input reads as it did. -/
def bidsMoreSpec : ChangeSpec := { name := "bidsMore", fn := fun _ => fun
  | [d1, d2, d3, d4, d5, d6] => { results := [.lit (.bool true)], args := [d1, d2, d3, d4, d5, d6] }
  | _ => none }
def bidsMoreRow : OpenClaim := { program := "ytdeeaehdbaoloaa", sum := "89c1e808dd1ddd813ea41d2984975443f2903f0f6b0b4351b589c26b5dce0fa0", func := "chargepark/chargeparklaw30.BidsMore", spec := "bidsMore", unfollowed := true, recurses := true, apart := false }
def BidsMoreSaid : Prop := bidsMoreRow.holds Try.pinned (OpenSpec.ofChange bidsMoreSpec)

/-- ITS FALSE NEIGHBOUR: 'it returns false'. Refute it at one input. -/
def bidsMoreWrong : ChangeSpec := { name := "bidsMore", fn := fun _ => fun
  | [d1, d2, d3, d4, d5, d6] => { results := [.lit (.bool false)], args := [d1, d2, d3, d4, d5, d6] }
  | _ => none }
def BidsMoreWrongFalsely : Prop := bidsMoreRow.holds Try.pinned (OpenSpec.ofChange bidsMoreWrong)

/-- 'chargeparklaw30.BidsFurther': WHATEVER THE INPUT: true; the input reads as it did. -/
def bidsFurtherSpec : ChangeSpec := { name := "bidsFurther", fn := fun _ => fun
  | [d1, d2, d3, d4, d5, d6] => { results := [.lit (.bool true)], args := [d1, d2, d3, d4, d5, d6] }
  | _ => none }
def bidsFurtherRow : OpenClaim := { program := "ytdeeaehdbaoloaa", sum := "89c1e808dd1ddd813ea41d2984975443f2903f0f6b0b4351b589c26b5dce0fa0", func := "chargepark/chargeparklaw30.BidsFurther", spec := "bidsFurther", unfollowed := true, recurses := true, apart := false }
def BidsFurtherSaid : Prop := bidsFurtherRow.holds Try.pinned (OpenSpec.ofChange bidsFurtherSpec)

/-- ITS FALSE NEIGHBOUR: 'it returns false'. Refute it at one input. -/
def bidsFurtherWrong : ChangeSpec := { name := "bidsFurther", fn := fun _ => fun
  | [d1, d2, d3, d4, d5, d6] => { results := [.lit (.bool false)], args := [d1, d2, d3, d4, d5, d6] }
  | _ => none }
def BidsFurtherWrongFalsely : Prop := bidsFurtherRow.holds Try.pinned (OpenSpec.ofChange bidsFurtherWrong)

/- THE SECOND FORM. 'bulk': how many values and letters a reading holds, each counted each time it is reached (what is shared counts as often as it is met; a slice's spare places count too). A statement '..UptoSaid' is the law's where the arguments, and the package variables that the reading takes, are together of bulk at most 1048576: NARROWER than '..Said'. Prove '..Said' where nothing that the law and all that it calls make is longer than what came in: it says more and counts as full. Else prove '..UptoSaid'. A law counts once. -/
mutual
def uptoBulk {H : Type} : DataW H → Nat
  | .lit (.string bytes) => bytes.length + 1
  | .lit _ => 1
  | .nil => 1
  | .ptr d => uptoBulk d + 1
  | .slice elems spare => uptoBulkAll elems + uptoBulkAll spare + 1
  | .agg parts => uptoBulkAll parts + 1
  | .iface _ d => uptoBulk d + 1
  | .map entries => uptoBulkEntries entries + 1
  | .held _ => 1
def uptoBulkAll {H : Type} : List (DataW H) → Nat
  | [] => 0
  | d :: r => uptoBulk d + uptoBulkAll r
def uptoBulkEntries {H : Type} : List (Lit × DataW H) → Nat
  | [] => 0
  | x :: r => uptoBulkEntry x + uptoBulkEntries r
def uptoBulkEntry {H : Type} : Lit × DataW H → Nat
  | (.string bytes, d) => bytes.length + uptoBulk d + 1
  | (_, d) => uptoBulk d + 1
 end
def uptoSmall : (H : Type) → List (DataW H) → Bool := fun _ ds => decide (uptoBulkAll ds ≤ 1048576)
def OpenSpec.upto (s : _root_.Go.ChangeSpec) : _root_.Go.OpenSpec := { _root_.Go.OpenSpec.ofChange s with cond := some uptoSmall }

/-- 'chargeparklaw30.BidsMatchesReference', WHERE WHAT IT READS IS OF BULK AT MOST 1048576: true; the input reads as it did. -/
def bidsMatchesReferenceUptoRow : OpenClaim := { program := "ytdeeaehdbaoloaa", sum := "89c1e808dd1ddd813ea41d2984975443f2903f0f6b0b4351b589c26b5dce0fa0", func := "chargepark/chargeparklaw30.BidsMatchesReference", spec := "bidsMatchesReference", unfollowed := true, recurses := true, apart := false, narrowed := true }
def BidsMatchesReferenceUptoSaid : Prop := bidsMatchesReferenceUptoRow.holds Try.pinned (OpenSpec.upto bidsMatchesReferenceSpec)

/-- 'chargeparklaw30.BidsUnshifted', WHERE WHAT IT READS IS OF BULK AT MOST 1048576: true; the input reads as it did. -/
def bidsUnshiftedUptoRow : OpenClaim := { program := "ytdeeaehdbaoloaa", sum := "89c1e808dd1ddd813ea41d2984975443f2903f0f6b0b4351b589c26b5dce0fa0", func := "chargepark/chargeparklaw30.BidsUnshifted", spec := "bidsUnshifted", unfollowed := true, recurses := true, apart := false, narrowed := true }
def BidsUnshiftedUptoSaid : Prop := bidsUnshiftedUptoRow.holds Try.pinned (OpenSpec.upto bidsUnshiftedSpec)

/-- 'chargeparklaw30.BidsMean', WHERE WHAT IT READS IS OF BULK AT MOST 1048576: true; the input reads as it did. -/
def bidsMeanUptoRow : OpenClaim := { program := "ytdeeaehdbaoloaa", sum := "89c1e808dd1ddd813ea41d2984975443f2903f0f6b0b4351b589c26b5dce0fa0", func := "chargepark/chargeparklaw30.BidsMean", spec := "bidsMean", unfollowed := true, recurses := true, apart := false, narrowed := true }
def BidsMeanUptoSaid : Prop := bidsMeanUptoRow.holds Try.pinned (OpenSpec.upto bidsMeanSpec)

/-- 'chargeparklaw30.BidsDelivery', WHERE WHAT IT READS IS OF BULK AT MOST 1048576: true; the input reads as it did. -/
def bidsDeliveryUptoRow : OpenClaim := { program := "ytdeeaehdbaoloaa", sum := "89c1e808dd1ddd813ea41d2984975443f2903f0f6b0b4351b589c26b5dce0fa0", func := "chargepark/chargeparklaw30.BidsDelivery", spec := "bidsDelivery", unfollowed := true, recurses := true, apart := false, narrowed := true }
def BidsDeliveryUptoSaid : Prop := bidsDeliveryUptoRow.holds Try.pinned (OpenSpec.upto bidsDeliverySpec)

/-- 'chargeparklaw30.BidsMore', WHERE WHAT IT READS IS OF BULK AT MOST 1048576: true; the input reads as it did. -/
def bidsMoreUptoRow : OpenClaim := { program := "ytdeeaehdbaoloaa", sum := "89c1e808dd1ddd813ea41d2984975443f2903f0f6b0b4351b589c26b5dce0fa0", func := "chargepark/chargeparklaw30.BidsMore", spec := "bidsMore", unfollowed := true, recurses := true, apart := false, narrowed := true }
def BidsMoreUptoSaid : Prop := bidsMoreUptoRow.holds Try.pinned (OpenSpec.upto bidsMoreSpec)

/-- 'chargeparklaw30.BidsFurther', WHERE WHAT IT READS IS OF BULK AT MOST 1048576: true; the input reads as it did. -/
def bidsFurtherUptoRow : OpenClaim := { program := "ytdeeaehdbaoloaa", sum := "89c1e808dd1ddd813ea41d2984975443f2903f0f6b0b4351b589c26b5dce0fa0", func := "chargepark/chargeparklaw30.BidsFurther", spec := "bidsFurther", unfollowed := true, recurses := true, apart := false, narrowed := true }
def BidsFurtherUptoSaid : Prop := bidsFurtherUptoRow.holds Try.pinned (OpenSpec.upto bidsFurtherSpec)

end Rows
end Go.Proofs.Ytdeeaehdbaoloaa
