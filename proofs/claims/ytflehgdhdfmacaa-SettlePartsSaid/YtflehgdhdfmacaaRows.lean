/-
  No cell of these rows narrows 'for every input' (looked for: loops, veiled, ifaces, maps, wideKeys, modest, calm, conditions, laid).
  DERIVED. THE GIVEN ROWS OF THIS SEAT. 6 by the template 'for every input the law returns true; each argument reads behind the call as it read before'; 0 by the template 'total and deterministic' (their statements: YtflehgdhdfmacaaTotals.lean).
  GIVEN WITH THE SEED: the statements are not yours to turn. If you find one false, say at which input.
  Laid BY PROGRAM, IN A SANDBOX (cutbox-rows.mjs): the forced cells as the released guide's own fill.sh prints them over the translation f2294993c1880dfe… (all of the seat's roots in one cut). By AI agents, Wed Nov 11 2026. No macro, syntax, notation, axiom, sorry.
-/
import Derived.Test.YtflehgdhdfmacaaChecked
import GoSem.Claim
import GoSem.ClaimJoined
import GoSem.ClaimMapViews
import Derived.JoinedTies
import Derived.KernelRfl
namespace Go.Proofs.Ytflehgdhdfmacaa
/- THE CELL 'sum', in the pinned program and in every row, IS THE sha256 OF THE DUMP (.gsa) THAT YtflehgdhdfmacaaProg.lean LOADS. Nothing in Lean hashes anything: it is a label: what it is worth is what the hold of that sum in a sandbox is worth. -/
noncomputable def Try.pinned : Pinned := { name := "ytflehgdhdfmacaa", sum := "f2294993c1880dfe3ab1d6dae1b2307e19d8843ddb3f1509ee7780bf041bc21e", checked := Try.checked }
namespace Rows
def none {H : Type} : Left H := { results := [], args := [] }

/-- 'chargeparklaw42.SettleMatchesReference': WHATEVER THE INPUT: true; the input reads as it did. -/
def settleMatchesReferenceSpec : ChangeSpec := { name := "settleMatchesReference", fn := fun _ => fun
  | [d1, d2, d3, d4, d5] => { results := [.lit (.bool true)], args := [d1, d2, d3, d4, d5] }
  | _ => none }
def settleMatchesReferenceRow : OpenClaim := { program := "ytflehgdhdfmacaa", sum := "f2294993c1880dfe3ab1d6dae1b2307e19d8843ddb3f1509ee7780bf041bc21e", func := "chargepark/chargeparklaw42.SettleMatchesReference", spec := "settleMatchesReference", unfollowed := true, recurses := true, plainKeys := false, apart := false }
def SettleMatchesReferenceSaid : Prop := settleMatchesReferenceRow.holds Try.pinned (OpenSpec.ofChange settleMatchesReferenceSpec)

/-- ITS FALSE NEIGHBOUR: 'it returns false'. Refute it at one input. -/
def settleMatchesReferenceWrong : ChangeSpec := { name := "settleMatchesReference", fn := fun _ => fun
  | [d1, d2, d3, d4, d5] => { results := [.lit (.bool false)], args := [d1, d2, d3, d4, d5] }
  | _ => none }
def SettleMatchesReferenceWrongFalsely : Prop := settleMatchesReferenceRow.holds Try.pinned (OpenSpec.ofChange settleMatchesReferenceWrong)

/-- 'chargeparklaw42.SettleSums': WHATEVER THE INPUT: true; the input reads as it did. -/
def settleSumsSpec : ChangeSpec := { name := "settleSums", fn := fun _ => fun
  | [d1, d2] => { results := [.lit (.bool true)], args := [d1, d2] }
  | _ => none }
def settleSumsRow : OpenClaim := { program := "ytflehgdhdfmacaa", sum := "f2294993c1880dfe3ab1d6dae1b2307e19d8843ddb3f1509ee7780bf041bc21e", func := "chargepark/chargeparklaw42.SettleSums", spec := "settleSums", unfollowed := true, recurses := true, plainKeys := false, apart := false }
def SettleSumsSaid : Prop := settleSumsRow.holds Try.pinned (OpenSpec.ofChange settleSumsSpec)

/-- ITS FALSE NEIGHBOUR: 'it returns false'. Refute it at one input. -/
def settleSumsWrong : ChangeSpec := { name := "settleSums", fn := fun _ => fun
  | [d1, d2] => { results := [.lit (.bool false)], args := [d1, d2] }
  | _ => none }
def SettleSumsWrongFalsely : Prop := settleSumsRow.holds Try.pinned (OpenSpec.ofChange settleSumsWrong)

/-- 'chargeparklaw42.SettleParts': WHATEVER THE INPUT: true; the input reads as it did. -/
def settlePartsSpec : ChangeSpec := { name := "settleParts", fn := fun _ => fun
  | [d1, d2, d3] => { results := [.lit (.bool true)], args := [d1, d2, d3] }
  | _ => none }
def settlePartsRow : OpenClaim := { program := "ytflehgdhdfmacaa", sum := "f2294993c1880dfe3ab1d6dae1b2307e19d8843ddb3f1509ee7780bf041bc21e", func := "chargepark/chargeparklaw42.SettleParts", spec := "settleParts", unfollowed := true, recurses := true, plainKeys := false, apart := false }
def SettlePartsSaid : Prop := settlePartsRow.holds Try.pinned (OpenSpec.ofChange settlePartsSpec)

/-- ITS FALSE NEIGHBOUR: 'it returns false'. Refute it at one input. -/
def settlePartsWrong : ChangeSpec := { name := "settleParts", fn := fun _ => fun
  | [d1, d2, d3] => { results := [.lit (.bool false)], args := [d1, d2, d3] }
  | _ => none }
def SettlePartsWrongFalsely : Prop := settlePartsRow.holds Try.pinned (OpenSpec.ofChange settlePartsWrong)

/-- 'chargeparklaw42.SettlePayments': WHATEVER THE INPUT: true; the input reads as it did. -/
def settlePaymentsSpec : ChangeSpec := { name := "settlePayments", fn := fun _ => fun
  | [d] => { results := [.lit (.bool true)], args := [d] }
  | _ => none }
def settlePaymentsRow : OpenClaim := { program := "ytflehgdhdfmacaa", sum := "f2294993c1880dfe3ab1d6dae1b2307e19d8843ddb3f1509ee7780bf041bc21e", func := "chargepark/chargeparklaw42.SettlePayments", spec := "settlePayments", unfollowed := true, recurses := true, plainKeys := false, apart := false }
def SettlePaymentsSaid : Prop := settlePaymentsRow.holds Try.pinned (OpenSpec.ofChange settlePaymentsSpec)

/-- ITS FALSE NEIGHBOUR: 'it returns false'. Refute it at one input. -/
def settlePaymentsWrong : ChangeSpec := { name := "settlePayments", fn := fun _ => fun
  | [d] => { results := [.lit (.bool false)], args := [d] }
  | _ => none }
def SettlePaymentsWrongFalsely : Prop := settlePaymentsRow.holds Try.pinned (OpenSpec.ofChange settlePaymentsWrong)

/-- 'chargeparklaw42.SettleTwice': WHATEVER THE INPUT: true; the input reads as it did. -/
def settleTwiceSpec : ChangeSpec := { name := "settleTwice", fn := fun _ => fun
  | [d1, d2, d3, d4, d5] => { results := [.lit (.bool true)], args := [d1, d2, d3, d4, d5] }
  | _ => none }
def settleTwiceRow : OpenClaim := { program := "ytflehgdhdfmacaa", sum := "f2294993c1880dfe3ab1d6dae1b2307e19d8843ddb3f1509ee7780bf041bc21e", func := "chargepark/chargeparklaw42.SettleTwice", spec := "settleTwice", unfollowed := true, recurses := true, plainKeys := false, apart := false }
def SettleTwiceSaid : Prop := settleTwiceRow.holds Try.pinned (OpenSpec.ofChange settleTwiceSpec)

/-- ITS FALSE NEIGHBOUR: 'it returns false'. Refute it at one input. -/
def settleTwiceWrong : ChangeSpec := { name := "settleTwice", fn := fun _ => fun
  | [d1, d2, d3, d4, d5] => { results := [.lit (.bool false)], args := [d1, d2, d3, d4, d5] }
  | _ => none }
def SettleTwiceWrongFalsely : Prop := settleTwiceRow.holds Try.pinned (OpenSpec.ofChange settleTwiceWrong)

/-- 'chargeparklaw42.SettleDispute': WHATEVER THE INPUT: true; the input reads as it did. -/
def settleDisputeSpec : ChangeSpec := { name := "settleDispute", fn := fun _ => fun
  | [d1, d2] => { results := [.lit (.bool true)], args := [d1, d2] }
  | _ => none }
def settleDisputeRow : OpenClaim := { program := "ytflehgdhdfmacaa", sum := "f2294993c1880dfe3ab1d6dae1b2307e19d8843ddb3f1509ee7780bf041bc21e", func := "chargepark/chargeparklaw42.SettleDispute", spec := "settleDispute", unfollowed := true, recurses := true, plainKeys := false, apart := false }
def SettleDisputeSaid : Prop := settleDisputeRow.holds Try.pinned (OpenSpec.ofChange settleDisputeSpec)

/-- ITS FALSE NEIGHBOUR: 'it returns false'. Refute it at one input. -/
def settleDisputeWrong : ChangeSpec := { name := "settleDispute", fn := fun _ => fun
  | [d1, d2] => { results := [.lit (.bool false)], args := [d1, d2] }
  | _ => none }
def SettleDisputeWrongFalsely : Prop := settleDisputeRow.holds Try.pinned (OpenSpec.ofChange settleDisputeWrong)

/- THE SECOND FORM. 'bulk': how many values and letters a reading holds, each counted each time it is reached (what is shared counts as often as it is met; a slice's spare places count too). A statement '..UptoSaid' is the law's where the arguments, and the package variables that the reading takes, are together of bulk at most 1048576: NARROWER than '..Said'. Prove '..Said' where nothing that the law and all that it calls make is longer than what came in: it says more and counts as full. Else prove '..UptoSaid'. A law counts once. -/
mutual
def uptoBulk {H : Type} : DataW H → Nat
  | .lit (.string bytes) => bytes.length + 1
  | .lit _ => 1
  | .nil => 1
  | .ptr d => uptoBulk d + 1
  | .slice elems spare => uptoBulkAll elems + uptoBulkAll spare + 1
  | .agg parts => uptoBulkAll parts + 1
  | .iface _ d => uptoBulk d + 1
  | .map entries => uptoBulkEntries entries + 1
  | .held _ => 1
def uptoBulkAll {H : Type} : List (DataW H) → Nat
  | [] => 0
  | d :: r => uptoBulk d + uptoBulkAll r
def uptoBulkEntries {H : Type} : List (Lit × DataW H) → Nat
  | [] => 0
  | x :: r => uptoBulkEntry x + uptoBulkEntries r
def uptoBulkEntry {H : Type} : Lit × DataW H → Nat
  | (.string bytes, d) => bytes.length + uptoBulk d + 1
  | (_, d) => uptoBulk d + 1
 end
def uptoSmall : (H : Type) → List (DataW H) → Bool := fun _ ds => decide (uptoBulkAll ds ≤ 1048576)
def OpenSpec.upto (s : _root_.Go.ChangeSpec) : _root_.Go.OpenSpec := { _root_.Go.OpenSpec.ofChange s with cond := some uptoSmall }

/-- 'chargeparklaw42.SettleMatchesReference', WHERE WHAT IT READS IS OF BULK AT MOST 1048576: true; the input reads as it did. -/
def settleMatchesReferenceUptoRow : OpenClaim := { program := "ytflehgdhdfmacaa", sum := "f2294993c1880dfe3ab1d6dae1b2307e19d8843ddb3f1509ee7780bf041bc21e", func := "chargepark/chargeparklaw42.SettleMatchesReference", spec := "settleMatchesReference", unfollowed := true, recurses := true, plainKeys := false, apart := false, narrowed := true }
def SettleMatchesReferenceUptoSaid : Prop := settleMatchesReferenceUptoRow.holds Try.pinned (OpenSpec.upto settleMatchesReferenceSpec)

/-- 'chargeparklaw42.SettleSums', WHERE WHAT IT READS IS OF BULK AT MOST 1048576: true; the input reads as it did. -/
def settleSumsUptoRow : OpenClaim := { program := "ytflehgdhdfmacaa", sum := "f2294993c1880dfe3ab1d6dae1b2307e19d8843ddb3f1509ee7780bf041bc21e", func := "chargepark/chargeparklaw42.SettleSums", spec := "settleSums", unfollowed := true, recurses := true, plainKeys := false, apart := false, narrowed := true }
def SettleSumsUptoSaid : Prop := settleSumsUptoRow.holds Try.pinned (OpenSpec.upto settleSumsSpec)

/-- 'chargeparklaw42.SettleParts', WHERE WHAT IT READS IS OF BULK AT MOST 1048576: true; the input reads as it did. -/
def settlePartsUptoRow : OpenClaim := { program := "ytflehgdhdfmacaa", sum := "f2294993c1880dfe3ab1d6dae1b2307e19d8843ddb3f1509ee7780bf041bc21e", func := "chargepark/chargeparklaw42.SettleParts", spec := "settleParts", unfollowed := true, recurses := true, plainKeys := false, apart := false, narrowed := true }
def SettlePartsUptoSaid : Prop := settlePartsUptoRow.holds Try.pinned (OpenSpec.upto settlePartsSpec)

/-- 'chargeparklaw42.SettlePayments', WHERE WHAT IT READS IS OF BULK AT MOST 1048576: true; the input reads as it did. -/
def settlePaymentsUptoRow : OpenClaim := { program := "ytflehgdhdfmacaa", sum := "f2294993c1880dfe3ab1d6dae1b2307e19d8843ddb3f1509ee7780bf041bc21e", func := "chargepark/chargeparklaw42.SettlePayments", spec := "settlePayments", unfollowed := true, recurses := true, plainKeys := false, apart := false, narrowed := true }
def SettlePaymentsUptoSaid : Prop := settlePaymentsUptoRow.holds Try.pinned (OpenSpec.upto settlePaymentsSpec)

/-- 'chargeparklaw42.SettleTwice', WHERE WHAT IT READS IS OF BULK AT MOST 1048576: true; the input reads as it did. -/
def settleTwiceUptoRow : OpenClaim := { program := "ytflehgdhdfmacaa", sum := "f2294993c1880dfe3ab1d6dae1b2307e19d8843ddb3f1509ee7780bf041bc21e", func := "chargepark/chargeparklaw42.SettleTwice", spec := "settleTwice", unfollowed := true, recurses := true, plainKeys := false, apart := false, narrowed := true }
def SettleTwiceUptoSaid : Prop := settleTwiceUptoRow.holds Try.pinned (OpenSpec.upto settleTwiceSpec)

/-- 'chargeparklaw42.SettleDispute', WHERE WHAT IT READS IS OF BULK AT MOST 1048576: true; the input reads as it did. -/
def settleDisputeUptoRow : OpenClaim := { program := "ytflehgdhdfmacaa", sum := "f2294993c1880dfe3ab1d6dae1b2307e19d8843ddb3f1509ee7780bf041bc21e", func := "chargepark/chargeparklaw42.SettleDispute", spec := "settleDispute", unfollowed := true, recurses := true, plainKeys := false, apart := false, narrowed := true }
def SettleDisputeUptoSaid : Prop := settleDisputeUptoRow.holds Try.pinned (OpenSpec.upto settleDisputeSpec)

end Rows
end Go.Proofs.Ytflehgdhdfmacaa
