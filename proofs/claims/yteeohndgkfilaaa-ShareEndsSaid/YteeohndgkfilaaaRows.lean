/-
  No cell of these rows narrows 'for every input' (looked for: loops, veiled, ifaces, maps, wideKeys, modest, calm, conditions, laid).
  DERIVED. THE GIVEN ROWS OF THIS SEAT. 6 by the template 'for every input the law returns true; each argument reads behind the call as it read before'; 0 by the template 'total and deterministic' (their statements: YteeohndgkfilaaaTotals.lean).
  GIVEN WITH THE SEED: the statements are not yours to turn. If you find one false, say at which input.
  Laid BY PROGRAM, IN A SANDBOX (cutbox-rows.mjs): the forced cells as the released guide's own fill.sh prints them over the translation 949307501d6dd60d… (all of the seat's roots in one cut). By AI agents, Wed Nov 11 2026. No macro, syntax, notation, axiom, sorry.
-/
import Derived.Test.YteeohndgkfilaaaChecked
import GoSem.Claim
import GoSem.ClaimJoined
import GoSem.ClaimMapViews
import Derived.JoinedTies
import Derived.KernelRfl
namespace Go.Proofs.Yteeohndgkfilaaa
/- THE CELL 'sum', in the pinned program and in every row, IS THE sha256 OF THE DUMP (.gsa) THAT YteeohndgkfilaaaProg.lean LOADS. Nothing in Lean hashes anything: it is a label: what it is worth is what the hold of that sum in a sandbox is worth. -/
noncomputable def Try.pinned : Pinned := { name := "yteeohndgkfilaaa", sum := "949307501d6dd60d93c47ed4aa5f90eb10db9f452daf0b67529540d77a450c50", checked := Try.checked }
namespace Rows
def none {H : Type} : Left H := { results := [], args := [] }

/-- 'chargeparklaw20.ShareMatchesReference': WHATEVER THE INPUT: true; the input reads as it did. -/
def shareMatchesReferenceSpec : ChangeSpec := { name := "shareMatchesReference", fn := fun _ => fun
  | [d1, d2, d3, d4] => { results := [.lit (.bool true)], args := [d1, d2, d3, d4] }
  | _ => none }
def shareMatchesReferenceRow : OpenClaim := { program := "yteeohndgkfilaaa", sum := "949307501d6dd60d93c47ed4aa5f90eb10db9f452daf0b67529540d77a450c50", func := "chargepark/chargeparklaw20.ShareMatchesReference", spec := "shareMatchesReference", unfollowed := true, recurses := true, apart := false }
def ShareMatchesReferenceSaid : Prop := shareMatchesReferenceRow.holds Try.pinned (OpenSpec.ofChange shareMatchesReferenceSpec)

/-- ITS FALSE NEIGHBOUR: 'it returns false'. Refute it at one input. -/
def shareMatchesReferenceWrong : ChangeSpec := { name := "shareMatchesReference", fn := fun _ => fun
  | [d1, d2, d3, d4] => { results := [.lit (.bool false)], args := [d1, d2, d3, d4] }
  | _ => none }
def ShareMatchesReferenceWrongFalsely : Prop := shareMatchesReferenceRow.holds Try.pinned (OpenSpec.ofChange shareMatchesReferenceWrong)

/-- 'chargeparklaw20.ShareConstant': WHATEVER THE INPUT: true; the input reads as it did. -/
def shareConstantSpec : ChangeSpec := { name := "shareConstant", fn := fun _ => fun
  | [d1, d2, d3] => { results := [.lit (.bool true)], args := [d1, d2, d3] }
  | _ => none }
def shareConstantRow : OpenClaim := { program := "yteeohndgkfilaaa", sum := "949307501d6dd60d93c47ed4aa5f90eb10db9f452daf0b67529540d77a450c50", func := "chargepark/chargeparklaw20.ShareConstant", spec := "shareConstant", unfollowed := true, recurses := true, apart := false }
def ShareConstantSaid : Prop := shareConstantRow.holds Try.pinned (OpenSpec.ofChange shareConstantSpec)

/-- ITS FALSE NEIGHBOUR: 'it returns false'. Refute it at one input. -/
def shareConstantWrong : ChangeSpec := { name := "shareConstant", fn := fun _ => fun
  | [d1, d2, d3] => { results := [.lit (.bool false)], args := [d1, d2, d3] }
  | _ => none }
def ShareConstantWrongFalsely : Prop := shareConstantRow.holds Try.pinned (OpenSpec.ofChange shareConstantWrong)

/-- 'chargeparklaw20.ShareOnce': WHATEVER THE INPUT: true; the input reads as it did. -/
def shareOnceSpec : ChangeSpec := { name := "shareOnce", fn := fun _ => fun
  | [d1, d2, d3, d4, d5] => { results := [.lit (.bool true)], args := [d1, d2, d3, d4, d5] }
  | _ => none }
def shareOnceRow : OpenClaim := { program := "yteeohndgkfilaaa", sum := "949307501d6dd60d93c47ed4aa5f90eb10db9f452daf0b67529540d77a450c50", func := "chargepark/chargeparklaw20.ShareOnce", spec := "shareOnce", unfollowed := true, recurses := true, apart := false }
def ShareOnceSaid : Prop := shareOnceRow.holds Try.pinned (OpenSpec.ofChange shareOnceSpec)

/-- ITS FALSE NEIGHBOUR: 'it returns false'. Refute it at one input. -/
def shareOnceWrong : ChangeSpec := { name := "shareOnce", fn := fun _ => fun
  | [d1, d2, d3, d4, d5] => { results := [.lit (.bool false)], args := [d1, d2, d3, d4, d5] }
  | _ => none }
def ShareOnceWrongFalsely : Prop := shareOnceRow.holds Try.pinned (OpenSpec.ofChange shareOnceWrong)

/-- 'chargeparklaw20.ShareOrder': WHATEVER THE INPUT: true; the input reads as it did. -/
def shareOrderSpec : ChangeSpec := { name := "shareOrder", fn := fun _ => fun
  | [d1, d2, d3, d4] => { results := [.lit (.bool true)], args := [d1, d2, d3, d4] }
  | _ => none }
def shareOrderRow : OpenClaim := { program := "yteeohndgkfilaaa", sum := "949307501d6dd60d93c47ed4aa5f90eb10db9f452daf0b67529540d77a450c50", func := "chargepark/chargeparklaw20.ShareOrder", spec := "shareOrder", unfollowed := true, recurses := true, apart := false }
def ShareOrderSaid : Prop := shareOrderRow.holds Try.pinned (OpenSpec.ofChange shareOrderSpec)

/-- ITS FALSE NEIGHBOUR: 'it returns false'. Refute it at one input. -/
def shareOrderWrong : ChangeSpec := { name := "shareOrder", fn := fun _ => fun
  | [d1, d2, d3, d4] => { results := [.lit (.bool false)], args := [d1, d2, d3, d4] }
  | _ => none }
def ShareOrderWrongFalsely : Prop := shareOrderRow.holds Try.pinned (OpenSpec.ofChange shareOrderWrong)

/-- 'chargeparklaw20.ShareEnds': WHATEVER THE INPUT: true; the input reads as it did. -/
def shareEndsSpec : ChangeSpec := { name := "shareEnds", fn := fun _ => fun
  | [d1, d2, d3] => { results := [.lit (.bool true)], args := [d1, d2, d3] }
  | _ => none }
def shareEndsRow : OpenClaim := { program := "yteeohndgkfilaaa", sum := "949307501d6dd60d93c47ed4aa5f90eb10db9f452daf0b67529540d77a450c50", func := "chargepark/chargeparklaw20.ShareEnds", spec := "shareEnds", unfollowed := true, recurses := true, apart := false }
def ShareEndsSaid : Prop := shareEndsRow.holds Try.pinned (OpenSpec.ofChange shareEndsSpec)

/-- ITS FALSE NEIGHBOUR: 'it returns false'. Refute it at one input. -/
def shareEndsWrong : ChangeSpec := { name := "shareEnds", fn := fun _ => fun
  | [d1, d2, d3] => { results := [.lit (.bool false)], args := [d1, d2, d3] }
  | _ => none }
def ShareEndsWrongFalsely : Prop := shareEndsRow.holds Try.pinned (OpenSpec.ofChange shareEndsWrong)

/-- 'chargeparklaw20.ShareAcked': WHATEVER THE INPUT: true; the input reads as it did. -/
def shareAckedSpec : ChangeSpec := { name := "shareAcked", fn := fun _ => fun
  | [d1, d2] => { results := [.lit (.bool true)], args := [d1, d2] }
  | _ => none }
def shareAckedRow : OpenClaim := { program := "yteeohndgkfilaaa", sum := "949307501d6dd60d93c47ed4aa5f90eb10db9f452daf0b67529540d77a450c50", func := "chargepark/chargeparklaw20.ShareAcked", spec := "shareAcked", unfollowed := true, recurses := true, apart := false }
def ShareAckedSaid : Prop := shareAckedRow.holds Try.pinned (OpenSpec.ofChange shareAckedSpec)

/-- ITS FALSE NEIGHBOUR: 'it returns false'. Refute it at one input. -/
def shareAckedWrong : ChangeSpec := { name := "shareAcked", fn := fun _ => fun
  | [d1, d2] => { results := [.lit (.bool false)], args := [d1, d2] }
  | _ => none }
def ShareAckedWrongFalsely : Prop := shareAckedRow.holds Try.pinned (OpenSpec.ofChange shareAckedWrong)

/- THE SECOND FORM. 'bulk': how many values and letters a reading holds, each counted each time it is reached (what is shared counts as often as it is met; a slice's spare places count too). A statement '..UptoSaid' is the law's where the arguments, and the package variables that the reading takes, are together of bulk at most 1048576: NARROWER than '..Said'. Prove '..Said' where nothing that the law and all that it calls make is longer than what came in: it says more and counts as full. Else prove '..UptoSaid'. A law counts once. -/
mutual
def uptoBulk {H : Type} : DataW H → Nat
  | .lit (.string bytes) => bytes.length + 1
  | .lit _ => 1
  | .nil => 1
  | .ptr d => uptoBulk d + 1
  | .slice elems spare => uptoBulkAll elems + uptoBulkAll spare + 1
  | .agg parts => uptoBulkAll parts + 1
  | .iface _ d => uptoBulk d + 1
  | .map entries => uptoBulkEntries entries + 1
  | .held _ => 1
def uptoBulkAll {H : Type} : List (DataW H) → Nat
  | [] => 0
  | d :: r => uptoBulk d + uptoBulkAll r
def uptoBulkEntries {H : Type} : List (Lit × DataW H) → Nat
  | [] => 0
  | x :: r => uptoBulkEntry x + uptoBulkEntries r
def uptoBulkEntry {H : Type} : Lit × DataW H → Nat
  | (.string bytes, d) => bytes.length + uptoBulk d + 1
  | (_, d) => uptoBulk d + 1
 end
def uptoSmall : (H : Type) → List (DataW H) → Bool := fun _ ds => decide (uptoBulkAll ds ≤ 1048576)
def OpenSpec.upto (s : _root_.Go.ChangeSpec) : _root_.Go.OpenSpec := { _root_.Go.OpenSpec.ofChange s with cond := some uptoSmall }

/-- 'chargeparklaw20.ShareMatchesReference', WHERE WHAT IT READS IS OF BULK AT MOST 1048576: true; the input reads as it did. -/
def shareMatchesReferenceUptoRow : OpenClaim := { program := "yteeohndgkfilaaa", sum := "949307501d6dd60d93c47ed4aa5f90eb10db9f452daf0b67529540d77a450c50", func := "chargepark/chargeparklaw20.ShareMatchesReference", spec := "shareMatchesReference", unfollowed := true, recurses := true, apart := false, narrowed := true }
def ShareMatchesReferenceUptoSaid : Prop := shareMatchesReferenceUptoRow.holds Try.pinned (OpenSpec.upto shareMatchesReferenceSpec)

/-- 'chargeparklaw20.ShareConstant', WHERE WHAT IT READS IS OF BULK AT MOST 1048576: true; the input reads as it did. -/
def shareConstantUptoRow : OpenClaim := { program := "yteeohndgkfilaaa", sum := "949307501d6dd60d93c47ed4aa5f90eb10db9f452daf0b67529540d77a450c50", func := "chargepark/chargeparklaw20.ShareConstant", spec := "shareConstant", unfollowed := true, recurses := true, apart := false, narrowed := true }
def ShareConstantUptoSaid : Prop := shareConstantUptoRow.holds Try.pinned (OpenSpec.upto shareConstantSpec)

/-- 'chargeparklaw20.ShareOnce', WHERE WHAT IT READS IS OF BULK AT MOST 1048576: true; the input reads as it did. -/
def shareOnceUptoRow : OpenClaim := { program := "yteeohndgkfilaaa", sum := "949307501d6dd60d93c47ed4aa5f90eb10db9f452daf0b67529540d77a450c50", func := "chargepark/chargeparklaw20.ShareOnce", spec := "shareOnce", unfollowed := true, recurses := true, apart := false, narrowed := true }
def ShareOnceUptoSaid : Prop := shareOnceUptoRow.holds Try.pinned (OpenSpec.upto shareOnceSpec)

/-- 'chargeparklaw20.ShareOrder', WHERE WHAT IT READS IS OF BULK AT MOST 1048576: true; the input reads as it did. -/
def shareOrderUptoRow : OpenClaim := { program := "yteeohndgkfilaaa", sum := "949307501d6dd60d93c47ed4aa5f90eb10db9f452daf0b67529540d77a450c50", func := "chargepark/chargeparklaw20.ShareOrder", spec := "shareOrder", unfollowed := true, recurses := true, apart := false, narrowed := true }
def ShareOrderUptoSaid : Prop := shareOrderUptoRow.holds Try.pinned (OpenSpec.upto shareOrderSpec)

/-- 'chargeparklaw20.ShareEnds', WHERE WHAT IT READS IS OF BULK AT MOST 1048576: true; the input reads as it did. -/
def shareEndsUptoRow : OpenClaim := { program := "yteeohndgkfilaaa", sum := "949307501d6dd60d93c47ed4aa5f90eb10db9f452daf0b67529540d77a450c50", func := "chargepark/chargeparklaw20.ShareEnds", spec := "shareEnds", unfollowed := true, recurses := true, apart := false, narrowed := true }
def ShareEndsUptoSaid : Prop := shareEndsUptoRow.holds Try.pinned (OpenSpec.upto shareEndsSpec)

/-- 'chargeparklaw20.ShareAcked', WHERE WHAT IT READS IS OF BULK AT MOST 1048576: true; the input reads as it did. -/
def shareAckedUptoRow : OpenClaim := { program := "yteeohndgkfilaaa", sum := "949307501d6dd60d93c47ed4aa5f90eb10db9f452daf0b67529540d77a450c50", func := "chargepark/chargeparklaw20.ShareAcked", spec := "shareAcked", unfollowed := true, recurses := true, apart := false, narrowed := true }
def ShareAckedUptoSaid : Prop := shareAckedUptoRow.holds Try.pinned (OpenSpec.upto shareAckedSpec)

end Rows
end Go.Proofs.Yteeohndgkfilaaa
