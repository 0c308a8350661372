/-
  No cell of these rows narrows 'for every input' (looked for: loops, veiled, ifaces, maps, wideKeys, modest, calm, conditions, laid).
  DERIVED. THE GIVEN ROWS OF THIS SEAT. 6 by the template 'for every input the law returns true; each argument reads behind the call as it read before'; 0 by the template 'total and deterministic' (their statements: YtkmjflkodckflaaTotals.lean).
  GIVEN WITH THE SEED: the statements are not yours to turn. If you find one false, say at which input.
  Laid BY PROGRAM, IN A SANDBOX (cutbox-rows.mjs): the forced cells as the released guide's own fill.sh prints them over the translation ad5c30e141db4844… (all of the seat's roots in one cut). By AI agents, Wed Nov 11 2026. No macro, syntax, notation, axiom, sorry.
-/
import Derived.Test.YtkmjflkodckflaaChecked
import GoSem.Claim
import GoSem.ClaimJoined
import GoSem.ClaimMapViews
import Derived.JoinedTies
import Derived.KernelRfl
namespace Go.Proofs.Ytkmjflkodckflaa
/- THE CELL 'sum', in the pinned program and in every row, IS THE sha256 OF THE DUMP (.gsa) THAT YtkmjflkodckflaaProg.lean LOADS. Nothing in Lean hashes anything: it is a label: what it is worth is what the hold of that sum in a sandbox is worth. -/
noncomputable def Try.pinned : Pinned := { name := "ytkmjflkodckflaa", sum := "ad5c30e141db4844134c0518ec355f0543c03020b186323b82938b4f9386ca66", checked := Try.checked }
namespace Rows
def none {H : Type} : Left H := { results := [], args := [] }

/-- 'chargeparklaw01.LexerMatchesReference': WHATEVER THE INPUT: true; the input reads as it did. -/
def lexerMatchesReferenceSpec : ChangeSpec := { name := "lexerMatchesReference", fn := fun _ => fun
  | [d] => { results := [.lit (.bool true)], args := [d] }
  | _ => none }
def lexerMatchesReferenceRow : OpenClaim := { program := "ytkmjflkodckflaa", sum := "ad5c30e141db4844134c0518ec355f0543c03020b186323b82938b4f9386ca66", func := "chargepark/chargeparklaw01.LexerMatchesReference", spec := "lexerMatchesReference", unfollowed := true, recurses := true, apart := false }
def LexerMatchesReferenceSaid : Prop := lexerMatchesReferenceRow.holds Try.pinned (OpenSpec.ofChange lexerMatchesReferenceSpec)

/-- ITS FALSE NEIGHBOUR: 'it returns false'. Refute it at one input. -/
def lexerMatchesReferenceWrong : ChangeSpec := { name := "lexerMatchesReference", fn := fun _ => fun
  | [d] => { results := [.lit (.bool false)], args := [d] }
  | _ => none }
def LexerMatchesReferenceWrongFalsely : Prop := lexerMatchesReferenceRow.holds Try.pinned (OpenSpec.ofChange lexerMatchesReferenceWrong)

/-- 'chargeparklaw01.LexerCovers': WHATEVER THE INPUT: true; the input reads as it did. -/
def lexerCoversSpec : ChangeSpec := { name := "lexerCovers", fn := fun _ => fun
  | [d] => { results := [.lit (.bool true)], args := [d] }
  | _ => none }
def lexerCoversRow : OpenClaim := { program := "ytkmjflkodckflaa", sum := "ad5c30e141db4844134c0518ec355f0543c03020b186323b82938b4f9386ca66", func := "chargepark/chargeparklaw01.LexerCovers", spec := "lexerCovers", unfollowed := true, recurses := true, apart := false }
def LexerCoversSaid : Prop := lexerCoversRow.holds Try.pinned (OpenSpec.ofChange lexerCoversSpec)

/-- ITS FALSE NEIGHBOUR: 'it returns false'. Refute it at one input. -/
def lexerCoversWrong : ChangeSpec := { name := "lexerCovers", fn := fun _ => fun
  | [d] => { results := [.lit (.bool false)], args := [d] }
  | _ => none }
def LexerCoversWrongFalsely : Prop := lexerCoversRow.holds Try.pinned (OpenSpec.ofChange lexerCoversWrong)

/-- 'chargeparklaw01.LexerGaps': WHATEVER THE INPUT: true; the input reads as it did. -/
def lexerGapsSpec : ChangeSpec := { name := "lexerGaps", fn := fun _ => fun
  | [d1, d2, d3] => { results := [.lit (.bool true)], args := [d1, d2, d3] }
  | _ => none }
def lexerGapsRow : OpenClaim := { program := "ytkmjflkodckflaa", sum := "ad5c30e141db4844134c0518ec355f0543c03020b186323b82938b4f9386ca66", func := "chargepark/chargeparklaw01.LexerGaps", spec := "lexerGaps", unfollowed := true, recurses := true, apart := false }
def LexerGapsSaid : Prop := lexerGapsRow.holds Try.pinned (OpenSpec.ofChange lexerGapsSpec)

/-- ITS FALSE NEIGHBOUR: 'it returns false'. Refute it at one input. -/
def lexerGapsWrong : ChangeSpec := { name := "lexerGaps", fn := fun _ => fun
  | [d1, d2, d3] => { results := [.lit (.bool false)], args := [d1, d2, d3] }
  | _ => none }
def LexerGapsWrongFalsely : Prop := lexerGapsRow.holds Try.pinned (OpenSpec.ofChange lexerGapsWrong)

/-- 'chargeparklaw01.LexerJoins': WHATEVER THE INPUT: true; the input reads as it did. -/
def lexerJoinsSpec : ChangeSpec := { name := "lexerJoins", fn := fun _ => fun
  | [d1, d2] => { results := [.lit (.bool true)], args := [d1, d2] }
  | _ => none }
def lexerJoinsRow : OpenClaim := { program := "ytkmjflkodckflaa", sum := "ad5c30e141db4844134c0518ec355f0543c03020b186323b82938b4f9386ca66", func := "chargepark/chargeparklaw01.LexerJoins", spec := "lexerJoins", unfollowed := true, recurses := true, apart := false }
def LexerJoinsSaid : Prop := lexerJoinsRow.holds Try.pinned (OpenSpec.ofChange lexerJoinsSpec)

/-- ITS FALSE NEIGHBOUR: 'it returns false'. Refute it at one input. -/
def lexerJoinsWrong : ChangeSpec := { name := "lexerJoins", fn := fun _ => fun
  | [d1, d2] => { results := [.lit (.bool false)], args := [d1, d2] }
  | _ => none }
def LexerJoinsWrongFalsely : Prop := lexerJoinsRow.holds Try.pinned (OpenSpec.ofChange lexerJoinsWrong)

/-- 'chargeparklaw01.LexerWrites': WHATEVER THE INPUT: true; the input reads as it did. -/
def lexerWritesSpec : ChangeSpec := { name := "lexerWrites", fn := fun _ => fun
  | [d] => { results := [.lit (.bool true)], args := [d] }
  | _ => none }
def lexerWritesRow : OpenClaim := { program := "ytkmjflkodckflaa", sum := "ad5c30e141db4844134c0518ec355f0543c03020b186323b82938b4f9386ca66", func := "chargepark/chargeparklaw01.LexerWrites", spec := "lexerWrites", unfollowed := true, recurses := true, apart := false }
def LexerWritesSaid : Prop := lexerWritesRow.holds Try.pinned (OpenSpec.ofChange lexerWritesSpec)

/-- ITS FALSE NEIGHBOUR: 'it returns false'. Refute it at one input. -/
def lexerWritesWrong : ChangeSpec := { name := "lexerWrites", fn := fun _ => fun
  | [d] => { results := [.lit (.bool false)], args := [d] }
  | _ => none }
def LexerWritesWrongFalsely : Prop := lexerWritesRow.holds Try.pinned (OpenSpec.ofChange lexerWritesWrong)

/-- 'chargeparklaw01.LexerErrors': WHATEVER THE INPUT: true; the input reads as it did. -/
def lexerErrorsSpec : ChangeSpec := { name := "lexerErrors", fn := fun _ => fun
  | [d1, d2] => { results := [.lit (.bool true)], args := [d1, d2] }
  | _ => none }
def lexerErrorsRow : OpenClaim := { program := "ytkmjflkodckflaa", sum := "ad5c30e141db4844134c0518ec355f0543c03020b186323b82938b4f9386ca66", func := "chargepark/chargeparklaw01.LexerErrors", spec := "lexerErrors", unfollowed := true, recurses := true, apart := false }
def LexerErrorsSaid : Prop := lexerErrorsRow.holds Try.pinned (OpenSpec.ofChange lexerErrorsSpec)

/-- ITS FALSE NEIGHBOUR: 'it returns false'. Refute it at one input. -/
def lexerErrorsWrong : ChangeSpec := { name := "lexerErrors", fn := fun _ => fun
  | [d1, d2] => { results := [.lit (.bool false)], args := [d1, d2] }
  | _ => none }
def LexerErrorsWrongFalsely : Prop := lexerErrorsRow.holds Try.pinned (OpenSpec.ofChange lexerErrorsWrong)

/- THE SECOND FORM. 'bulk': how many values and letters a reading holds, each counted each time it is reached (what is shared counts as often as it is met; a slice's spare places count too). A statement '..UptoSaid' is the law's where the arguments, and the package variables that the reading takes, are together of bulk at most 1048576: NARROWER than '..Said'. Prove '..Said' where nothing that the law and all that it calls make is longer than what came in: it says more and counts as full. Else prove '..UptoSaid'. A law counts once. -/
mutual
def uptoBulk {H : Type} : DataW H → Nat
  | .lit (.string bytes) => bytes.length + 1
  | .lit _ => 1
  | .nil => 1
  | .ptr d => uptoBulk d + 1
  | .slice elems spare => uptoBulkAll elems + uptoBulkAll spare + 1
  | .agg parts => uptoBulkAll parts + 1
  | .iface _ d => uptoBulk d + 1
  | .map entries => uptoBulkEntries entries + 1
  | .held _ => 1
def uptoBulkAll {H : Type} : List (DataW H) → Nat
  | [] => 0
  | d :: r => uptoBulk d + uptoBulkAll r
def uptoBulkEntries {H : Type} : List (Lit × DataW H) → Nat
  | [] => 0
  | x :: r => uptoBulkEntry x + uptoBulkEntries r
def uptoBulkEntry {H : Type} : Lit × DataW H → Nat
  | (.string bytes, d) => bytes.length + uptoBulk d + 1
  | (_, d) => uptoBulk d + 1
 end
def uptoSmall : (H : Type) → List (DataW H) → Bool := fun _ ds => decide (uptoBulkAll ds ≤ 1048576)
def OpenSpec.upto (s : _root_.Go.ChangeSpec) : _root_.Go.OpenSpec := { _root_.Go.OpenSpec.ofChange s with cond := some uptoSmall }

/-- 'chargeparklaw01.LexerMatchesReference', WHERE WHAT IT READS IS OF BULK AT MOST 1048576: true; the input reads as it did. -/
def lexerMatchesReferenceUptoRow : OpenClaim := { program := "ytkmjflkodckflaa", sum := "ad5c30e141db4844134c0518ec355f0543c03020b186323b82938b4f9386ca66", func := "chargepark/chargeparklaw01.LexerMatchesReference", spec := "lexerMatchesReference", unfollowed := true, recurses := true, apart := false, narrowed := true }
def LexerMatchesReferenceUptoSaid : Prop := lexerMatchesReferenceUptoRow.holds Try.pinned (OpenSpec.upto lexerMatchesReferenceSpec)

/-- 'chargeparklaw01.LexerCovers', WHERE WHAT IT READS IS OF BULK AT MOST 1048576: true; the input reads as it did. -/
def lexerCoversUptoRow : OpenClaim := { program := "ytkmjflkodckflaa", sum := "ad5c30e141db4844134c0518ec355f0543c03020b186323b82938b4f9386ca66", func := "chargepark/chargeparklaw01.LexerCovers", spec := "lexerCovers", unfollowed := true, recurses := true, apart := false, narrowed := true }
def LexerCoversUptoSaid : Prop := lexerCoversUptoRow.holds Try.pinned (OpenSpec.upto lexerCoversSpec)

/-- 'chargeparklaw01.LexerGaps', WHERE WHAT IT READS IS OF BULK AT MOST 1048576: true; the input reads as it did. -/
def lexerGapsUptoRow : OpenClaim := { program := "ytkmjflkodckflaa", sum := "ad5c30e141db4844134c0518ec355f0543c03020b186323b82938b4f9386ca66", func := "chargepark/chargeparklaw01.LexerGaps", spec := "lexerGaps", unfollowed := true, recurses := true, apart := false, narrowed := true }
def LexerGapsUptoSaid : Prop := lexerGapsUptoRow.holds Try.pinned (OpenSpec.upto lexerGapsSpec)

/-- 'chargeparklaw01.LexerJoins', WHERE WHAT IT READS IS OF BULK AT MOST 1048576: true; the input reads as it did. -/
def lexerJoinsUptoRow : OpenClaim := { program := "ytkmjflkodckflaa", sum := "ad5c30e141db4844134c0518ec355f0543c03020b186323b82938b4f9386ca66", func := "chargepark/chargeparklaw01.LexerJoins", spec := "lexerJoins", unfollowed := true, recurses := true, apart := false, narrowed := true }
def LexerJoinsUptoSaid : Prop := lexerJoinsUptoRow.holds Try.pinned (OpenSpec.upto lexerJoinsSpec)

/-- 'chargeparklaw01.LexerWrites', WHERE WHAT IT READS IS OF BULK AT MOST 1048576: true; the input reads as it did. -/
def lexerWritesUptoRow : OpenClaim := { program := "ytkmjflkodckflaa", sum := "ad5c30e141db4844134c0518ec355f0543c03020b186323b82938b4f9386ca66", func := "chargepark/chargeparklaw01.LexerWrites", spec := "lexerWrites", unfollowed := true, recurses := true, apart := false, narrowed := true }
def LexerWritesUptoSaid : Prop := lexerWritesUptoRow.holds Try.pinned (OpenSpec.upto lexerWritesSpec)

/-- 'chargeparklaw01.LexerErrors', WHERE WHAT IT READS IS OF BULK AT MOST 1048576: true; the input reads as it did. -/
def lexerErrorsUptoRow : OpenClaim := { program := "ytkmjflkodckflaa", sum := "ad5c30e141db4844134c0518ec355f0543c03020b186323b82938b4f9386ca66", func := "chargepark/chargeparklaw01.LexerErrors", spec := "lexerErrors", unfollowed := true, recurses := true, apart := false, narrowed := true }
def LexerErrorsUptoSaid : Prop := lexerErrorsUptoRow.holds Try.pinned (OpenSpec.upto lexerErrorsSpec)

end Rows
end Go.Proofs.Ytkmjflkodckflaa
