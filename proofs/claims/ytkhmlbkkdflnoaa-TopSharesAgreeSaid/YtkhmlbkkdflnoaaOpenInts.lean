/-
  AN ARGUMENT THAT IS A SLICE OF NUMBERS, opened to its cells: nil, empty or not.
-/
import Derived.Test.YtkhmlbkkdflnoaaRows
import Derived.WalkKit
import Derived.ProofKit
import Derived.OpenShut
import Derived.Lib.SmallJoins
import Derived.Deep.Slices
namespace Go.Proofs.Ytkhmlbkkdflnoaa
open Go.Joins Go.ChangeShapes Go.WideShapes Go.ChangeAt Go.RowKit Go.Deep

/-- the slice at A reads as these n numbers of kind k -/
def RN (k : IntKind) (w : World) (A : Option Addr) (n : Nat) (z : Nat → Int) : Prop := ∀ i, i < n → ∃ b o, A = some ⟨b, o, none⟩ ∧ b < w.heap.size ∧ w.cell? ⟨b, o + i, none⟩ = some (.int k (z i)) ∧ (Lit.int k (z i)).wf = true
theorem addr_plain (b o n : Nat) : (Addr.add ⟨b, o, none⟩ n) = ⟨b, o + n, none⟩ := by unfold Addr.add; split <;> simp_all

section
variable {H : Type} {enc : TypeId × Value → H} {P : Program} {W : World} {base : Nat} {sp : Nat → Bool} {held : Bool}
theorem open_nums {k : IntKind} {t e : TypeId} {r : Reach} {b0 : Nat} {v : Value} {d : DataW H} {p : List MemPlace} (ht : P.underlying t = some (.slice e)) (he : P.underlying e = some (.int k)) (hc : P.cellsOf e = 1)
    (hv : Value.okWide P W r b0 t v) (h : DataW.Trod enc P W base sp held t v d p) :
    ∃ (A : Option Addr) (n c : Nat) (z : Nat → Int), v = .slice A n c ∧ n ≤ c ∧ c ≤ 9223372036854775807 ∧ (A = none → n = 0 ∧ c = 0) ∧ RN k W A n z := by
  obtain ⟨a0, len, cap, rfl⟩ := okWide_slice ht hv
  obtain ⟨fuel, hf⟩ := h
  rcases open_ints ht he hc hf with ⟨hcs, _⟩ | ⟨a, len', cap', zs, hcs, hb, hl, hm, hlen, _, hi, hwf⟩
  · simp [Value.cells] at hcs
    obtain ⟨rfl, rfl, rfl⟩ := hcs
    exact ⟨none, 0, 0, fun _ => 0, rfl, by omega, by omega, fun _ => ⟨rfl, rfl⟩, fun i hi => absurd hi (by omega)⟩
  · simp [Value.cells] at hcs
    obtain ⟨rfl, rfl, rfl⟩ := hcs
    have hle : len ≤ zs.length := by rw [hlen]; split <;> omega
    refine ⟨some a, len, cap, fun i => zs.getD i 0, rfl, hl, by unfold maxLen at hm; omega, fun e => (by cases e), fun i h' => ?_⟩
    have hci := hi i (by omega)
    obtain ⟨b, o, spot⟩ := a
    have hspot : spot = none := by
      have := World.cell?_spot (hi 0 (by omega))
      simpa [Addr.add] using this
    subst hspot
    rw [addr_plain] at hci
    refine ⟨b, o, rfl, World.block_lt_of_cell? W ⟨b, o + i, none⟩ hci, hci, hwf _ ?_⟩
    have hz : i < zs.length := by omega
    show zs.getD i 0 ∈ zs
    rw [List.getD_eq_getElem?_getD, List.getElem?_eq_getElem hz]
    exact List.getElem_mem hz
end
end Go.Proofs.Ytkhmlbkkdflnoaa
