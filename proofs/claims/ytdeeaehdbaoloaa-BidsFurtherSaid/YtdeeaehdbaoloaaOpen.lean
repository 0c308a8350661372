/-
  ARGUMENTS OPENED: rows of numbers, truths.
-/
import Derived.Test.YtdeeaehdbaoloaaMem
import Derived.Test.YtdeeaehdbaoloaaPost
import Derived.Lib.SmallJoins
import Derived.Deep.Slices
namespace Go.Proofs.Ytdeeaehdbaoloaa
open Go.Joins Go.ChangeShapes Go.WideShapes Go.ChangeAt Go.RowKit Go.Deep

theorem cellsInt : Try.prog.cellsOf 3 = 1 := by kernel_rfl
theorem cellsBool : Try.prog.cellsOf 4 = 1 := by kernel_rfl
theorem cellsRow : Try.prog.cellsOf 33 = 1 := by kernel_rfl
theorem addr_plain (b o n : Nat) : (Addr.add ⟨b, o, none⟩ n) = ⟨b, o + n, none⟩ := by unfold Addr.add; split <;> simp_all
section
variable {H : Type} {enc : TypeId × Value → H} {W : World} {base : Nat} {sp : Nat → Bool} {held : Bool}
theorem spot_none {a : Addr} {v : Value} (h : W.cell? (a.add 0) = some v) : ∃ b o, a = ⟨b, o, none⟩ := by
  obtain ⟨b, o, s⟩ := a
  have := World.cell?_spot h
  refine ⟨b, o, ?_⟩
  simpa [Addr.add] using this
theorem row_open {fuel : Nat} {cs : List Value} {x : DataW H × List MemPlace} (h : DataW.trod enc Try.prog W base sp held fuel 33 cs = some x) :
    ∃ (A : Option Addr) (n c : Nat) (z : Nat → Int), cs = [.slice A n c] ∧ (n ≤ c ∧ c ≤ 9223372036854775807) ∧ (A = none → c = 0) ∧ RZ W A n z := by
  rcases open_ints Try.underlying33 Try.underlying3 cellsInt h with ⟨hcs, _⟩ | ⟨a, len, cap, zs, hcs, hb, hl, hm, hlen, _, hi, _⟩
  · exact ⟨none, 0, 0, fun _ => 0, hcs, by omega, fun _ => rfl, fun i hi => absurd hi (by omega)⟩
  · have hle : len ≤ zs.length := by rw [hlen]; split <;> omega
    refine ⟨some a, len, cap, fun i => zs.getD i 0, hcs, ⟨hl, by unfold maxLen at hm; omega⟩, fun e => (by cases e), fun i h' => ?_⟩
    obtain ⟨b, o, rfl⟩ := spot_none (hi 0 (by omega))
    have hci := hi i (by omega)
    rw [addr_plain] at hci
    exact ⟨b, o, rfl, World.block_lt_of_cell? W ⟨b, o + i, none⟩ hci, hci⟩
theorem skol {α : Type} [Inhabited α] {P : Nat → α → Prop} {n : Nat} (h : ∀ i, i < n → ∃ x, P i x) : ∃ f : Nat → α, ∀ i, i < n → P i (f i) := by
  classical
  refine ⟨fun i => if h' : i < n then Classical.choose (h i h') else default, fun i h' => ?_⟩
  simp only [dif_pos h']
  exact Classical.choose_spec (h i h')

theorem open_rows {r : Reach} {b0 : Nat} {v : Value} {d : DataW H} {p : List MemPlace} (hv : Value.okWide Try.prog W r b0 22 v) (h : DataW.Trod enc Try.prog W base sp held 22 v d p) :
    ∃ (A : Option Addr) (n c : Nat) (L : Nat → Nat) (z : Nat → Nat → Int), v = .slice A n c ∧ n ≤ c ∧ c ≤ 9223372036854775807 ∧ RM W A n L z := by
  obtain ⟨a0, len, cap, rfl⟩ := okWide_slice Try.underlying22 hv
  obtain ⟨fuel, hf⟩ := h
  rcases open_slice1 Try.underlying22 cellsRow hf with ⟨hcs, _⟩ | ⟨a, len', cap', m, n, V, D, Pl, hcs, hb, hl, hm, hmm, _, hi⟩
  · simp [Value.cells] at hcs
    obtain ⟨rfl, rfl, rfl⟩ := hcs
    exact ⟨none, 0, 0, fun _ => 0, fun _ _ => 0, rfl, by omega, by omega, fun i hi => absurd hi (by omega)⟩
  · simp [Value.cells] at hcs
    obtain ⟨rfl, rfl, rfl⟩ := hcs
    have hle : len ≤ m := by rw [hmm]; split <;> omega
    have hall : ∀ i, i < len → ∃ x : Nat × (Nat → Int), ∃ b o R C, some a = some ⟨b, o, none⟩ ∧ b < W.heap.size ∧ W.cell? ⟨b, o + i, none⟩ = some (.slice R x.1 C) ∧ (x.1 ≤ C ∧ C ≤ 9223372036854775807) ∧ (R = none → C = 0) ∧ RZ W R x.1 x.2 := by
      intro i h'
      obtain ⟨b, o, rfl⟩ := spot_none (hi 0 (by omega)).1
      obtain ⟨hc, ht⟩ := hi i (by omega)
      rw [addr_plain] at hc
      obtain ⟨A', n', c', z', e', h1, h2, h3⟩ := row_open ht
      have e2 : V i = .slice A' n' c' := by simpa using e'
      rw [e2] at hc
      exact ⟨(n', z'), b, o, A', c', rfl, World.block_lt_of_cell? W ⟨b, o + i, none⟩ hc, hc, h1, h2, h3⟩
    obtain ⟨f, hfs⟩ := skol hall
    exact ⟨some a, len, cap, fun i => (f i).1, fun i => (f i).2, rfl, hl, by unfold maxLen at hm; omega, fun i h' => hfs i h'⟩

theorem open_bools {r : Reach} {b0 : Nat} {v : Value} {d : DataW H} {p : List MemPlace} (hv : Value.okWide Try.prog W r b0 23 v) (h : DataW.Trod enc Try.prog W base sp held 23 v d p) :
    ∃ (A : Option Addr) (n c : Nat) (q : Nat → Bool), v = .slice A n c ∧ n ≤ c ∧ c ≤ 9223372036854775807 ∧ RP W A n q := by
  obtain ⟨a0, len, cap, rfl⟩ := okWide_slice Try.underlying23 hv
  obtain ⟨fuel, hf⟩ := h
  rcases open_slice1 Try.underlying23 cellsBool hf with ⟨hcs, _⟩ | ⟨a, len', cap', m, n, V, D, Pl, hcs, hb, hl, hm, hmm, _, hi⟩
  · simp [Value.cells] at hcs
    obtain ⟨rfl, rfl, rfl⟩ := hcs
    exact ⟨none, 0, 0, fun _ => false, rfl, by omega, by omega, fun i hi => absurd hi (by omega)⟩
  · simp [Value.cells] at hcs
    obtain ⟨rfl, rfl, rfl⟩ := hcs
    have hle : len ≤ m := by rw [hmm]; split <;> omega
    have hall : ∀ i, i < len → ∃ x : Bool, ∃ b o, some a = some ⟨b, o, none⟩ ∧ b < W.heap.size ∧ W.cell? ⟨b, o + i, none⟩ = some (.bool x) := by
      intro i h'
      obtain ⟨b, o, rfl⟩ := spot_none (hi 0 (by omega)).1
      obtain ⟨hc, ht⟩ := hi i (by omega)
      rw [addr_plain] at hc
      obtain ⟨k, e2, _⟩ := DataW.trod_bool Try.underlying4 ht
      have e3 : V i = .bool k := by simpa using e2
      rw [e3] at hc
      exact ⟨k, b, o, rfl, World.block_lt_of_cell? W ⟨b, o + i, none⟩ hc, hc⟩
    obtain ⟨f, hfs⟩ := skol hall
    exact ⟨some a, len, cap, f, rfl, hl, by unfold maxLen at hm; omega, fun i h' => hfs i h'⟩
end
end Go.Proofs.Ytdeeaehdbaoloaa
