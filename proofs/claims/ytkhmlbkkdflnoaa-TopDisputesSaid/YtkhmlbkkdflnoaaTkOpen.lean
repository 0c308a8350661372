/-
  ARGUMENTS OPENED: a meter by value, a slice of ticks.
-/
import Derived.Test.YtkhmlbkkdflnoaaMet
import Derived.Test.YtkhmlbkkdflnoaaPost
import Derived.Lib.SmallJoins
import Derived.Deep.Slices
namespace Go.Proofs.Ytkhmlbkkdflnoaa.Mt
open Go.Joins Go.ChangeShapes Go.WideShapes Go.ChangeAt Go.RowKit Go.Deep

theorem cellsMeter : Try.prog.cellsOf 28 = 3 := by kernel_rfl
theorem cellsByte : Try.prog.cellsOf 5 = 1 := by kernel_rfl
theorem cellsTick : Try.prog.cellsOf 92 = 2 := by kernel_rfl

section
variable {H : Type} {enc : TypeId × Value → H} {W : World} {base : Nat} {sp : Nat → Bool} {held : Bool}
set_option maxRecDepth 100000 in
theorem open_meter {r : Reach} {b0 : Nat} {v : Value} {d : DataW H} {p : List MemPlace} (hv : Value.okWide Try.prog W r b0 28 v) (h : DataW.Trod enc Try.prog W base sp held 28 v d p) :
    ∃ (s t : Int) (k : Bool), v = .agg #[.int .i64 s, .int .i64 t, .bool k] := by
  obtain ⟨c0, c1, c2, y0, y1, y2, n, rfl, _, _, h0, h1, h2⟩ := open_agg3 Try.underlying28 (by kernel_rfl) cellsMeter hv h
  obtain ⟨s, e0, _, _⟩ := DataW.trod_int Try.underlying3 h0
  obtain ⟨t, e1, _, _⟩ := DataW.trod_int Try.underlying3 h1
  obtain ⟨k, e2, _⟩ := DataW.trod_bool Try.underlying4 h2
  simp at e0 e1 e2
  subst e0 e1 e2
  exact ⟨s, t, k, rfl⟩

theorem add_plain (b o n : Nat) : (Addr.add ⟨b, o, none⟩ n) = ⟨b, o + n, none⟩ := by unfold Addr.add; split <;> simp_all
theorem skolem2 {P : Nat → Int → Int → Prop} {n : Nat} (h : ∀ i, i < n → ∃ x y, P i x y) : ∃ f g : Nat → Int, ∀ i, i < n → P i (f i) (g i) := by
  refine ⟨fun i => if h' : i < n then Classical.choose (h i h') else 0, fun i => if h' : i < n then Classical.choose (Classical.choose_spec (h i h')) else 0, fun i h' => ?_⟩
  simp only [dif_pos h']
  exact Classical.choose_spec (Classical.choose_spec (h i h'))
theorem byte_bd {x : Int} (h : (Lit.int .u8 x).wf = true) : 0 ≤ x ∧ x ≤ 255 := by simpa [Lit.wf, IntKind.min, IntKind.max, IntKind.signed, IntKind.bits] using h

set_option maxRecDepth 100000 in
theorem tick_cells {fuel : Nat} {cs : List Value} {x : DataW H × List MemPlace} (h : DataW.trod enc Try.prog W base sp held fuel 92 cs = some x) :
    ∃ a b : Int, cs = [.int .u8 a, .int .u8 b] ∧ (0 ≤ a ∧ a ≤ 255) ∧ (0 ≤ b ∧ b ≤ 255) := by
  obtain ⟨xs, n, _, rfl, hl, hlen, hf⟩ := DataW.trod_array Try.underlying92 h
  rw [cellsTick] at hl
  rw [cellsByte] at hf
  match cs, hl with
  | [c0, c1], _ =>
    match xs, hlen with
    | [y0, y1], _ =>
      obtain ⟨a, e0, _, w0⟩ := DataW.trod_int Try.underlying5 (hf 0 (by omega))
      obtain ⟨b, e1, _, w1⟩ := DataW.trod_int Try.underlying5 (hf 1 (by omega))
      simp at e0 e1
      subst e0 e1
      exact ⟨a, b, rfl, byte_bd w0, byte_bd w1⟩

set_option maxRecDepth 100000 in
theorem open_ticks {r : Reach} {b0 : Nat} {v : Value} {d : DataW H} {p : List MemPlace} (hv : Value.okWide Try.prog W r b0 25 v) (h : DataW.Trod enc Try.prog W base sp held 25 v d p) :
    ∃ (A : Option Addr) (n c : Nat) (f g : Nat → Int), v = .slice A n c ∧ n ≤ c ∧ c ≤ 9223372036854775807 ∧ TK W A n f g := by
  obtain ⟨a0, len, cap, rfl⟩ := okWide_slice Try.underlying25 hv
  obtain ⟨fuel, hf⟩ := h
  rcases open_slice Try.underlying25 hf with ⟨hcs, _⟩ | ⟨a, len', cap', m, n, D, Pl, hcs, hb, hl, hm, hmm, _, hi⟩
  · simp [Value.cells] at hcs
    obtain ⟨rfl, rfl, rfl⟩ := hcs
    exact ⟨none, 0, 0, fun _ => 0, fun _ => 0, rfl, by omega, by omega, fun i hi => absurd hi (by omega)⟩
  · simp [Value.cells] at hcs
    obtain ⟨rfl, rfl, rfl⟩ := hcs
    have hle : len ≤ m := by rw [hmm]; split <;> omega
    rcases Nat.eq_zero_or_pos len with h0 | hpos
    · subst h0
      exact ⟨some a, 0, cap, fun _ => 0, fun _ => 0, rfl, hl, by unfold maxLen at hm; omega, fun i hi => absurd hi (by omega)⟩
    · have hall : ∀ i, i < len → ∃ x y : Int, W.cell? (a.add (i * 2)) = some (.int .u8 x) ∧ W.cell? ((a.add (i * 2)).add 1) = some (.int .u8 y) ∧ (0 ≤ x ∧ x ≤ 255) ∧ (0 ≤ y ∧ y ≤ 255) := by
        intro i h'
        obtain ⟨cs', hc, ht⟩ := hi i (by omega)
        rw [cellsTick] at hc
        obtain ⟨x, y, rfl, hx, hy⟩ := tick_cells ht
        obtain ⟨_, _, hat⟩ := World.cells?_some hc
        exact ⟨x, y, hat 0 (by omega), hat 1 (by omega), hx, hy⟩
      obtain ⟨b, o, spot⟩ := a
      have hspot : spot = none := by
        obtain ⟨x, y, e, _⟩ := hall 0 hpos
        simpa [Addr.add] using World.cell?_spot e
      subst hspot
      have hall' : ∀ i, i < len → ∃ x y : Int, W.cell? ⟨b, o + i * 2, none⟩ = some (.int .u8 x) ∧ W.cell? ⟨b, o + i * 2 + 1, none⟩ = some (.int .u8 y) ∧ (0 ≤ x ∧ x ≤ 255) ∧ (0 ≤ y ∧ y ≤ 255) := by
        intro i h'
        obtain ⟨x, y, e1, e2, hx, hy⟩ := hall i h'
        refine ⟨x, y, ?_, ?_, hx, hy⟩
        · rw [add_plain] at e1; exact e1
        · rw [add_plain, add_plain] at e2; exact e2
      obtain ⟨f, g, hfg⟩ := skolem2 hall'
      refine ⟨_, len, cap, f, g, rfl, hl, by unfold maxLen at hm; omega, fun i h' => ?_⟩
      obtain ⟨e1, e2, e3, e4⟩ := hfg i h'
      exact ⟨b, o, rfl, World.block_lt_of_cell? W ⟨b, o + i * 2, none⟩ e1, e1, e2, e3, e4⟩
end
end Go.Proofs.Ytkhmlbkkdflnoaa.Mt
