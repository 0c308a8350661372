/-
  AN ARGUMENT OPENED: a slice of records.
-/
import Derived.Test.YtkhmlbkkdflnoaaSesP
import Derived.Test.YtkhmlbkkdflnoaaOpenInts
import Derived.Test.YtkhmlbkkdflnoaaPost
namespace Go.Proofs.Ytkhmlbkkdflnoaa.Ao
open Go.Joins Go.ChangeShapes Go.WideShapes Go.ChangeAt Go.RowKit Go.Deep
open Rc (rcL rcL_get)

theorem cellsRec : Try.prog.cellsOf 53 = 13 := by kernel_rfl
theorem cellsInt : Try.prog.cellsOf 3 = 1 := by kernel_rfl
theorem cellsU : Try.prog.cellsOf 24 = 1 := by kernel_rfl
theorem cellsSigns : Try.prog.cellsOf 40 = 4 := by kernel_rfl
/-- from a list of values -/
def ofL (l : List Int) : Nat → Int := fun i => l.getD i 0
theorem skol {α : Type} [Inhabited α] {P : Nat → α → Prop} {n : Nat} (h : ∀ i, i < n → ∃ x, P i x) : ∃ f : Nat → α, ∀ i, i < n → P i (f i) := by
  classical
  refine ⟨fun i => if h' : i < n then Classical.choose (h i h') else default, fun i h' => ?_⟩
  simp only [dif_pos h']
  exact Classical.choose_spec (h i h')
section
variable {H : Type} {enc : TypeId × Value → H} {W : World} {base : Nat} {sp : Nat → Bool} {held : Bool}
set_option maxRecDepth 100000 in
theorem signs_cells {fuel : Nat} {cs : List Value} {x : DataW H × List MemPlace} (h : DataW.trod enc Try.prog W base sp held fuel 40 cs = some x) :
    ∃ a b c d : Int, cs = [.int .u64 a, .int .u64 b, .int .u64 c, .int .u64 d] := by
  obtain ⟨xs, n, _, rfl, hl, hlen, hf⟩ := DataW.trod_array Try.underlying40 h
  rw [cellsSigns] at hl
  rw [cellsU] at hf
  match cs, hl with
  | [c0, c1, c2, c3], _ =>
    match xs, hlen with
    | [y0, y1, y2, y3], _ =>
      obtain ⟨a, e0, _⟩ := DataW.trod_int Try.underlying24 (hf 0 (by omega))
      obtain ⟨b, e1, _⟩ := DataW.trod_int Try.underlying24 (hf 1 (by omega))
      obtain ⟨c, e2, _⟩ := DataW.trod_int Try.underlying24 (hf 2 (by omega))
      obtain ⟨d, e3, _⟩ := DataW.trod_int Try.underlying24 (hf 3 (by omega))
      simp at e0 e1 e2 e3
      subst e0 e1 e2 e3
      exact ⟨a, b, c, d, rfl⟩
set_option maxRecDepth 100000 in
theorem rec_cells {fuel : Nat} {cs : List Value} {x : DataW H × List MemPlace} (h : DataW.trod enc Try.prog W base sp held fuel 53 cs = some x) :
    ∃ z : Nat → Int, cs = rcL z ∧ (Lit.int .i64 (z 0)).wf = true := by
  obtain ⟨xs, n, _, rfl, hl, hlen, hf⟩ := DataW.trod_struct Try.underlying53 h
  rw [cellsRec] at hl
  match cs, hl with
  | [c0, c1, c2, c3, c4, c5, c6, c7, c8, c9, c10, c11, c12], _ =>
    match xs, hlen with
    | [y0, y1, y2, y3, y4, y5, y6, y7, y8, y9], _ =>
      obtain ⟨a0, e0, _, w0⟩ := DataW.trod_int Try.underlying3 (hf 0 _ rfl)
      obtain ⟨a1, e1, _⟩ := DataW.trod_int Try.underlying3 (hf 1 _ rfl)
      obtain ⟨a2, e2, _⟩ := DataW.trod_int Try.underlying3 (hf 2 _ rfl)
      obtain ⟨a3, e3, _⟩ := DataW.trod_int Try.underlying3 (hf 3 _ rfl)
      obtain ⟨a4, e4, _⟩ := DataW.trod_int Try.underlying3 (hf 4 _ rfl)
      obtain ⟨a5, e5, _⟩ := DataW.trod_int Try.underlying3 (hf 5 _ rfl)
      obtain ⟨a6, e6, _⟩ := DataW.trod_int Try.underlying3 (hf 6 _ rfl)
      obtain ⟨a7, e7, _⟩ := DataW.trod_int Try.underlying3 (hf 7 _ rfl)
      obtain ⟨a8, e8, _⟩ := DataW.trod_int Try.underlying3 (hf 8 _ rfl)
      obtain ⟨a9, a10, a11, a12, e9⟩ := signs_cells (hf 9 _ rfl)
      simp [cellsInt] at e0 e1 e2 e3 e4 e5 e6 e7 e8
      simp [cellsSigns] at e9
      obtain ⟨q9, q10, q11, q12⟩ := e9
      subst e0 e1 e2 e3 e4 e5 e6 e7 e8 q9 q10 q11 q12
      exact ⟨ofL [a0, a1, a2, a3, a4, a5, a6, a7, a8, a9, a10, a11, a12], rfl, w0⟩
set_option maxRecDepth 100000 in
theorem open_recs {r : Reach} {b0 : Nat} {v : Value} {d : DataW H} {p : List MemPlace} (hv : Value.okWide Try.prog W r b0 43 v) (h : DataW.Trod enc Try.prog W base sp held 43 v d p) :
    ∃ (A : Option Addr) (n c : Nat) (X : Nat → Nat → Int), v = .slice A n c ∧ n ≤ c ∧ c ≤ 9223372036854775807 ∧ (A = none → c = 0) ∧ RR W A n X ∧ ∀ i, i < n → (Lit.int .i64 (X i 0)).wf = true := by
  obtain ⟨a0, len, cap, rfl⟩ := okWide_slice Try.underlying43 hv
  obtain ⟨fuel, hf⟩ := h
  rcases open_slice Try.underlying43 hf with ⟨hcs, _⟩ | ⟨a, len', cap', m, n, D, Pl, hcs, hb, hl, hm, hmm, _, hi⟩
  · simp [Value.cells] at hcs
    obtain ⟨rfl, rfl, rfl⟩ := hcs
    exact ⟨none, 0, 0, fun _ _ => 0, rfl, by omega, by omega, fun _ => rfl, fun i hi => absurd hi (by omega), fun i hi => absurd hi (by omega)⟩
  · simp [Value.cells] at hcs
    obtain ⟨rfl, rfl, rfl⟩ := hcs
    have hle : len ≤ m := by rw [hmm]; split <;> omega
    have hall : ∀ i, i < len → ∃ z : Nat → Int, (∀ j, j < 13 → W.cell? ((a.add (i * 13)).add j) = some (cv j (z j))) ∧ (Lit.int .i64 (z 0)).wf = true := by
      intro i h'
      obtain ⟨cs', hc, ht⟩ := hi i (by omega)
      rw [cellsRec] at hc
      obtain ⟨z, rfl, hwz⟩ := rec_cells ht
      obtain ⟨_, _, hat⟩ := World.cells?_some hc
      refine ⟨z, fun j hj => ?_, hwz⟩
      have := hat j (by omega)
      rw [this]
      exact rcL_get z j hj
    obtain ⟨X, hX⟩ := skol hall
    refine ⟨some a, len, cap, X, rfl, hl, by unfold maxLen at hm; omega, fun e => (by cases e), fun i h' => ?_, fun i h' => (hX i h').2⟩
    obtain ⟨b, o, spot⟩ := a
    have hspot : spot = none := by
      have := (hX 0 (by omega)).1 0 (by omega)
      simpa [Addr.add] using World.cell?_spot this
    subst hspot
    have h0 : ∀ j, j < 13 → W.cell? ⟨b, o + i * 13 + j, none⟩ = some (cv j (X i j)) := fun j hj => by
      have := (hX i h').1 j hj
      rw [addr_plain, addr_plain] at this
      exact this
    exact ⟨b, o, rfl, World.block_lt_of_cell? W ⟨b, o + i * 13 + 0, none⟩ (h0 0 (by omega)), h0⟩
end
end Go.Proofs.Ytkhmlbkkdflnoaa.Ao
