/-
  ARGUMENTS OPENED: slices of records, of readings, of numbers.
-/
import Derived.Test.YtflehgdhdfmacaaHeadc
import Derived.Test.YtflehgdhdfmacaaOpenInts
import Derived.Test.YtflehgdhdfmacaaPost
namespace Go.Proofs.Ytflehgdhdfmacaa
open Go.Joins Go.ChangeShapes Go.WideShapes Go.ChangeAt Go.RowKit Go.Deep

theorem cellsRec : Try.prog.cellsOf 40 = 13 := by kernel_rfl
theorem cellsRead : Try.prog.cellsOf 49 = 5 := by kernel_rfl
theorem cellsInt : Try.prog.cellsOf 3 = 1 := by kernel_rfl
theorem cellsU : Try.prog.cellsOf 37 = 1 := by kernel_rfl
theorem cellsSigns : Try.prog.cellsOf 38 = 4 := by kernel_rfl
theorem RN.rz {w : World} {A : Option Addr} {n : Nat} {z : Nat → Int} (x : RN .i64 w A n z) : RZ w A n z := fun i hi => by
  obtain ⟨b, o, e, hb, hc, _⟩ := x i hi
  exact ⟨b, o, e, hb, hc⟩
/-- from a list of values -/
def ofL (l : List Int) : Nat → Int := fun i => l.getD i 0
theorem skol {α : Type} [Inhabited α] {P : Nat → α → Prop} {n : Nat} (h : ∀ i, i < n → ∃ x, P i x) : ∃ f : Nat → α, ∀ i, i < n → P i (f i) := by
  classical
  refine ⟨fun i => if h' : i < n then Classical.choose (h i h') else default, fun i h' => ?_⟩
  simp only [dif_pos h']
  exact Classical.choose_spec (h i h')
section
variable {H : Type} {enc : TypeId × Value → H} {W : World} {base : Nat} {sp : Nat → Bool} {held : Bool}
theorem signs_cells {fuel : Nat} {cs : List Value} {x : DataW H × List MemPlace} (h : DataW.trod enc Try.prog W base sp held fuel 38 cs = some x) :
    ∃ a b c d : Int, cs = [.int .u64 a, .int .u64 b, .int .u64 c, .int .u64 d] := by
  obtain ⟨xs, n, _, rfl, hl, hlen, hf⟩ := DataW.trod_array Try.underlying38 h
  rw [cellsSigns] at hl
  rw [cellsU] at hf
  match cs, hl with
  | [c0, c1, c2, c3], _ =>
    match xs, hlen with
    | [y0, y1, y2, y3], _ =>
      obtain ⟨a, e0, _⟩ := DataW.trod_int Try.underlying37 (hf 0 (by omega))
      obtain ⟨b, e1, _⟩ := DataW.trod_int Try.underlying37 (hf 1 (by omega))
      obtain ⟨c, e2, _⟩ := DataW.trod_int Try.underlying37 (hf 2 (by omega))
      obtain ⟨d, e3, _⟩ := DataW.trod_int Try.underlying37 (hf 3 (by omega))
      simp at e0 e1 e2 e3
      subst e0 e1 e2 e3
      exact ⟨a, b, c, d, rfl⟩
theorem rec_cells {fuel : Nat} {cs : List Value} {x : DataW H × List MemPlace} (h : DataW.trod enc Try.prog W base sp held fuel 40 cs = some x) :
    ∃ z : Nat → Int, cs = rcL z ∧ (Lit.int .i64 (z 0)).wf = true := by
  obtain ⟨xs, n, _, rfl, hl, hlen, hf⟩ := DataW.trod_struct Try.underlying40 h
  rw [cellsRec] at hl
  match cs, hl with
  | [c0, c1, c2, c3, c4, c5, c6, c7, c8, c9, c10, c11, c12], _ =>
    match xs, hlen with
    | [y0, y1, y2, y3, y4, y5, y6, y7, y8, y9], _ =>
      obtain ⟨a0, e0, _, w0⟩ := DataW.trod_int Try.underlying3 (hf 0 _ rfl)
      obtain ⟨a1, e1, _⟩ := DataW.trod_int Try.underlying3 (hf 1 _ rfl)
      obtain ⟨a2, e2, _⟩ := DataW.trod_int Try.underlying3 (hf 2 _ rfl)
      obtain ⟨a3, e3, _⟩ := DataW.trod_int Try.underlying3 (hf 3 _ rfl)
      obtain ⟨a4, e4, _⟩ := DataW.trod_int Try.underlying3 (hf 4 _ rfl)
      obtain ⟨a5, e5, _⟩ := DataW.trod_int Try.underlying3 (hf 5 _ rfl)
      obtain ⟨a6, e6, _⟩ := DataW.trod_int Try.underlying3 (hf 6 _ rfl)
      obtain ⟨a7, e7, _⟩ := DataW.trod_int Try.underlying3 (hf 7 _ rfl)
      obtain ⟨a8, e8, _⟩ := DataW.trod_int Try.underlying3 (hf 8 _ rfl)
      obtain ⟨a9, a10, a11, a12, e9⟩ := signs_cells (hf 9 _ rfl)
      simp [cellsInt] at e0 e1 e2 e3 e4 e5 e6 e7 e8
      simp [cellsSigns] at e9
      obtain ⟨q9, q10, q11, q12⟩ := e9
      subst e0 e1 e2 e3 e4 e5 e6 e7 e8 q9 q10 q11 q12
      exact ⟨ofL [a0, a1, a2, a3, a4, a5, a6, a7, a8, a9, a10, a11, a12], rfl, w0⟩
theorem read_cells {fuel : Nat} {cs : List Value} {x : DataW H × List MemPlace} (h : DataW.trod enc Try.prog W base sp held fuel 49 cs = some x) :
    ∃ z : Nat → Int, cs = [.int .i64 (z 0), .int .i64 (z 1), .int .i64 (z 2), .int .i64 (z 3), .int .u64 (z 4)] := by
  obtain ⟨xs, n, _, rfl, hl, hlen, hf⟩ := DataW.trod_struct Try.underlying49 h
  rw [cellsRead] at hl
  match cs, hl with
  | [c0, c1, c2, c3, c4], _ =>
    match xs, hlen with
    | [y0, y1, y2, y3, y4], _ =>
      obtain ⟨a0, e0, _⟩ := DataW.trod_int Try.underlying3 (hf 0 _ rfl)
      obtain ⟨a1, e1, _⟩ := DataW.trod_int Try.underlying3 (hf 1 _ rfl)
      obtain ⟨a2, e2, _⟩ := DataW.trod_int Try.underlying3 (hf 2 _ rfl)
      obtain ⟨a3, e3, _⟩ := DataW.trod_int Try.underlying3 (hf 3 _ rfl)
      obtain ⟨a4, e4, _⟩ := DataW.trod_int Try.underlying37 (hf 4 _ rfl)
      simp [cellsInt] at e0 e1 e2 e3
      simp [cellsU] at e4
      subst e0 e1 e2 e3 e4
      exact ⟨ofL [a0, a1, a2, a3, a4], rfl⟩

theorem open_recs {r : Reach} {b0 : Nat} {v : Value} {d : DataW H} {p : List MemPlace} (hv : Value.okWide Try.prog W r b0 22 v) (h : DataW.Trod enc Try.prog W base sp held 22 v d p) :
    ∃ (A : Option Addr) (n c : Nat) (X : Nat → Nat → Int), v = .slice A n c ∧ n ≤ c ∧ c ≤ 9223372036854775807 ∧ (A = none → c = 0) ∧ RR W A n X ∧ ∀ i, i < n → (Lit.int .i64 (X i 0)).wf = true := by
  obtain ⟨a0, len, cap, rfl⟩ := okWide_slice Try.underlying22 hv
  obtain ⟨fuel, hf⟩ := h
  rcases open_slice Try.underlying22 hf with ⟨hcs, _⟩ | ⟨a, len', cap', m, n, D, Pl, hcs, hb, hl, hm, hmm, _, hi⟩
  · simp [Value.cells] at hcs
    obtain ⟨rfl, rfl, rfl⟩ := hcs
    exact ⟨none, 0, 0, fun _ _ => 0, rfl, by omega, by omega, fun _ => rfl, fun i hi => absurd hi (by omega), fun i hi => absurd hi (by omega)⟩
  · simp [Value.cells] at hcs
    obtain ⟨rfl, rfl, rfl⟩ := hcs
    have hle : len ≤ m := by rw [hmm]; split <;> omega
    have hall : ∀ i, i < len → ∃ z : Nat → Int, (∀ j, j < 13 → W.cell? ((a.add (i * 13)).add j) = some (cv j (z j))) ∧ (Lit.int .i64 (z 0)).wf = true := by
      intro i h'
      obtain ⟨cs', hc, ht⟩ := hi i (by omega)
      rw [cellsRec] at hc
      obtain ⟨z, rfl, hwz⟩ := rec_cells ht
      obtain ⟨_, _, hat⟩ := World.cells?_some hc
      refine ⟨z, fun j hj => ?_, hwz⟩
      have := hat j (by omega)
      rw [this]
      exact rcL_get z j hj
    obtain ⟨X, hX⟩ := skol hall
    refine ⟨some a, len, cap, X, rfl, hl, by unfold maxLen at hm; omega, fun e => (by cases e), fun i h' => ?_, fun i h' => (hX i h').2⟩
    obtain ⟨b, o, spot⟩ := a
    have hspot : spot = none := by
      have := (hX 0 (by omega)).1 0 (by omega)
      simpa [Addr.add] using World.cell?_spot this
    subst hspot
    have h0 : ∀ j, j < 13 → W.cell? ⟨b, o + i * 13 + j, none⟩ = some (cv j (X i j)) := fun j hj => by
      have := (hX i h').1 j hj
      rw [addr_plain, addr_plain] at this
      exact this
    exact ⟨b, o, rfl, World.block_lt_of_cell? W ⟨b, o + i * 13 + 0, none⟩ (h0 0 (by omega)), h0⟩
theorem open_reads {r : Reach} {b0 : Nat} {v : Value} {d : DataW H} {p : List MemPlace} (hv : Value.okWide Try.prog W r b0 24 v) (h : DataW.Trod enc Try.prog W base sp held 24 v d p) :
    ∃ (A : Option Addr) (n c : Nat) (X : Nat → Nat → Int), v = .slice A n c ∧ n ≤ c ∧ c ≤ 9223372036854775807 ∧ (A = none → c = 0) ∧ RG W A n X := by
  obtain ⟨a0, len, cap, rfl⟩ := okWide_slice Try.underlying24 hv
  obtain ⟨fuel, hf⟩ := h
  rcases open_slice Try.underlying24 hf with ⟨hcs, _⟩ | ⟨a, len', cap', m, n, D, Pl, hcs, hb, hl, hm, hmm, _, hi⟩
  · simp [Value.cells] at hcs
    obtain ⟨rfl, rfl, rfl⟩ := hcs
    exact ⟨none, 0, 0, fun _ _ => 0, rfl, by omega, by omega, fun _ => rfl, fun i hi => absurd hi (by omega)⟩
  · simp [Value.cells] at hcs
    obtain ⟨rfl, rfl, rfl⟩ := hcs
    have hle : len ≤ m := by rw [hmm]; split <;> omega
    have hall : ∀ i, i < len → ∃ z : Nat → Int, W.cell? ((a.add (i * 5)).add 0) = some (.int .i64 (z 0)) ∧ W.cell? ((a.add (i * 5)).add 1) = some (.int .i64 (z 1)) ∧ W.cell? ((a.add (i * 5)).add 2) = some (.int .i64 (z 2)) ∧ W.cell? ((a.add (i * 5)).add 3) = some (.int .i64 (z 3)) ∧ W.cell? ((a.add (i * 5)).add 4) = some (.int .u64 (z 4)) := by
      intro i h'
      obtain ⟨cs', hc, ht⟩ := hi i (by omega)
      rw [cellsRead] at hc
      obtain ⟨z, rfl⟩ := read_cells ht
      obtain ⟨_, _, hat⟩ := World.cells?_some hc
      exact ⟨z, hat 0 (by omega), hat 1 (by omega), hat 2 (by omega), hat 3 (by omega), hat 4 (by omega)⟩
    obtain ⟨X, hX⟩ := skol hall
    refine ⟨some a, len, cap, X, rfl, hl, by unfold maxLen at hm; omega, fun e => (by cases e), fun i h' => ?_⟩
    obtain ⟨b, o, spot⟩ := a
    have hspot : spot = none := by
      have := (hX 0 (by omega)).1
      simpa [Addr.add] using World.cell?_spot this
    subst hspot
    obtain ⟨h0, h1, h2, h3, h4⟩ := hX i h'
    rw [addr_plain, addr_plain] at h0 h1 h2 h3 h4
    exact ⟨b, o, rfl, World.block_lt_of_cell? W _ h0, h0, h1, h2, h3, h4⟩
end
end Go.Proofs.Ytflehgdhdfmacaa
