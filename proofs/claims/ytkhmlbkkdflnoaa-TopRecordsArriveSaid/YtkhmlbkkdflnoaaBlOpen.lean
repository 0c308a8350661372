/-
  ARGUMENTS OPENED: truths, bytes, an array of four numbers.
-/
import Derived.Test.YtkhmlbkkdflnoaaSes
import Derived.Test.YtkhmlbkkdflnoaaOpenInts
import Derived.Test.YtkhmlbkkdflnoaaPost
import Derived.Lib.SmallJoins
import Derived.Deep.Slices
namespace Go.Proofs.Ytkhmlbkkdflnoaa.Rc
open Go.Joins Go.ChangeShapes Go.WideShapes Go.ChangeAt Go.RowKit Go.Deep

theorem cellsBool : Try.prog.cellsOf 4 = 1 := by kernel_rfl
theorem cellsByte : Try.prog.cellsOf 5 = 1 := by kernel_rfl
theorem cellsU64 : Try.prog.cellsOf 24 = 1 := by kernel_rfl
theorem cellsFour : Try.prog.cellsOf 40 = 4 := by kernel_rfl
section
variable {H : Type} {enc : TypeId × Value → H} {W : World} {base : Nat} {sp : Nat → Bool} {held : Bool}
theorem spot_none {a : Addr} {v : Value} (h : W.cell? (a.add 0) = some v) : ∃ b o, a = ⟨b, o, none⟩ := by
  obtain ⟨b, o, s⟩ := a
  have := World.cell?_spot h
  refine ⟨b, o, ?_⟩
  simpa [Addr.add] using this
theorem skol {α : Type} [Inhabited α] {P : Nat → α → Prop} {n : Nat} (h : ∀ i, i < n → ∃ x, P i x) : ∃ f : Nat → α, ∀ i, i < n → P i (f i) := by
  classical
  refine ⟨fun i => if h' : i < n then Classical.choose (h i h') else default, fun i h' => ?_⟩
  simp only [dif_pos h']
  exact Classical.choose_spec (h i h')
set_option maxRecDepth 100000 in
theorem open_bools {r : Reach} {b0 : Nat} {v : Value} {d : DataW H} {p : List MemPlace} (hv : Value.okWide Try.prog W r b0 38 v) (h : DataW.Trod enc Try.prog W base sp held 38 v d p) :
    ∃ (A : Option Addr) (n c : Nat) (q : Nat → Bool), v = .slice A n c ∧ n ≤ c ∧ c ≤ 9223372036854775807 ∧ BO W A n q := by
  obtain ⟨a0, len, cap, rfl⟩ := okWide_slice Try.underlying38 hv
  obtain ⟨fuel, hf⟩ := h
  rcases open_slice1 Try.underlying38 cellsBool hf with ⟨hcs, _⟩ | ⟨a, len', cap', m, n, V, D, Pl, hcs, hb, hl, hm, hmm, _, hi⟩
  · simp [Value.cells] at hcs
    obtain ⟨rfl, rfl, rfl⟩ := hcs
    exact ⟨none, 0, 0, fun _ => false, rfl, by omega, by omega, fun i hi => absurd hi (by omega)⟩
  · simp [Value.cells] at hcs
    obtain ⟨rfl, rfl, rfl⟩ := hcs
    have hle : len ≤ m := by rw [hmm]; split <;> omega
    have hall : ∀ i, i < len → ∃ x : Bool, ∃ b o, some a = some ⟨b, o, none⟩ ∧ b < W.heap.size ∧ W.cell? ⟨b, o + i, none⟩ = some (.bool x) := by
      intro i h'
      obtain ⟨b, o, rfl⟩ := spot_none (hi 0 (by omega)).1
      obtain ⟨hc, ht⟩ := hi i (by omega)
      rw [addr_plain] at hc
      obtain ⟨k, e2, _⟩ := DataW.trod_bool Try.underlying4 ht
      have e3 : V i = .bool k := by simpa using e2
      rw [e3] at hc
      exact ⟨k, b, o, rfl, World.block_lt_of_cell? W ⟨b, o + i, none⟩ hc, hc⟩
    obtain ⟨f, hfs⟩ := skol hall
    exact ⟨some a, len, cap, f, rfl, hl, by unfold maxLen at hm; omega, fun i h' => hfs i h'⟩
theorem RN.uo {w : World} {A : Option Addr} {n : Nat} {z : Nat → Int} (h : RN .u8 w A n z) : UO w A n z := fun i hi => by
  obtain ⟨b, o, h1, h2, h3, h4⟩ := h i hi
  have : 0 ≤ z i ∧ z i ≤ 255 := by simpa [Lit.wf, IntKind.min, IntKind.max, IntKind.signed, IntKind.bits] using h4
  exact ⟨b, o, h1, h2, h3, this⟩
set_option maxRecDepth 100000 in
theorem open_four {r : Reach} {b0 : Nat} {v : Value} {d : DataW H} {p : List MemPlace} (hv : Value.okWide Try.prog W r b0 40 v) (h : DataW.Trod enc Try.prog W base sp held 40 v d p) :
    ∃ K : Nat → Int, v = .agg #[.int .u64 (K 0), .int .u64 (K 1), .int .u64 (K 2), .int .u64 (K 3)] := by
  simp only [Value.okWide, Try.underlying40] at hv
  obtain ⟨cs, rfl, hsz, _⟩ := hv
  obtain ⟨fuel, hf⟩ := h
  obtain ⟨xs, n, _, _, hl, hlen, hg⟩ := DataW.trod_array Try.underlying40 hf
  rw [cellsFour] at hl
  rw [cellsU64] at hg
  obtain ⟨cs⟩ := cs
  simp only [Value.cells] at hl hg
  match cs, hl with
  | [c0, c1, c2, c3], _ =>
    match xs, hlen with
    | [y0, y1, y2, y3], _ =>
      obtain ⟨a, e0, _, w0⟩ := DataW.trod_int Try.underlying24 (hg 0 (by omega))
      obtain ⟨b, e1, _, w1⟩ := DataW.trod_int Try.underlying24 (hg 1 (by omega))
      obtain ⟨c, e2, _, w2⟩ := DataW.trod_int Try.underlying24 (hg 2 (by omega))
      obtain ⟨e, e3, _, w3⟩ := DataW.trod_int Try.underlying24 (hg 3 (by omega))
      simp at e0 e1 e2 e3
      subst e0 e1 e2 e3
      exact ⟨fun j => if j = 0 then a else if j = 1 then b else if j = 2 then c else e, rfl⟩
end
end Go.Proofs.Ytkhmlbkkdflnoaa.Rc
