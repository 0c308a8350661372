/-
  AN ARGUMENT THAT IS A LIST OF MOVES, opened.
-/
import Derived.Test.YteeohndgkfilaaaOpen
namespace Go.Proofs.Yteeohndgkfilaaa
open Go.Joins Go.ChangeShapes Go.WideShapes Go.ChangeAt Go.RowKit Go.Deep

/-- moves as cells -/
def cM : List (Int × Bool × Int) → List Value
  | [] => []
  | p :: l => .int .u8 p.1 :: .bool p.2.1 :: .int .u8 p.2.2 :: cM l
theorem cM_len (l : List (Int × Bool × Int)) : (cM l).length = l.length * 3 := by
  induction l with
  | nil => rfl
  | cons p l ih => simp [cM, ih]; omega
theorem cM_get : ∀ {l : List (Int × Bool × Int)} {i : Nat} {p : Int × Bool × Int}, l[i]? = some p → (cM l)[i * 3]? = some (.int .u8 p.1) ∧ (cM l)[i * 3 + 1]? = some (.bool p.2.1) ∧ (cM l)[i * 3 + 2]? = some (.int .u8 p.2.2) := by
  intro l
  induction l with
  | nil => intro i p h; simp at h
  | cons q l ih =>
    intro i p h
    cases i with
    | zero => simp at h; subst h; exact ⟨rfl, rfl, rfl⟩
    | succ i =>
      have h' : l[i]? = some p := by simpa using h
      obtain ⟨h1, h2, h3⟩ := ih h'
      rw [show (i + 1) * 3 = i * 3 + 1 + 1 + 1 by omega]
      exact ⟨by simpa [cM] using h1, by simpa [cM] using h2, by simpa [cM] using h3⟩
def at3 (l : List (Int × Bool × Int)) (i : Nat) : Int × Bool × Int := l.getD i (0, false, 0)
theorem at3_get {l : List (Int × Bool × Int)} {i : Nat} (h : i < l.length) : l[i]? = some (at3 l i) := by simp [at3, List.getD_eq_getElem?_getD, h]
theorem at3_mem {l : List (Int × Bool × Int)} {i : Nat} (h : i < l.length) : at3 l i ∈ l := List.mem_of_getElem? (at3_get h)
theorem RL.m {w : World} {A : Option Addr} {l : List (Int × Bool × Int)} (x : RL w A (cM l)) {i : Nat} (h : i < l.length) : ∃ b o, A = some ⟨b, o, none⟩ ∧ b < w.heap.size ∧ w.cell? ⟨b, o + i * 3, none⟩ = some (.int .u8 (at3 l i).1) ∧ w.cell? ⟨b, o + i * 3 + 1, none⟩ = some (.bool (at3 l i).2.1) ∧ w.cell? ⟨b, o + i * 3 + 2, none⟩ = some (.int .u8 (at3 l i).2.2) := by
  obtain ⟨h1, h2, h3⟩ := cM_get (at3_get h)
  obtain ⟨b, o, e, hl, hc⟩ := x _ _ h1
  obtain ⟨b', o', e', hl', hc'⟩ := x _ _ h2
  obtain ⟨b2, o2, e2, hl2, hc2⟩ := x _ _ h3
  subst e
  cases e'
  cases e2
  exact ⟨b, o, rfl, hl, hc, hc', hc2⟩
theorem cM_inv : ∀ {l : List (Int × Bool × Int)} {j : Nat} {v : Value}, (cM l)[j]? = some v → ∃ q, l[j / 3]? = some q ∧ ((j % 3 = 0 ∧ v = .int .u8 q.1) ∨ (j % 3 = 1 ∧ v = .bool q.2.1) ∨ (j % 3 = 2 ∧ v = .int .u8 q.2.2)) := by
  intro l j v hv
  have hj : j < l.length * 3 := by
    have := (List.getElem?_eq_some_iff.1 hv).1
    rw [cM_len] at this
    exact this
  have hq := at3_get (l := l) (i := j / 3) (by omega)
  obtain ⟨h1, h2, h3⟩ := cM_get hq
  refine ⟨_, hq, ?_⟩
  obtain h | h | h : j % 3 = 0 ∨ j % 3 = 1 ∨ j % 3 = 2 := by omega
  · rw [show j / 3 * 3 = j by omega, hv] at h1
    exact .inl ⟨h, Option.some.inj h1⟩
  · rw [show j / 3 * 3 + 1 = j by omega, hv] at h2
    exact .inr (.inl ⟨h, Option.some.inj h2⟩)
  · rw [show j / 3 * 3 + 2 = j by omega, hv] at h3
    exact .inr (.inr ⟨h, Option.some.inj h3⟩)
theorem cellsMove : Try.prog.cellsOf 43 = 3 := by kernel_rfl
theorem cellsU8 : Try.prog.cellsOf 5 = 1 := by kernel_rfl
theorem cellsBool : Try.prog.cellsOf 4 = 1 := by kernel_rfl
section
variable {H : Type} {enc : TypeId × Value → H} {W : World} {base : Nat} {sp : Nat → Bool} {held : Bool}
theorem move_cells {fuel : Nat} {cs : List Value} {x : DataW H × List MemPlace} (h : DataW.trod enc Try.prog W base sp held fuel 43 cs = some x) : ∃ q : Int × Bool × Int, cs = [.int .u8 q.1, .bool q.2.1, .int .u8 q.2.2] ∧ (0 ≤ q.1 ∧ q.1 ≤ 255) ∧ (0 ≤ q.2.2 ∧ q.2.2 ≤ 255) := by
  obtain ⟨xs, n, _, rfl, hl, hlen, hf⟩ := DataW.trod_struct Try.underlying43 h
  rw [cellsMove] at hl
  match cs, hl with
  | [c0, c1, c2], _ =>
    match xs, hlen with
    | [y0, y1, y2], _ =>
      obtain ⟨a0, e0, _, w0⟩ := DataW.trod_int Try.underlying5 (hf 0 _ rfl)
      obtain ⟨a1, e1, _⟩ := DataW.trod_bool Try.underlying4 (hf 1 _ rfl)
      obtain ⟨a2, e2, _, w2⟩ := DataW.trod_int Try.underlying5 (hf 2 _ rfl)
      simp [cellsU8, cellsBool] at e0 e1 e2
      subst e0 e1 e2
      have b0 : 0 ≤ a0 ∧ a0 ≤ 255 := by simpa [Lit.wf, IntKind.min, IntKind.max, IntKind.signed, IntKind.bits] using w0
      have b2 : 0 ≤ a2 ∧ a2 ≤ 255 := by simpa [Lit.wf, IntKind.min, IntKind.max, IntKind.signed, IntKind.bits] using w2
      exact ⟨(a0, a1, a2), rfl, b0, b2⟩
theorem moves_open {fuel : Nat} {cs : List Value} {x : DataW H × List MemPlace} (h : DataW.trod enc Try.prog W base sp held fuel 39 cs = some x) :
    ∃ (A : Option Addr) (l : List (Int × Bool × Int)) (c : Nat), cs = [.slice A l.length c] ∧ (l.length ≤ c ∧ c ≤ 9223372036854775807) ∧ (A = none → l.length = 0 ∧ c = 0) ∧ RL W A (cM l) ∧ ∀ q ∈ l, (0 ≤ q.1 ∧ q.1 ≤ 255) ∧ (0 ≤ q.2.2 ∧ q.2.2 ≤ 255) := by
  rcases open_slice Try.underlying39 h with ⟨hcs, _⟩ | ⟨a, len, cap, m, n, D, Pl, hcs, hb, hl, hm, hmm, _, hi⟩
  · exact ⟨none, [], 0, hcs, ⟨Nat.le_refl _, by omega⟩, fun _ => ⟨rfl, rfl⟩, RL_nil, fun q hq => by simp at hq⟩
  · have hle : len ≤ m := by rw [hmm]; split <;> omega
    have hall : ∀ i, i < len → ∃ q : Int × Bool × Int, (W.cell? ((a.add (i * 3)).add 0) = some (.int .u8 q.1) ∧ W.cell? ((a.add (i * 3)).add 1) = some (.bool q.2.1) ∧ W.cell? ((a.add (i * 3)).add 2) = some (.int .u8 q.2.2)) ∧ (0 ≤ q.1 ∧ q.1 ≤ 255) ∧ (0 ≤ q.2.2 ∧ q.2.2 ≤ 255) := by
      intro i h'
      obtain ⟨cs', hc, ht⟩ := hi i (by omega)
      rw [cellsMove] at hc
      obtain ⟨q, rfl, hq⟩ := move_cells ht
      obtain ⟨_, _, hat⟩ := World.cells?_some hc
      exact ⟨q, ⟨hat 0 (by omega), hat 1 (by omega), hat 2 (by omega)⟩, hq⟩
    obtain ⟨l, hlen, hP⟩ := list_of hall
    refine ⟨some a, l, cap, by rw [hlen]; exact hcs, ⟨by rw [hlen]; exact hl, by unfold maxLen at hm; omega⟩, (fun e => (by cases e)), fun j v hv => ?_, fun q hq => ?_⟩
    · obtain ⟨q, hq, hv'⟩ := cM_inv hv
      obtain ⟨⟨h0, h1, h2⟩, _⟩ := hP _ q hq
      obtain ⟨b, o, spot⟩ := a
      have hspot : spot = none := by
        have hl0 : 0 < l.length := by have := (List.getElem?_eq_some_iff.1 hq).1; omega
        have := (hP 0 _ (List.getElem?_eq_getElem hl0)).1.1
        simpa [Addr.add] using World.cell?_spot this
      subst hspot
      rw [addr_plain, addr_plain] at h0 h1 h2
      refine ⟨b, o, rfl, World.block_lt_of_cell? W _ h0, ?_⟩
      rcases hv' with ⟨e, rfl⟩ | ⟨e, rfl⟩ | ⟨e, rfl⟩
      · rw [show o + j = o + j / 3 * 3 + 0 by omega]; exact h0
      · rw [show o + j = o + j / 3 * 3 + 1 by omega]; exact h1
      · rw [show o + j = o + j / 3 * 3 + 2 by omega]; exact h2
    · obtain ⟨i, hi'⟩ := List.getElem?_of_mem hq
      exact (hP i q hi').2
theorem open_moves {r : Reach} {b0 : Nat} {v : Value} {d : DataW H} {p : List MemPlace} (hv : Value.okWide Try.prog W r b0 39 v) (h : DataW.Trod enc Try.prog W base sp held 39 v d p) :
    ∃ (A : Option Addr) (l : List (Int × Bool × Int)) (c : Nat), v = .slice A l.length c ∧ (l.length ≤ c ∧ c ≤ 9223372036854775807) ∧ (A = none → l.length = 0 ∧ c = 0) ∧ RL W A (cM l) ∧ ∀ q ∈ l, (0 ≤ q.1 ∧ q.1 ≤ 255) ∧ (0 ≤ q.2.2 ∧ q.2.2 ≤ 255) := by
  obtain ⟨a0, len, cap, rfl⟩ := okWide_slice Try.underlying39 hv
  obtain ⟨fuel, hf⟩ := h
  obtain ⟨A, l, c, e, h1⟩ := moves_open hf
  simp [Value.cells] at e
  exact ⟨A, l, c, by rw [e.1, e.2.1, e.2.2], h1⟩
end
end Go.Proofs.Yteeohndgkfilaaa
