/-
  ARGUMENTS OPENED: a share by value, a transfer by value.
-/
import Derived.Test.YteeohndgkfilaaaRefs
import Derived.Test.YteeohndgkfilaaaOpenInts
import Derived.Test.YteeohndgkfilaaaPost
namespace Go.Proofs.Yteeohndgkfilaaa
open Go.Joins Go.ChangeShapes Go.WideShapes Go.ChangeAt Go.RowKit Go.Deep

theorem cellsShare : Try.prog.cellsOf 25 = 4 := by kernel_rfl
theorem cellsTr : Try.prog.cellsOf 27 = 2 := by kernel_rfl
theorem cellsInt : Try.prog.cellsOf 3 = 1 := by kernel_rfl
theorem cellsTs : Try.prog.cellsOf 22 = 1 := by kernel_rfl
theorem cellsIs : Try.prog.cellsOf 23 = 1 := by kernel_rfl
section
variable {H : Type} {enc : TypeId × Value → H} {W : World} {base : Nat} {sp : Nat → Bool} {held : Bool}
theorem open_tr {r : Reach} {b0 : Nat} {v : Value} {d : DataW H} {p : List MemPlace} (hv : Value.okWide Try.prog W r b0 27 v) (h : DataW.Trod enc Try.prog W base sp held 27 v d p) :
    ∃ (s t : Int), v = .agg #[.int .i64 s, .int .i64 t] := by
  obtain ⟨c0, c1, y0, y1, n, rfl, _, _, h0, h1⟩ := open_agg2 Try.underlying27 (by kernel_rfl) cellsTr hv h
  obtain ⟨s, e0, _, _⟩ := DataW.trod_int Try.underlying3 h0
  obtain ⟨t, e1, _, _⟩ := DataW.trod_int Try.underlying3 h1
  simp at e0 e1
  subst e0 e1
  exact ⟨s, t, rfl⟩
theorem nums_open {fuel : Nat} {cs : List Value} {x : DataW H × List MemPlace} (h : DataW.trod enc Try.prog W base sp held fuel 23 cs = some x) :
    ∃ (A : Option Addr) (l : List Int) (c : Nat), cs = [.slice A l.length c] ∧ (l.length ≤ c ∧ c ≤ 9223372036854775807) ∧ (A = none → l.length = 0 ∧ c = 0) ∧ RL W A (cI l) := by
  rcases open_ints Try.underlying23 Try.underlying3 cellsInt h with ⟨hcs, _⟩ | ⟨a, len, cap, zs, hcs, hb, hl, hm, hlen, _, hi, _⟩
  · exact ⟨none, [], 0, hcs, ⟨Nat.le_refl _, by omega⟩, fun _ => ⟨rfl, rfl⟩, RL_nil⟩
  · have hle : len ≤ zs.length := by rw [hlen]; split <;> omega
    have htl : (zs.take len).length = len := by simp; omega
    refine ⟨some a, zs.take len, cap, by rw [htl]; exact hcs, ⟨by rw [htl]; exact hl, by unfold maxLen at hm; omega⟩, (fun e => (by cases e)), fun j v hv => ?_⟩
    have hj : j < len := by
      have := (List.getElem?_eq_some_iff.1 hv).1
      rw [cI_len, htl] at this
      exact this
    have hz : (zs.take len)[j]? = some (zs.getD j 0) := by
      rw [List.getElem?_take, if_pos hj, List.getD_eq_getElem?_getD, List.getElem?_eq_getElem (by omega)]
      rfl
    rw [cI_get hz] at hv
    cases hv
    obtain ⟨b, o, spot⟩ := a
    have hspot : spot = none := by
      have := World.cell?_spot (hi 0 (by omega))
      simpa [Addr.add] using this
    subst hspot
    have hci := hi j (by omega)
    rw [addr_plain] at hci
    exact ⟨b, o, rfl, World.block_lt_of_cell? W ⟨b, o + j, none⟩ hci, hci⟩
theorem tr_cells {fuel : Nat} {cs : List Value} {x : DataW H × List MemPlace} (h : DataW.trod enc Try.prog W base sp held fuel 27 cs = some x) : ∃ q : Int × Int, cs = [.int .i64 q.1, .int .i64 q.2] := by
  obtain ⟨xs, n, _, rfl, hl, hlen, hf⟩ := DataW.trod_struct Try.underlying27 h
  rw [cellsTr] at hl
  match cs, hl with
  | [c0, c1], _ =>
    match xs, hlen with
    | [y0, y1], _ =>
      obtain ⟨a0, e0, _⟩ := DataW.trod_int Try.underlying3 (hf 0 _ rfl)
      obtain ⟨a1, e1, _⟩ := DataW.trod_int Try.underlying3 (hf 1 _ rfl)
      simp [cellsInt] at e0 e1
      subst e0 e1
      exact ⟨(a0, a1), rfl⟩
theorem list_of {α : Type} {P : Nat → α → Prop} : ∀ {n : Nat}, (∀ i, i < n → ∃ x, P i x) → ∃ l : List α, l.length = n ∧ ∀ i x, l[i]? = some x → P i x := by
  intro n
  induction n with
  | zero => intro _; exact ⟨[], rfl, fun i x hx => by simp at hx⟩
  | succ n ih =>
    intro h
    obtain ⟨l, hl, hp⟩ := ih fun i hi => h i (by omega)
    obtain ⟨x, hx⟩ := h n (by omega)
    refine ⟨l ++ [x], by simp [hl], fun i y hy => ?_⟩
    rcases Nat.lt_or_ge i l.length with h' | h'
    · rw [List.getElem?_append_left h'] at hy
      exact hp i y hy
    · have hi : i = n := by
        have := (List.getElem?_eq_some_iff.1 hy).1
        simp at this
        omega
      subst hi
      rw [List.getElem?_append_right h', hl, Nat.sub_self] at hy
      simp at hy
      subst hy
      exact hx
theorem cT_inv : ∀ {l : List (Int × Int)} {j : Nat} {v : Value}, (cT l)[j]? = some v → ∃ q, l[j / 2]? = some q ∧ ((j % 2 = 0 ∧ v = .int .i64 q.1) ∨ (j % 2 = 1 ∧ v = .int .i64 q.2)) := by
  intro l j v hv
  have hj : j < l.length * 2 := by
    have := (List.getElem?_eq_some_iff.1 hv).1
    rw [cT_len] at this
    exact this
  have hq := at2_get (l := l) (i := j / 2) (by omega)
  obtain ⟨h1, h2⟩ := cT_get hq
  refine ⟨_, hq, ?_⟩
  rcases Nat.mod_two_eq_zero_or_one j with h | h
  · rw [show j / 2 * 2 = j by omega, hv] at h1
    exact .inl ⟨h, Option.some.inj h1⟩
  · rw [show j / 2 * 2 + 1 = j by omega, hv] at h2
    exact .inr ⟨h, Option.some.inj h2⟩
theorem trs_open {fuel : Nat} {cs : List Value} {x : DataW H × List MemPlace} (h : DataW.trod enc Try.prog W base sp held fuel 22 cs = some x) :
    ∃ (A : Option Addr) (l : List (Int × Int)) (c : Nat), cs = [.slice A l.length c] ∧ (l.length ≤ c ∧ c ≤ 9223372036854775807) ∧ (A = none → l.length = 0 ∧ c = 0) ∧ RL W A (cT l) := by
  rcases open_slice Try.underlying22 h with ⟨hcs, _⟩ | ⟨a, len, cap, m, n, D, Pl, hcs, hb, hl, hm, hmm, _, hi⟩
  · exact ⟨none, [], 0, hcs, ⟨Nat.le_refl _, by omega⟩, fun _ => ⟨rfl, rfl⟩, RL_nil⟩
  · have hle : len ≤ m := by rw [hmm]; split <;> omega
    have hall : ∀ i, i < len → ∃ q : Int × Int, W.cell? ((a.add (i * 2)).add 0) = some (.int .i64 q.1) ∧ W.cell? ((a.add (i * 2)).add 1) = some (.int .i64 q.2) := by
      intro i h'
      obtain ⟨cs', hc, ht⟩ := hi i (by omega)
      rw [cellsTr] at hc
      obtain ⟨q, rfl⟩ := tr_cells ht
      obtain ⟨_, _, hat⟩ := World.cells?_some hc
      exact ⟨q, hat 0 (by omega), hat 1 (by omega)⟩
    obtain ⟨l, hlen, hP⟩ := list_of hall
    refine ⟨some a, l, cap, by rw [hlen]; exact hcs, ⟨by rw [hlen]; exact hl, by unfold maxLen at hm; omega⟩, (fun e => (by cases e)), fun j v hv => ?_⟩
    obtain ⟨q, hq, hv'⟩ := cT_inv hv
    obtain ⟨h0, h1⟩ := hP _ q hq
    obtain ⟨b, o, spot⟩ := a
    have hspot : spot = none := by
      have hl0 : 0 < l.length := by have := (List.getElem?_eq_some_iff.1 hq).1; omega
      have := (hP 0 _ (List.getElem?_eq_getElem hl0)).1
      simpa [Addr.add] using World.cell?_spot this
    subst hspot
    rw [addr_plain, addr_plain] at h0 h1
    refine ⟨b, o, rfl, World.block_lt_of_cell? W _ h0, ?_⟩
    rcases hv' with ⟨e, rfl⟩ | ⟨e, rfl⟩
    · rw [show o + j = o + j / 2 * 2 + 0 by omega]; exact h0
    · rw [show o + j = o + j / 2 * 2 + 1 by omega]; exact h1
theorem open_share {r : Reach} {b0 : Nat} {v : Value} {d : DataW H} {p : List MemPlace} (hv : Value.okWide Try.prog W r b0 25 v) (h : DataW.Trod enc Try.prog W base sp held 25 v d p) :
    ∃ (s t : Int) (O : List (Int × Int)) (I : List Int), SV W v s t O I := by
  obtain ⟨c0, c1, c2, c3, y0, y1, y2, y3, n, rfl, _, _, h0, h1, h2, h3⟩ := open_agg4 Try.underlying25 (by kernel_rfl) cellsShare hv h
  obtain ⟨s, e0, _, _⟩ := DataW.trod_int Try.underlying3 h0
  obtain ⟨t, e1, _, _⟩ := DataW.trod_int Try.underlying3 h1
  obtain ⟨A, O, c, e2, g1, g2, g3⟩ := trs_open h2
  obtain ⟨B, I, d', e3, k1, k2, k3⟩ := nums_open h3
  simp at e0 e1 e2 e3
  subst e0 e1 e2 e3
  exact ⟨s, t, O, I, A, c, B, d', rfl, g3, k3, g2, k2, g1, k1⟩
end
end Go.Proofs.Yteeohndgkfilaaa
