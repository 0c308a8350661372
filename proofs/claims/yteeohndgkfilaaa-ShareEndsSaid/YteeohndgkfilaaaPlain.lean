/-
  THE PLAIN LAW of share: what is sent, received and acknowledged leaves a share valid.
-/
import Derived.Test.YteeohndgkfilaaaAck
namespace Go.Proofs.Yteeohndgkfilaaa
set_option linter.unusedVariables false

theorem at1_el {l : List Int} {i : Nat} (h : i < l.length) : at1 l i = l[i] := by simp [at1, List.getD_eq_getElem?_getD, h]
theorem at2_el {l : List (Int × Int)} {i : Nat} (h : i < l.length) : at2 l i = l[i] := by simp [at2, List.getD_eq_getElem?_getD, h]
theorem inc_iff {l : List Int} : Inc l ↔ l.Pairwise (· < ·) := by
  rw [List.pairwise_iff_getElem]
  constructor
  · intro h i j hi hj hij
    have := inc_lt h i j hij hj
    rw [at1_el hi, at1_el hj] at this
    exact this
  · intro h i hi
    rw [at1_el (by omega), at1_el hi]
    exact h i (i + 1) (by omega) hi (by omega)
theorem incT_iff {l : List (Int × Int)} : IncT l ↔ l.Pairwise (fun p q => p.1 < q.1) := by
  rw [List.pairwise_iff_getElem]
  constructor
  · intro h i j hi hj hij
    have := incT_lt h i j hij hj
    rw [at2_el hi, at2_el hj] at this
    exact this
  · intro h i hi
    rw [at2_el (by omega), at2_el hi]
    exact h i (i + 1) (by omega) hi (by omega)
theorem all2 {l : List (Int × Int)} {P : Int × Int → Prop} : (∀ i, i < l.length → P (at2 l i)) ↔ ∀ p ∈ l, P p := by
  constructor
  · intro h p hp
    obtain ⟨i, hi, rfl⟩ := mem2_at.1 hp
    exact h i hi
  · intro h i hi
    exact h _ (mem2_at.2 ⟨i, hi, rfl⟩)
theorem all1 {l : List Int} {P : Int → Prop} : (∀ i, i < l.length → P (at1 l i)) ↔ ∀ p ∈ l, P p := by
  constructor
  · intro h p hp
    obtain ⟨i, hi, rfl⟩ := mem_at.1 hp
    exact h i hi
  · intro h i hi
    exact h _ (mem_at.2 ⟨i, hi, rfl⟩)
theorem vS_iff {h nx : Int} {O : List (Int × Int)} {I : List Int} : vS h nx O I ↔ ((0 ≤ h ∧ h ≤ 1000) ∧ 1 ≤ nx ∧ nx ≤ 1000001) ∧ (O.length ≤ 64 ∧ I.length ≤ 64) ∧ (∀ p ∈ O, vT p = true ∧ p.1 < nx) ∧ (∀ x ∈ I, isN x = true) ∧ O.Pairwise (fun p q => p.1 < q.1) ∧ I.Pairwise (· < ·) := by
  unfold vS
  rw [inc_iff, incT_iff, all2 (P := fun p => vT p = true ∧ p.1 < nx), all1 (P := fun x => isN x = true)]
theorem mem_insO {x y : Int} : ∀ {l : List Int}, y ∈ insO x l ↔ y = x ∨ y ∈ l := by
  intro l
  induction l with
  | nil => simp [insO]
  | cons z l ih =>
    simp only [insO]
    split
    · simp
    · simp only [List.mem_cons, ih]
      constructor
      · rintro (h | h | h)
        · exact .inr (.inl h)
        · exact .inl h
        · exact .inr (.inr h)
      · rintro (h | h | h)
        · exact .inr (.inl h)
        · exact .inl h
        · exact .inr (.inr h)
theorem insO_inc {x : Int} : ∀ {l : List Int}, l.Pairwise (· < ·) → x ∉ l → (insO x l).Pairwise (· < ·) := by
  intro l
  induction l with
  | nil => intro _ _; simp [insO]
  | cons z l ih =>
    intro h hx
    obtain ⟨h1, h2⟩ := List.pairwise_cons.1 h
    simp only [List.mem_cons, not_or] at hx
    simp only [insO]
    split
    · rename_i hlt
      refine List.pairwise_cons.2 ⟨fun y hy => ?_, h⟩
      rcases List.mem_cons.1 hy with rfl | hy
      · exact hlt
      · have := h1 y hy; omega
    · rename_i hge
      refine List.pairwise_cons.2 ⟨fun y hy => ?_, ih h2 hx.2⟩
      rcases mem_insO.1 hy with rfl | hy
      · have := hx.1; omega
      · exact h1 y hy
theorem mem_wo {x : Int} {l : List (Int × Int)} {p : Int × Int} : p ∈ wo x l ↔ p ∈ l ∧ p.1 ≠ x := by simp [wo]
theorem hasT_iff {x : Int} {l : List (Int × Int)} : hasT x l ↔ ∃ p ∈ l, p.1 = x := by
  constructor
  · rintro ⟨i, hi, he⟩; exact ⟨_, mem2_at.2 ⟨i, hi, rfl⟩, he⟩
  · rintro ⟨p, hp, he⟩
    obtain ⟨i, hi, rfl⟩ := mem2_at.1 hp
    exact ⟨i, hi, he⟩
/-- a share that has sent -/
theorem vS_send {h nx a : Int} {O : List (Int × Int)} {I : List Int} (hv : vS h nx O I) (ha : 1 ≤ a ∧ a ≤ 1000) (hh : a ≤ h) (h64 : O.length ≠ 64) (hnx : nx ≤ 1000000) : vS (h - a) (nx + 1) (O ++ [(nx, a)]) I := by
  rw [vS_iff] at hv ⊢
  obtain ⟨h1, h2, h3, h4, h5, h6⟩ := hv
  refine ⟨by omega, ⟨by simp; omega, h2.2⟩, fun p hp => ?_, h4, ?_, h6⟩
  · rcases List.mem_append.1 hp with hp | hp
    · have := h3 p hp; exact ⟨this.1, by omega⟩
    · obtain rfl : p = (nx, a) := by simpa using hp
      exact ⟨vT_iff.2 ⟨by simp only []; omega, by simp only []; omega⟩, by simp only []; omega⟩
  · rw [List.pairwise_append]
    refine ⟨h5, by simp, fun p hp q hq => ?_⟩
    obtain rfl : q = (nx, a) := by simpa using hq
    exact (h3 p hp).2
/-- .. received -/
theorem vS_recv {h nx x y : Int} {O : List (Int × Int)} {I : List Int} (hv : vS h nx O I) (ht : vT (x, y) = true) (hx : x ∉ I) (h64 : I.length ≠ 64) (hr : h + y ≤ 1000) : vS (h + y) nx O (insO x I) := by
  rw [vS_iff] at hv ⊢
  obtain ⟨h1, h2, h3, h4, h5, h6⟩ := hv
  have hy := vT_iff.1 ht
  simp only [] at hy
  refine ⟨by omega, ⟨h2.1, by rw [insO_len]; omega⟩, h3, fun z hz => ?_, h5, insO_inc h6 hx⟩
  rcases mem_insO.1 hz with rfl | hz
  · exact isN_iff.2 hy.1
  · exact h4 z hz
/-- .. been acknowledged -/
theorem vS_ack {h nx x : Int} {O : List (Int × Int)} {I : List Int} (hv : vS h nx O I) : vS h nx (wo x O) I := by
  rw [vS_iff] at hv ⊢
  obtain ⟨h1, h2, h3, h4, h5, h6⟩ := hv
  refine ⟨h1, ⟨?_, h2.2⟩, fun p hp => h3 p (mem_wo.1 hp).1, h4, h5.filter _, h6⟩
  have : (wo x O).length ≤ O.length := List.length_filter_le _ _
  omega
end Go.Proofs.Yteeohndgkfilaaa
