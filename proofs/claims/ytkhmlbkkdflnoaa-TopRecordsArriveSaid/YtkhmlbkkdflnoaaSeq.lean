/-
  THE PLAIN LAW of a chain of one meter: minutes M, registers R.
-/
import Derived.Test.YtkhmlbkkdflnoaaRds
namespace Go.Proofs.Ytkhmlbkkdflnoaa.Ch
set_option linter.unusedVariables false
set_option linter.unusedSimpArgs false

/-- the readings 0 .. j -/
def rws (seed s : Int) (M R : Nat → Int) : Nat → Nat → Nat → Int
  | 0 => more (fun _ _ => 0) 0 (newR (fun _ _ => 0) seed 0 s (M 0) (R 0))
  | j + 1 => more (rws seed s M R j) (j + 1) (newR (rws seed s M R j) seed (j + 1) s (M (j + 1)) (R (j + 1)))
/-- minutes and registers that fit -/
def Sq (s : Int) (M R : Nat → Int) (N : Nat) : Prop := (1 ≤ s ∧ s ≤ 1000000) ∧ (∀ i, i ≤ N → (0 ≤ M i ∧ M i ≤ 52560000) ∧ 0 ≤ R i ∧ R i ≤ 1000000000) ∧ ∀ i, i < N → M i ≤ M (i + 1) ∧ R i ≤ R (i + 1)
theorem rws_old {seed s : Int} {M R : Nat → Int} {j i : Nat} (h : i ≤ j) : rws seed s M R (j + 1) i = rws seed s M R j i := more_old _ _ _ i (by omega)
theorem rws_at {seed s : Int} {M R : Nat → Int} : ∀ {j i : Nat}, i ≤ j → rws seed s M R j i 0 = s ∧ rws seed s M R j i 1 = (i : Int) + 1 ∧ rws seed s M R j i 2 = M i ∧ rws seed s M R j i 3 = R i := by
  intro j
  induction j with
  | zero =>
    intro i hi
    obtain rfl : i = 0 := by omega
    exact ⟨rfl, rfl, rfl, rfl⟩
  | succ j ih =>
    intro i hi
    rcases Nat.lt_or_ge j i with h | h
    · obtain rfl : i = j + 1 := by omega
      have e : rws seed s M R (j + 1) (j + 1) = newR (rws seed s M R j) seed (j + 1) s (M (j + 1)) (R (j + 1)) := more_new _ _ _
      rw [e]
      exact ⟨rfl, rfl, rfl, rfl⟩
    · rw [rws_old h]
      exact ih h
theorem rws_fit0 {s : Int} {M R : Nat → Int} {N : Nat} (h : Sq s M R N) : fitsB (fun _ _ => 0) 0 s (M 0) (R 0) := by
  obtain ⟨h1, h2, h3⟩ := h
  have := h2 0 (by omega)
  exact ⟨h1, by omega, this.1, this.2, fun h => by omega⟩
theorem rws_fit {seed s : Int} {M R : Nat → Int} {N j : Nat} (h : Sq s M R N) (hj : j < N) (hN : N ≤ 63) : fitsB (rws seed s M R j) (j + 1) s (M (j + 1)) (R (j + 1)) := by
  obtain ⟨h1, h2, h3⟩ := h
  have := h2 (j + 1) (by omega)
  have h4 := h3 j hj
  obtain ⟨a0, a1, a2, a3⟩ := rws_at (seed := seed) (s := s) (M := M) (R := R) (Nat.le_refl j)
  refine ⟨h1, by omega, this.1, this.2, fun _ => ?_⟩
  rw [show j + 1 - 1 = j by omega, a0, a2, a3]
  exact ⟨h4.1, fun _ => h4.2, .inl rfl⟩
theorem rws_ok {seed s : Int} {M R : Nat → Int} {N : Nat} (h : Sq s M R N) (hN : N ≤ 63) : ∀ {j : Nat}, j ≤ N → ∀ i, i < j + 1 → chB (rws seed s M R j) seed i = true := by
  intro j
  induction j with
  | zero => intro hj i hi; exact more_chB (fun i hi => by omega) (rws_fit0 h) i hi
  | succ j ih => intro hj i hi; exact more_chB (ih (by omega)) (rws_fit h (by omega) hN) i hi
theorem chk_ok {X : Nat → Nat → Int} {seed : Int} {m : Nat} (h : ∀ i, i < m → chB X seed i = true) : chk X seed m = -1 := by unfold chk; rw [fi_eq (Nat.le_refl m) h (.inl rfl), if_neg (by omega)]
theorem okB_of {X : Nat → Nat → Int} {seed : Int} {m : Nat} (h : ∀ i, i < m → chB X seed i = true) : fi (okB X) m = m := fi_eq (Nat.le_refl m) (fun j hj => by have := h j hj; unfold chB at this; rw [Bool.and_eq_true] at this; exact this.1) (.inl rfl)
theorem eSum_rws {seed s : Int} {M R : Nat → Int} {j a : Nat} (ha : 1 ≤ a) : ∀ {k : Nat}, a + k ≤ j + 1 → eSum (rws seed s M R j) a k = R (a + k - 1) - R (a - 1) := by
  intro k
  induction k with
  | zero => intro h; simp [eSum]
  | succ k ih =>
    intro h
    have i1 := ih (by omega)
    obtain ⟨a0, _, _, a3⟩ := rws_at (seed := seed) (s := s) (M := M) (R := R) (show a + k - 1 ≤ j by omega)
    obtain ⟨b0, _, _, b3⟩ := rws_at (seed := seed) (s := s) (M := M) (R := R) (show a + k ≤ j by omega)
    simp only [eSum, cnt, i1, a0, a3, b0, b3, if_true]
    rw [show a + (k + 1) - 1 = a + k by omega]
    omega
/-- a meter's register after ticks, forward -/
def rg (r : Int) (f g : Nat → Int) : Nat → Int
  | 0 => r
  | j + 1 => rg r f g j + 2300 * (f j % 81) * (g j % 4)
theorem rg_step (x y : Int) : 0 ≤ 2300 * (x % 81) * (y % 4) ∧ 2300 * (x % 81) * (y % 4) ≤ 552000 := by
  have h1 : 0 ≤ x % 81 ∧ x % 81 ≤ 80 := by omega
  have h2 : 0 ≤ y % 4 ∧ y % 4 ≤ 3 := by omega
  generalize x % 81 = a at *
  generalize y % 4 = b at *
  rcases (by omega : b = 0 ∨ b = 1 ∨ b = 2 ∨ b = 3) with rfl | rfl | rfl | rfl <;> omega
theorem rg_bd (r : Int) (f g : Nat → Int) : ∀ j, r ≤ rg r f g j ∧ rg r f g j ≤ r + j * 552000 := by
  intro j
  induction j with
  | zero => simp [rg]
  | succ j ih =>
    have := rg_step (f j) (g j)
    simp only [rg]
    push_cast
    omega
theorem rg_mono (r : Int) (f g : Nat → Int) (j : Nat) : rg r f g j ≤ rg r f g (j + 1) := by
  have := rg_step (f j) (g j)
  simp only [rg]
  omega
theorem mr_sq {s r : Int} {f g : Nat → Int} {N : Nat} (hs : 1 ≤ s ∧ s ≤ 1000000) (hr : 0 ≤ r ∧ r ≤ 4294967295) (hN : N ≤ 60) : Sq s (fun i => (i : Int) / 6) (fun i => rg r f g i / 3600) N := by
  refine ⟨hs, fun i hi => ?_, fun i hi => ?_⟩
  · have := rg_bd r f g i
    constructor
    · simp only []
      omega
    · simp only []
      have : (i : Int) * 552000 ≤ 60 * 552000 := by omega
      omega
  · have := rg_mono r f g i
    simp only []
    push_cast
    omega
end Go.Proofs.Ytkhmlbkkdflnoaa.Ch
