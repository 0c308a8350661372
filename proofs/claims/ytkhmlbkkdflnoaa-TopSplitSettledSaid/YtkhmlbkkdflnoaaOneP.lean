/-
  THE PLAIN LAW of one payee: balances of which only the first may be above 0.
-/
import Derived.Test.YtkhmlbkkdflnoaaSetC
namespace Go.Proofs.Ytkhmlbkkdflnoaa
open Go.RowKit
set_option linter.unusedVariables false
set_option linter.unusedSimpArgs false

theorem tot_get {X : Nat → Nat → Int} {m : Nat} : ∀ k, allR m X k → tot (get X k) m = 0 := by
  intro k
  induction k with
  | zero => intro _; simp only [get]; exact (show ∀ j, tot (fun _ => 0) j = 0 from fun j => by induction j with | zero => rfl | succ j ih => simp [tot, ih]) m
  | succ k ih =>
    intro h
    have h1 := okR_iff.1 (h k (by omega))
    simp only [get]
    rw [tot_upd, ih fun i hi => h i (by omega), if_pos (by omega), if_pos (by omega)]
    omega
/-- all but the first owe -/
def OneP (m : Nat) (y : Nat → Int) : Prop := 1 ≤ m ∧ (∀ i, 1 ≤ i → i < m → y i ≤ 0) ∧ tot y m = 0
theorem OneP.step {m : Nat} {y : Nat → Int} (h : OneP m y) (ha : 0 < am y m) :
    mxI y m = 0 ∧ (1 ≤ mnI y m ∧ mnI y m < m) ∧ am y m = -(y (mnI y m)) ∧ y (mnI y m) < 0 ∧ stp m y 0 = y 0 - am y m ∧ stp m y (mnI y m) = 0 ∧ (∀ i, i ≠ 0 → i ≠ mnI y m → stp m y i = y i) ∧ OneP m (stp m y) := by
  obtain ⟨hm, hle, h0⟩ := h
  obtain ⟨f1, f2, f3, f4, f5, f6, f7, f8⟩ := am_facts hm ha
  have x0 : mxI y m = 0 := by
    rcases Nat.eq_zero_or_pos (mxI y m) with e | e
    · exact e
    · have := hle _ e f2
      omega
  have hu := stp_u hm ha
  have hd := stp_d hm ha
  have ho : ∀ i, i ≠ 0 → i ≠ mnI y m → stp m y i = y i := fun i h1 h2 => stp_o h2 (by rw [x0]; exact h1)
  have ht := stp_tot hm ha
  rw [h0] at ht
  have n1 : 1 ≤ mnI y m := by omega
  rw [x0] at hd f4 f6 f7
  have hle' : ∀ i, 1 ≤ i → i < m → stp m y i ≤ 0 := fun i h1 h2 => by
    by_cases e : i = mnI y m
    · rw [e, hu]; omega
    · rw [ho i (by omega) e]; exact hle i h1 h2
  have hA : am y m = -(y (mnI y m)) := by
    rcases f7 with h | h
    · exact h
    · have hz := (tot_neg (y := stp m y) m fun i hi => by
        rcases Nat.eq_zero_or_pos i with e | e
        · rw [e, hd]; omega
        · exact hle' i e hi).2 ht _ f1
      rw [hu] at hz
      omega
  refine ⟨x0, ⟨n1, f1⟩, hA, f3, hd, ?_, ho, hm, hle', ht⟩
  rw [hu]
  omega
/-- what t payments bring -/
def sumP (m : Nat) (y : Nat → Int) : Nat → Int
  | 0 => 0
  | t + 1 => sumP m y t + pym m y t 2
theorem pym_0 {m : Nat} {y : Nat → Int} {t : Nat} : pym m y t 0 = (mnI (Yt m y t) m : Int) := rfl
theorem pym_1 {m : Nat} {y : Nat → Int} {t : Nat} : pym m y t 1 = (mxI (Yt m y t) m : Int) := rfl
theorem pym_2 {m : Nat} {y : Nat → Int} {t : Nat} : pym m y t 2 = am (Yt m y t) m := rfl
theorem one_all {m : Nat} {y : Nat → Int} {T : Nat} (h : OneP m y) (hp : ∀ j, j < T → 0 < am (Yt m y j) m) : ∀ t, t ≤ T → OneP m (Yt m y t) ∧ Yt m y t 0 = y 0 - sumP m y t ∧ ∀ i, 1 ≤ i → i < m → Yt m y t i = y i ∨ Yt m y t i = 0 := by
  intro t
  induction t with
  | zero => intro _; exact ⟨h, by simp [Yt, sumP], fun i _ _ => .inl rfl⟩
  | succ t ih =>
    intro ht
    obtain ⟨h1, h2, h3⟩ := ih (by omega)
    obtain ⟨s1, s2, s3, s4, s5, s6, s7, s8⟩ := h1.step (hp t (by omega))
    refine ⟨s8, ?_, fun i hi1 hi2 => ?_⟩
    · show stp m (Yt m y t) 0 = _
      rw [s5, h2]
      simp only [sumP, pym_2]
      omega
    · show stp m (Yt m y t) i = _ ∨ stp m (Yt m y t) i = 0
      by_cases e : i = mnI (Yt m y t) m
      · exact .inr (by rw [e]; exact s6)
      · rw [s7 i (by omega) e]
        exact h3 i hi1 hi2
theorem one_pays {m : Nat} {y : Nat → Int} {T : Nat} (h : OneP m y) (hp : ∀ j, j < T → 0 < am (Yt m y j) m) {t : Nat} (ht : t < T) :
    pym m y t 1 = 0 ∧ ∃ i : Nat, (1 ≤ i ∧ i < m) ∧ pym m y t 0 = i ∧ pym m y t 2 = -(y i) ∧ 0 < pym m y t 2 := by
  obtain ⟨h1, h2, h3⟩ := one_all h hp t (by omega)
  obtain ⟨s1, s2, s3, s4, s5, s6, s7, s8⟩ := h1.step (hp t ht)
  refine ⟨by rw [pym_1, s1]; rfl, mnI (Yt m y t) m, s2, pym_0, ?_, by rw [pym_2]; exact hp t ht⟩
  rw [pym_2, s3]
  rcases h3 _ s2.1 s2.2 with e | e
  · rw [e]
  · omega
theorem one_sum {m : Nat} {y : Nat → Int} {T : Nat} (h : OneP m y) (hp : Paid m y T) (ha : am (Yt m y T) m ≤ 0) : sumP m y T = y 0 := by
  obtain ⟨h1, h2, h3⟩ := one_all h hp.1 T (Nat.le_refl _)
  have := am_zero hp.2.2.2 ha 0 h.1
  omega
theorem sumP_bd {m : Nat} {y : Nat → Int} {T : Nat} (h : OneP m y) (hp : Paid m y T) : ∀ t, t ≤ T → 0 ≤ sumP m y t ∧ (t < T → 0 ≤ y 0 - sumP m y t - pym m y t 2 ∧ 0 < pym m y t 2) := by
  intro t
  induction t with
  | zero =>
    intro ht
    refine ⟨Int.le_refl _, fun hlt => ?_⟩
    obtain ⟨h1, h2, h3⟩ := one_all h hp.1 0 (by omega)
    obtain ⟨s1, s2, s3, s4, s5, s6, s7, s8⟩ := h1.step (hp.1 0 hlt)
    have := am_facts h1.1 (hp.1 0 hlt)
    rw [s1] at this
    rw [← h2, pym_2]
    have := hp.1 0 hlt
    omega
  | succ t ih =>
    intro ht
    obtain ⟨i1, i2⟩ := ih (by omega)
    have i3 := i2 (by omega)
    refine ⟨by simp only [sumP]; omega, fun hlt => ?_⟩
    obtain ⟨h1, h2, h3⟩ := one_all h hp.1 (t + 1) (by omega)
    obtain ⟨s1, s2, s3, s4, s5, s6, s7, s8⟩ := h1.step (hp.1 (t + 1) hlt)
    have := am_facts h1.1 (hp.1 (t + 1) hlt)
    rw [s1] at this
    rw [← h2, pym_2]
    have := hp.1 (t + 1) hlt
    omega
/-- how many owe, of 1 .. k -/
def owe (y : Nat → Int) : Nat → Nat
  | 0 => 0
  | k + 1 => owe y k + if y (k + 1) = 0 then 0 else 1
theorem owe_congr {y z : Nat → Int} : ∀ k, (∀ i, 1 ≤ i → i ≤ k → y i = z i) → owe y k = owe z k := by
  intro k
  induction k with
  | zero => intro _; rfl
  | succ k ih => intro h; simp only [owe]; rw [ih fun i h1 h2 => h i h1 (by omega), h (k + 1) (by omega) (by omega)]
theorem owe_step {y z : Nat → Int} {u : Nat} (hu : 1 ≤ u) (hy : y u ≠ 0) (hz : z u = 0) (ho : ∀ i, i ≠ 0 → i ≠ u → z i = y i) : ∀ k, u ≤ k → owe y k = owe z k + 1 := by
  intro k
  induction k with
  | zero => intro h; omega
  | succ k ih =>
    intro h
    simp only [owe]
    by_cases e : u = k + 1
    · rw [← e, if_neg hy, if_pos hz, owe_congr (y := y) (z := z) k fun i h1 h2 => (ho i (by omega) (by omega)).symm]
    · rw [ih (by omega), ho (k + 1) (by omega) (by omega)]
      omega
theorem owe_zero {y : Nat → Int} : ∀ k, (∀ i, 1 ≤ i → i ≤ k → y i = 0) → owe y k = 0 := by
  intro k
  induction k with
  | zero => intro _; rfl
  | succ k ih => intro h; simp only [owe]; rw [ih fun i h1 h2 => h i h1 (by omega), if_pos (h (k + 1) (by omega) (by omega))]
theorem one_count {m : Nat} {y : Nat → Int} {T : Nat} (h : OneP m y) (hp : Paid m y T) (ha : am (Yt m y T) m ≤ 0) : owe y (m - 1) = T := by
  have hm := h.1
  have h1 : ∀ t, t ≤ T → owe y (m - 1) = owe (Yt m y t) (m - 1) + t := by
    intro t
    induction t with
    | zero => intro _; rfl
    | succ t ih =>
      intro ht
      obtain ⟨s1, s2, s3, s4, s5, s6, s7, s8⟩ := (one_all h hp.1 t (by omega)).1.step (hp.1 t (by omega))
      have := owe_step (y := Yt m y t) (z := Yt m y (t + 1)) s2.1 (by omega) s6 s7 (m - 1) (by omega)
      have := ih (by omega)
      omega
  have := h1 T (Nat.le_refl _)
  rw [owe_zero (m - 1) fun i hi1 hi2 => am_zero hp.2.2.2 ha i (by omega)] at this
  omega
/-- the sum of amounts -/
def asum (X : Nat → Nat → Int) : Nat → Int
  | 0 => 0
  | k + 1 => asum X k + X k 8
theorem get_host {X : Nat → Nat → Int} : ∀ k, (∀ i, i < k → X i 4 = 0 ∧ 1 ≤ X i 3 ∧ 0 ≤ X i 8) → get X k 0 = asum X k ∧ ∀ i, 1 ≤ i → get X k i ≤ 0 := by
  intro k
  induction k with
  | zero => intro _; exact ⟨rfl, fun i _ => Int.le_refl _⟩
  | succ k ih =>
    intro h
    obtain ⟨h1, h2⟩ := ih fun i hi => h i (by omega)
    obtain ⟨a1, a2, a3⟩ := h k (by omega)
    refine ⟨?_, fun i hi => ?_⟩
    · simp only [get, mvd, asum]
      rw [h1, if_pos (by omega), if_neg (by omega)]
      omega
    · simp only [get, mvd]
      have := h2 i hi
      rw [if_neg (by omega)]
      split <;> omega
theorem get_one {X : Nat → Nat → Int} {m k : Nat} (hm : 1 ≤ m) (hX : ∀ i, i < k → X i 4 = 0 ∧ 1 ≤ X i 3 ∧ 0 ≤ X i 8) (ha : allR m X k) : OneP m (get X k) :=
  ⟨hm, fun i h1 _ => (get_host k hX).2 i h1, tot_get k ha⟩
theorem get_bal {X : Nat → Nat → Int} {m k : Nat} (hm : 1 ≤ m ∧ m ≤ 8) (hk : k ≤ 64) (ha : allR m X k) : balB (get X k) m = true :=
  balB_iff.2 ⟨hm, fun i _ => by have := get_bd k ha i; omega, tot_get k ha⟩
theorem asum_bd {X : Nat → Nat → Int} : ∀ k, (∀ i, i < k → 0 ≤ X i 8 ∧ X i 8 ≤ 1000000000) → 0 ≤ asum X k ∧ asum X k ≤ k * 1000000000 := by
  intro k
  induction k with
  | zero => intro _; exact ⟨Int.le_refl _, by simp [asum]⟩
  | succ k ih =>
    intro h
    have h1 := ih fun i hi => h i (by omega)
    have h2 := h k (by omega)
    simp only [asum]
    push_cast
    omega
end Go.Proofs.Ytkhmlbkkdflnoaa
