/-
  PAYMENTS, the plain law: least and greatest, what a payment does, how many there are.
-/
import Derived.Test.YtkhmlbkkdflnoaaBal
namespace Go.Proofs.Ytkhmlbkkdflnoaa
set_option linter.unusedVariables false

theorem mnI_le (y : Nat → Int) : ∀ k i, i < k → y (mnI y k) ≤ y i := by
  intro k
  induction k with
  | zero => intro i hi; omega
  | succ k ih =>
    intro i hi
    simp only [mnI]
    rcases Nat.lt_or_ge i k with h | h
    · have := ih i h
      split <;> omega
    · obtain rfl : i = k := by omega
      split <;> omega
theorem mxI_ge (y : Nat → Int) : ∀ k i, i < k → y i ≤ y (mxI y k) := by
  intro k
  induction k with
  | zero => intro i hi; omega
  | succ k ih =>
    intro i hi
    simp only [mxI]
    rcases Nat.lt_or_ge i k with h | h
    · have := ih i h
      split <;> omega
    · obtain rfl : i = k := by omega
      split <;> omega
/-- the amount of the next payment -/
def am (y : Nat → Int) (n : Nat) : Int := min (-(y (mnI y n))) (y (mxI y n))
/-- the balances behind it -/
def stp (n : Nat) (y : Nat → Int) : Nat → Int := mvd y (mnI y n) (mxI y n) (am y n)
def Yt (n : Nat) (y : Nat → Int) : Nat → Nat → Int
  | 0 => y
  | t + 1 => stp n (Yt n y t)
/-- how many are not 0 -/
def nz (y : Nat → Int) : Nat → Nat
  | 0 => 0
  | k + 1 => nz y k + (if y k = 0 then 0 else 1)
theorem nz_le (y : Nat → Int) : ∀ k, nz y k ≤ k := by
  intro k
  induction k with
  | zero => simp [nz]
  | succ k ih => simp only [nz]; split <;> omega
theorem nz_congr {y y' : Nat → Int} : ∀ k, (∀ i, i < k → (y i = 0 ↔ y' i = 0)) → nz y k = nz y' k := by
  intro k
  induction k with
  | zero => intro _; rfl
  | succ k ih =>
    intro h
    simp only [nz]
    rw [ih fun i hi => h i (by omega)]
    have := h k (by omega)
    by_cases e : y k = 0
    · rw [if_pos e, if_pos (this.1 e)]
    · rw [if_neg e, if_neg fun e' => e (this.2 e')]
theorem nz_mono {y y' : Nat → Int} : ∀ k, (∀ i, i < k → (y i = 0 → y' i = 0)) → nz y' k ≤ nz y k := by
  intro k
  induction k with
  | zero => intro _; simp [nz]
  | succ k ih =>
    intro h
    simp only [nz]
    have h1 := ih fun i hi => h i (by omega)
    have h2 := h k (by omega)
    by_cases e : y k = 0
    · rw [if_pos e, if_pos (h2 e)]; omega
    · rw [if_neg e]; split <;> omega
theorem nz_lt {y y' : Nat → Int} : ∀ k, (∀ i, i < k → (y i = 0 → y' i = 0)) → ∀ j, j < k → y j ≠ 0 → y' j = 0 → nz y' k + 1 ≤ nz y k := by
  intro k
  induction k with
  | zero => intro _ j hj; omega
  | succ k ih =>
    intro h j hj h1 h2
    simp only [nz]
    rcases Nat.lt_or_ge j k with hlt | hge
    · have h3 := ih (fun i hi => h i (by omega)) j hlt h1 h2
      have h4 := h k (by omega)
      by_cases e : y k = 0
      · rw [if_pos e, if_pos (h4 e)]; omega
      · rw [if_neg e]; split <;> omega
    · obtain rfl : j = k := by omega
      have h3 := nz_mono j fun i hi => h i (by omega)
      rw [if_neg h1, if_pos h2]
      omega
theorem nz_one {y : Nat → Int} : ∀ k j, j < k → y j ≠ 0 → 1 ≤ nz y k := by
  intro k
  induction k with
  | zero => intro j hj; omega
  | succ k ih =>
    intro j hj h
    simp only [nz]
    rcases Nat.lt_or_ge j k with hlt | hge
    · have := ih j hlt h; omega
    · obtain rfl : j = k := by omega
      rw [if_neg h]; omega
theorem nz_two {y : Nat → Int} : ∀ k i j, i < k → j < k → i ≠ j → y i ≠ 0 → y j ≠ 0 → 2 ≤ nz y k := by
  intro k
  induction k with
  | zero => intro i j hi; omega
  | succ k ih =>
    intro i j hi hj hij h1 h2
    simp only [nz]
    rcases Nat.lt_or_ge i k with a1 | a1
    · rcases Nat.lt_or_ge j k with a2 | a2
      · have := ih i j a1 a2 hij h1 h2; omega
      · obtain rfl : j = k := by omega
        have := nz_one j i a1 h1
        rw [if_neg h2]; omega
    · obtain rfl : i = k := by omega
      have := nz_one i j (by omega) h2
      rw [if_neg h1]; omega
theorem tot_upd {y : Nat → Int} : ∀ (n u d : Nat) (a : Int), tot (mvd y u d a) n = tot y n + (if u < n then a else 0) - (if d < n then a else 0) := by
  intro n
  induction n with
  | zero => intro u d a; simp [tot]
  | succ n ih =>
    intro u d a
    simp only [tot, ih]
    unfold mvd
    by_cases h1 : n = u
    · subst h1
      by_cases h2 : n = d
      · subst h2; simp
      · by_cases h3 : d < n
        · simp [h2, h3, Nat.lt_succ_of_lt h3]; omega
        · have : ¬ d < n + 1 := by omega
          simp [h2, h3, this]; omega
    · by_cases h2 : n = d
      · subst h2
        by_cases h3 : u < n
        · simp [h1, h3, Nat.lt_succ_of_lt h3]; omega
        · have : ¬ u < n + 1 := by omega
          simp [h1, h3, this]; omega
      · have e1 : (u < n + 1) = (u < n) := by apply propext; omega
        have e2 : (d < n + 1) = (d < n) := by apply propext; omega
        simp only [h1, h2, e1, e2, if_false]; omega

section
variable {n : Nat} {y : Nat → Int} (hn : 1 ≤ n) (ha : 0 < am y n)
include hn ha
theorem am_facts : mnI y n < n ∧ mxI y n < n ∧ y (mnI y n) < 0 ∧ 0 < y (mxI y n) ∧ am y n ≤ -(y (mnI y n)) ∧ am y n ≤ y (mxI y n) ∧ (am y n = -(y (mnI y n)) ∨ am y n = y (mxI y n)) ∧ mnI y n ≠ mxI y n := by
  have h1 : am y n ≤ -(y (mnI y n)) := Int.min_le_left _ _
  have h2 : am y n ≤ y (mxI y n) := Int.min_le_right _ _
  have h3 : am y n = -(y (mnI y n)) ∨ am y n = y (mxI y n) := by unfold am; omega
  refine ⟨mnI_lt y hn n (Nat.le_refl _), mxI_lt y hn n (Nat.le_refl _), by omega, by omega, h1, h2, h3, fun e => ?_⟩
  rw [← e] at h2
  omega
theorem stp_u : stp n y (mnI y n) = y (mnI y n) + am y n := by
  obtain ⟨_, _, _, _, _, _, _, h⟩ := am_facts hn ha
  simp [stp, mvd, h]
theorem stp_d : stp n y (mxI y n) = y (mxI y n) - am y n := by
  obtain ⟨_, _, _, _, _, _, _, h⟩ := am_facts hn ha
  have h' : mxI y n ≠ mnI y n := fun e => h e.symm
  simp [stp, mvd, h']
omit hn ha in
theorem stp_o {i : Nat} (h1 : i ≠ mnI y n) (h2 : i ≠ mxI y n) : stp n y i = y i := by simp [stp, mvd, h1, h2]
theorem stp_bd {B : Int} (hy : ∀ i, i < n → -B ≤ y i ∧ y i ≤ B) : ∀ i, i < n → -B ≤ stp n y i ∧ stp n y i ≤ B := by
  intro i hi
  obtain ⟨f1, f2, f3, f4, f5, f6, f7, f8⟩ := am_facts hn ha
  have b := hy i hi
  by_cases e1 : i = mnI y n
  · subst e1; rw [stp_u hn ha]; omega
  · by_cases e2 : i = mxI y n
    · subst e2; rw [stp_d hn ha]; omega
    · rw [stp_o e1 e2]; exact b
theorem stp_tot : tot (stp n y) n = tot y n := by
  obtain ⟨f1, f2, _⟩ := am_facts hn ha
  unfold stp
  rw [tot_upd, if_pos f1, if_pos f2]
  omega
theorem stp_zero : ∀ i, i < n → y i = 0 → stp n y i = 0 := by
  intro i hi h0
  obtain ⟨f1, f2, f3, f4, f5, f6, f7, f8⟩ := am_facts hn ha
  have e1 : i ≠ mnI y n := fun e => by rw [e] at h0; omega
  have e2 : i ≠ mxI y n := fun e => by rw [e] at h0; omega
  rw [stp_o e1 e2]; exact h0
theorem stp_nz : nz (stp n y) n + 1 ≤ nz y n := by
  obtain ⟨f1, f2, f3, f4, f5, f6, f7, f8⟩ := am_facts hn ha
  rcases f7 with h | h
  · exact nz_lt n (stp_zero hn ha) (mnI y n) f1 (by omega) (by rw [stp_u hn ha]; omega)
  · exact nz_lt n (stp_zero hn ha) (mxI y n) f2 (by omega) (by rw [stp_d hn ha]; omega)
theorem am_nz : 2 ≤ nz y n := by
  obtain ⟨f1, f2, f3, f4, f5, f6, f7, f8⟩ := am_facts hn ha
  exact nz_two n (mnI y n) (mxI y n) f1 f2 f8 (by omega) (by omega)
/-- the sign stays -/
theorem stp_sign : ∀ i, i < n → (stp n y i < 0 → y i < 0) ∧ (0 < stp n y i → 0 < y i) := by
  intro i hi
  obtain ⟨f1, f2, f3, f4, f5, f6, f7, f8⟩ := am_facts hn ha
  by_cases e1 : i = mnI y n
  · subst e1; rw [stp_u hn ha]; omega
  · by_cases e2 : i = mxI y n
    · subst e2; rw [stp_d hn ha]; omega
    · rw [stp_o e1 e2]; exact ⟨id, id⟩
end
theorem tot_neg {y : Nat → Int} : ∀ n, (∀ i, i < n → y i ≤ 0) → tot y n ≤ 0 ∧ (tot y n = 0 → ∀ i, i < n → y i = 0) := by
  intro n
  induction n with
  | zero => intro _; exact ⟨by simp [tot], fun _ i hi => by omega⟩
  | succ n ih =>
    intro h
    obtain ⟨h1, h2⟩ := ih fun i hi => h i (by omega)
    have h3 := h n (by omega)
    simp only [tot]
    refine ⟨by omega, fun e i hi => ?_⟩
    rcases Nat.lt_or_ge i n with h' | h'
    · exact h2 (by omega) i h'
    · obtain rfl : i = n := by omega
      omega
theorem tot_pos {y : Nat → Int} : ∀ n, (∀ i, i < n → 0 ≤ y i) → 0 ≤ tot y n ∧ (tot y n = 0 → ∀ i, i < n → y i = 0) := by
  intro n
  induction n with
  | zero => intro _; exact ⟨by simp [tot], fun _ i hi => by omega⟩
  | succ n ih =>
    intro h
    obtain ⟨h1, h2⟩ := ih fun i hi => h i (by omega)
    have h3 := h n (by omega)
    simp only [tot]
    refine ⟨by omega, fun e i hi => ?_⟩
    rcases Nat.lt_or_ge i n with h' | h'
    · exact h2 (by omega) i h'
    · obtain rfl : i = n := by omega
      omega
/-- no payment is left: all are 0 -/
theorem am_zero {n : Nat} {y : Nat → Int} (h0 : tot y n = 0) (ha : am y n ≤ 0) : ∀ i, i < n → y i = 0 := by
  have h : 0 ≤ y (mnI y n) ∨ y (mxI y n) ≤ 0 := by unfold am at ha; omega
  rcases h with h | h
  · exact (tot_pos n fun i hi => by have := mnI_le y n i hi; omega).2 h0
  · exact (tot_neg n fun i hi => by have := mxI_ge y n i hi; omega).2 h0
theorem mx_zero {n : Nat} {y : Nat → Int} (hn : 1 ≤ n) (h0 : tot y n = 0) : (am y n ≤ 0 ↔ y (mxI y n) = 0) ∧ 0 ≤ y (mxI y n) := by
  have hlt := mxI_lt y hn n (Nat.le_refl _)
  have h2 : 0 ≤ y (mxI y n) := by
    rcases Int.lt_or_le (y (mxI y n)) 0 with h | h
    · have := (tot_neg n fun i hi => by have := mxI_ge y n i hi; omega).2 h0 _ hlt
      omega
    · exact h
  refine ⟨⟨fun ha => am_zero h0 ha _ hlt, fun e => ?_⟩, h2⟩
  have : am y n ≤ y (mxI y n) := Int.min_le_right _ _
  omega

/-- t payments are made -/
def Paid (n : Nat) (y : Nat → Int) (t : Nat) : Prop := (∀ j, j < t → 0 < am (Yt n y j) n) ∧ nz (Yt n y t) n + t ≤ n ∧ (∀ i, i < n → -64000000000 ≤ Yt n y t i ∧ Yt n y t i ≤ 64000000000) ∧ tot (Yt n y t) n = 0
theorem paid_zero {n : Nat} {y : Nat → Int} (hy : ∀ i, i < n → -64000000000 ≤ y i ∧ y i ≤ 64000000000) (h0 : tot y n = 0) : Paid n y 0 := ⟨fun j hj => by omega, nz_le y n, hy, h0⟩
theorem Paid.next {n : Nat} {y : Nat → Int} {t : Nat} (h : Paid n y t) (hn : 1 ≤ n) (ha : 0 < am (Yt n y t) n) : Paid n y (t + 1) := by
  obtain ⟨h1, h2, h3, h4⟩ := h
  refine ⟨all_snoc h1 ha, ?_, stp_bd hn ha h3, ?_⟩
  · have : nz (Yt n y (t + 1)) n + 1 ≤ nz (Yt n y t) n := stp_nz hn ha
    omega
  · exact (stp_tot hn ha).trans h4
theorem Paid.room {n : Nat} {y : Nat → Int} {t : Nat} (h : Paid n y t) (hn : 1 ≤ n) (ha : 0 < am (Yt n y t) n) : t + 2 ≤ n := by
  have := am_nz hn ha
  have := h.2.1
  omega
/-- the payments' number is one alone -/
theorem paid_one {n : Nat} {y : Nat → Int} {t t' : Nat} (h : Paid n y t) (ha : am (Yt n y t) n ≤ 0) (h' : Paid n y t') (ha' : am (Yt n y t') n ≤ 0) : t = t' := by
  rcases Nat.lt_trichotomy t t' with hlt | heq | hgt
  · have := h'.1 t hlt; omega
  · exact heq
  · have := h.1 t' hgt; omega
end Go.Proofs.Ytkhmlbkkdflnoaa
