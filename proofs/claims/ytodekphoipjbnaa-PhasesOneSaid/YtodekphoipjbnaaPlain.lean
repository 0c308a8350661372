/-
  PLAIN FACTS on the current of the neutral conductor: no program in sight.
-/
namespace Go.Proofs.Ytodekphoipjbnaa

/-- n is the least number whose doubled square is at least t -/
def IsRoot (t n : Int) : Prop := 0 ≤ n ∧ t ≤ 2 * n * n ∧ (n = 0 ∨ 2 * (n - 1) * (n - 1) < t)
theorem sq_mono {a b : Int} (h0 : 0 ≤ a) (h : a ≤ b) : 2 * a * a ≤ 2 * b * b := by
  have h1 : a * a ≤ b * b := Int.mul_le_mul h h h0 (by omega)
  have e1 : 2 * a * a = 2 * (a * a) := by rw [Int.mul_assoc]
  have e2 : 2 * b * b = 2 * (b * b) := by rw [Int.mul_assoc]
  omega
theorem IsRoot.le {t n m : Int} (h : IsRoot t n) (h0 : 0 ≤ m) (hm : t ≤ 2 * m * m) : n ≤ m := by
  rcases Int.lt_or_le m n with hlt | hge
  · exfalso
    rcases h.2.2 with e | e
    · omega
    · have := sq_mono (a := m) (b := n - 1) h0 (by omega)
      omega
  · exact hge
theorem IsRoot.uniq {t n m : Int} (h : IsRoot t n) (g : IsRoot t m) : n = m := Int.le_antisymm (h.le g.1 g.2.1) (g.le h.1 h.2.1)

open Classical in
/-- that number -/
noncomputable def root (t : Int) : Int := if h : ∃ n, IsRoot t n then choose h else 0
theorem root_eq {t n : Int} (h : IsRoot t n) : root t = n := by
  unfold root
  rw [dif_pos ⟨n, h⟩]
  exact (Classical.choose_spec (⟨n, h⟩ : ∃ n, IsRoot t n)).uniq h

/-- twice the square of the exact current -/
def tw (a b c : Int) : Int := (a - b) * (a - b) + (b - c) * (b - c) + (c - a) * (c - a)
theorem tw_eq (a b c : Int) : tw a b c = 2 * (a * a + b * b + c * c - a * b - b * c - c * a) := by unfold tw; grind
theorem sq_nonneg (x : Int) : 0 ≤ x * x := by
  rcases Int.le_total 0 x with h | h
  · exact Int.mul_nonneg h h
  · exact Int.mul_nonneg_of_nonpos_of_nonpos h h
theorem sq_le {x m : Int} (h1 : -m ≤ x) (h2 : x ≤ m) : x * x ≤ m * m := by
  rcases Int.le_total 0 x with h | h
  · exact Int.mul_le_mul h2 h2 h (by omega)
  · have h3 : -x * -x ≤ m * m := Int.mul_le_mul (by omega) (by omega) (by omega) (by omega)
    rwa [Int.neg_mul_neg] at h3
/-- a number whose square is at most another one's is at most that one -/
theorem le_of_sq {x m : Int} (hm : 0 ≤ m) (h : x * x ≤ m * m) : x ≤ m := by
  rcases Int.lt_or_le m x with hlt | hge
  · exfalso
    have h1 : (m + 1) * (m + 1) ≤ x * x := Int.mul_le_mul (by omega) (by omega) (by omega) (by omega)
    have e : (m + 1) * (m + 1) = m * m + 2 * m + 1 := by grind
    omega
  · exact hge

def okA (x : Int) : Bool := decide (0 ≤ x ∧ x ≤ 1000)
def ok3 (a b c : Int) : Bool := okA a && okA b && okA c
theorem okA_iff {x : Int} : okA x = true ↔ 0 ≤ x ∧ x ≤ 1000 := by simp [okA]
theorem ok3_iff {a b c : Int} : ok3 a b c = true ↔ (0 ≤ a ∧ a ≤ 1000) ∧ (0 ≤ b ∧ b ≤ 1000) ∧ (0 ≤ c ∧ c ≤ 1000) := by simp [ok3, okA]; omega

/-- the spread of three numbers bounds twice the square -/
theorem tw_le {a b c lo hi : Int} (h1 : lo ≤ a ∧ a ≤ hi) (h2 : lo ≤ b ∧ b ≤ hi) (h3 : lo ≤ c ∧ c ≤ hi) : tw a b c ≤ 2 * (hi - lo) * (hi - lo) := by
  -- one of the three differences is the sum of the two others, of one sign: order the numbers
  have key : ∀ x y : Int, 0 ≤ x → 0 ≤ y → x + y ≤ hi - lo → x * x + y * y + (x + y) * (x + y) ≤ 2 * (hi - lo) * (hi - lo) := by
    intro x y hx hy hxy
    have m1 : (x + y) * (x + y) ≤ (hi - lo) * (hi - lo) := sq_le (by omega) hxy
    have m2 : 0 ≤ x * y := Int.mul_nonneg hx hy
    have e : (x + y) * (x + y) = x * x + 2 * (x * y) + y * y := by grind
    have e2 : 2 * (hi - lo) * (hi - lo) = 2 * ((hi - lo) * (hi - lo)) := by rw [Int.mul_assoc]
    omega
  unfold tw
  rcases Int.le_total a b with hab | hab <;> rcases Int.le_total b c with hbc | hbc <;> rcases Int.le_total a c with hac | hac
  · have := key (b - a) (c - b) (by omega) (by omega) (by omega); grind
  · have := key (b - a) (c - b) (by omega) (by omega) (by omega); grind
  · have := key (c - a) (b - c) (by omega) (by omega) (by omega); grind
  · have := key (a - c) (b - a) (by omega) (by omega) (by omega); grind
  · have := key (a - b) (c - a) (by omega) (by omega) (by omega); grind
  · have := key (c - b) (a - c) (by omega) (by omega) (by omega); grind
  · have := key (b - c) (a - b) (by omega) (by omega) (by omega); grind
  · have := key (b - c) (a - b) (by omega) (by omega) (by omega); grind
theorem tw_nonneg (a b c : Int) : 0 ≤ tw a b c := by
  have := sq_nonneg (a - b); have := sq_nonneg (b - c); have := sq_nonneg (c - a)
  unfold tw; omega
theorem tw_zero {a b c : Int} : tw a b c = 0 ↔ a = b ∧ b = c := by
  constructor
  · intro h
    have h1 := sq_nonneg (a - b); have h2 := sq_nonneg (b - c); have h3 := sq_nonneg (c - a)
    unfold tw at h
    have e1 : (a - b) * (a - b) = 0 := by omega
    have e2 : (b - c) * (b - c) = 0 := by omega
    have f1 : a - b = 0 := by rcases Int.mul_eq_zero.1 e1 with g | g <;> exact g
    have f2 : b - c = 0 := by rcases Int.mul_eq_zero.1 e2 with g | g <;> exact g
    omega
  · rintro ⟨rfl, rfl⟩
    simp [tw]
theorem tw_shift (a b c d : Int) : tw (a + d) (b + d) (c + d) = tw a b c := by unfold tw; grind
theorem tw_one (a : Int) : tw a 0 0 = 2 * a * a := by unfold tw; grind
theorem tw_one2 (a : Int) : tw 0 a 0 = 2 * a * a := by unfold tw; grind
theorem tw_one3 (a : Int) : tw 0 0 a = 2 * a * a := by unfold tw; grind
theorem tw_rot (a b c : Int) : tw b c a = tw a b c := by unfold tw; omega
theorem tw_rot2 (a b c : Int) : tw c a b = tw a b c := by unfold tw; omega
theorem tw_swap (a b c : Int) : tw b a c = tw a b c := by unfold tw; grind
theorem tw_swap2 (a b c : Int) : tw a c b = tw a b c := by unfold tw; grind
theorem tw_swap3 (a b c : Int) : tw c b a = tw a b c := by unfold tw; grind

theorem root_is {a b c : Int} (h : ok3 a b c = true) : IsRoot (tw a b c) (root (tw a b c)) := by
  have hb := ok3_iff.1 h
  have hle := tw_le (lo := 0) (hi := 1000) hb.1 hb.2.1 hb.2.2
  -- search: the least n up to 1000
  have search : ∀ k : Nat, (∃ n, IsRoot (tw a b c) n) ∨ (∀ m : Int, 0 ≤ m → m < k → 2 * m * m < tw a b c) := by
    intro k
    induction k with
    | zero => exact .inr fun m h0 h1 => by omega
    | succ k ih =>
      rcases ih with ih | ih
      · exact .inl ih
      · by_cases hk : tw a b c ≤ 2 * (k : Int) * k
        · refine .inl ⟨k, by omega, hk, ?_⟩
          by_cases hz : k = 0
          · exact .inl (by omega)
          · exact .inr (ih (k - 1) (by omega) (by omega))
        · refine .inr fun m h0 h1 => ?_
          by_cases hm : m < k
          · exact ih m h0 hm
          · have : m = k := by omega
            subst this
            omega
  rcases search 1001 with ⟨n, hn⟩ | hs
  · rw [root_eq hn]; exact hn
  · exfalso
    have := hs 1000 (by omega) (by omega)
    omega
theorem root_bd {a b c : Int} (h : ok3 a b c = true) : 0 ≤ root (tw a b c) ∧ root (tw a b c) ≤ 1000 := by
  have hr := root_is h
  have hb := ok3_iff.1 h
  exact ⟨hr.1, hr.le (by omega) (tw_le (lo := 0) (hi := 1000) hb.1 hb.2.1 hb.2.2)⟩

/-- the triangle's inequality -/
theorem tw_sum {a b c d e f n m : Int} (hn0 : 0 ≤ n) (hm0 : 0 ≤ m) (hn : tw a b c ≤ 2 * n * n) (hm : tw d e f ≤ 2 * m * m) : tw (a + d) (b + e) (c + f) ≤ 2 * (n + m) * (n + m) := by
  -- p, r and s, t: the differences; q = p p + p r + r r
  obtain ⟨p, hp⟩ : ∃ p, p = a - b := ⟨_, rfl⟩
  obtain ⟨r, hr⟩ : ∃ r, r = b - c := ⟨_, rfl⟩
  obtain ⟨s, hs⟩ : ∃ s, s = d - e := ⟨_, rfl⟩
  obtain ⟨t, ht⟩ : ∃ t, t = e - f := ⟨_, rfl⟩
  have q1 : tw a b c = 2 * (p * p + p * r + r * r) := by subst hp hr; unfold tw; grind
  have q2 : tw d e f = 2 * (s * s + s * t + t * t) := by subst hs ht; unfold tw; grind
  have q3 : tw (a + d) (b + e) (c + f) = 2 * (p * p + p * r + r * r) + 2 * (s * s + s * t + t * t) + 2 * (2 * (p * s) + p * t + r * s + 2 * (r * t)) := by subst hp hr hs ht; unfold tw; grind
  obtain ⟨A, hA⟩ : ∃ A, A = p * p + p * r + r * r := ⟨_, rfl⟩
  obtain ⟨B, hB⟩ : ∃ B, B = s * s + s * t + t * t := ⟨_, rfl⟩
  obtain ⟨C, hC⟩ : ∃ C, C = 2 * (p * s) + p * t + r * s + 2 * (r * t) := ⟨_, rfl⟩
  rw [← hA] at q1 q3
  rw [← hB] at q2 q3
  rw [← hC] at q3
  have cs : C * C + 3 * ((p * t - r * s) * (p * t - r * s)) = 4 * (A * B) := by subst hA hB hC; grind
  have hz := sq_nonneg (p * t - r * s)
  have hA0 : 0 ≤ A := by have := tw_nonneg a b c; omega
  have hB0 : 0 ≤ B := by have := tw_nonneg d e f; omega
  have en : 2 * n * n = 2 * (n * n) := by rw [Int.mul_assoc]
  have em : 2 * m * m = 2 * (m * m) := by rw [Int.mul_assoc]
  have hAn : A ≤ n * n := by omega
  have hBm : B ≤ m * m := by omega
  have hAB : A * B ≤ (n * n) * (m * m) := Int.mul_le_mul hAn hBm hB0 (sq_nonneg n)
  have e4 : (2 * (n * m)) * (2 * (n * m)) = 4 * ((n * n) * (m * m)) := by grind
  have hC2 : C * C ≤ (2 * (n * m)) * (2 * (n * m)) := by omega
  have hCle : C ≤ 2 * (n * m) := le_of_sq (by have := Int.mul_nonneg hn0 hm0; omega) hC2
  have e5 : 2 * (n + m) * (n + m) = 2 * (n * n) + 2 * (m * m) + 4 * (n * m) := by grind
  omega
theorem ok3_mk {a b c : Int} (ha : 0 ≤ a ∧ a ≤ 1000) (hb : 0 ≤ b ∧ b ≤ 1000) (hc : 0 ≤ c ∧ c ≤ 1000) : ok3 a b c = true := ok3_iff.2 ⟨ha, hb, hc⟩
theorem root_one {a : Int} (h : 0 ≤ a) : root (2 * a * a) = a := by
  refine root_eq ⟨h, Int.le_refl _, ?_⟩
  by_cases hz : a = 0
  · exact .inl hz
  · refine .inr ?_
    have : 2 * a * a = 2 * (a - 1) * (a - 1) + 4 * (a - 1) + 2 := by grind
    omega
end Go.Proofs.Ytodekphoipjbnaa
