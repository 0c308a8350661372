/-
  THE PLAIN LAWS of the days that count.
-/
import Derived.Test.YtdeeaehdbaoloaaMem
namespace Go.Proofs.Ytdeeaehdbaoloaa

/-- does day i count for day D? -/
def ctB (p : Nat → Bool) (i D : Nat) : Bool := decide (i < D) && (!p i && decide ((ds p D).length - (ds p (i + 1)).length < 5))
theorem ds_mono (p : Nat → Bool) {i k : Nat} (h : i ≤ k) : (ds p i).length ≤ (ds p k).length := by
  induction k with
  | zero => obtain rfl : i = 0 := by omega
            exact Nat.le_refl _
  | succ k ih =>
    rcases Nat.lt_or_ge i (k + 1) with hlt | hge
    · have := ih (by omega)
      simp only [ds]
      split
      · exact this
      · simp; omega
    · obtain rfl : i = k + 1 := by omega
      exact Nat.le_refl _
theorem ds_succ_hit {p : Nat → Bool} {k : Nat} (h : p k = false) : ds p (k + 1) = k :: ds p k := by simp [ds, h]
theorem ds_succ_miss {p : Nat → Bool} {k : Nat} (h : p k = true) : ds p (k + 1) = ds p k := by simp [ds, h]
theorem ctB_iff {p : Nat → Bool} {i D : Nat} : ctB p i D = true ↔ i < D ∧ p i = false ∧ (ds p D).length ≤ (ds p i).length + 5 := by
  unfold ctB
  by_cases h1 : i < D
  · cases h2 : p i
    · have h3 := ds_mono p (i := i + 1) (k := D) (by omega)
      rw [ds_succ_hit h2] at h3 ⊢
      simp at h3
      simp [h1]
      omega
    · simp
  · simp [h1]
/-- where day i lies among them -/
theorem ds_split {p : Nat → Bool} {i : Nat} (hp : p i = false) : ∀ D, i < D → ∃ pre : List Nat, ds p D = pre ++ i :: ds p i := by
  intro D
  induction D with
  | zero => intro h; omega
  | succ D ih =>
    intro h
    rcases Nat.lt_or_ge i D with hlt | hge
    · obtain ⟨pre, e⟩ := ih hlt
      cases h2 : p D
      · exact ⟨D :: pre, by rw [ds_succ_hit h2, e]; rfl⟩
      · exact ⟨pre, by rw [ds_succ_miss h2, e]⟩
    · obtain rfl : i = D := by omega
      exact ⟨[], by rw [ds_succ_hit hp]; rfl⟩
theorem ct_at {p : Nat → Bool} {i D : Nat} (h : ctB p i D = true) : ∃ j, j < 5 ∧ j < (ds p D).length ∧ dy p D j = i := by
  obtain ⟨h1, h2, h3⟩ := ctB_iff.1 h
  obtain ⟨pre, e⟩ := ds_split h2 D h1
  refine ⟨pre.length, ?_, ?_, ?_⟩
  · have := congrArg List.length e; simp at this; omega
  · rw [e]; simp
  · unfold dy; rw [e]; simp [List.getD_eq_getElem?_getD]
theorem at_ct {p : Nat → Bool} {D j : Nat} (h5 : j < 5) (hj : j < (ds p D).length) : ctB p (dy p D j) D = true := by
  have hmem : dy p D j ∈ ds p D := by
    unfold dy; rw [List.getD_eq_getElem?_getD, List.getElem?_eq_getElem hj]; exact List.getElem_mem hj
  have hlt := dy_lt hj
  -- day d of the list: it has no bid, and j days stand ahead of it
  have key : ∀ D, ∀ j, j < (ds p D).length → p (dy p D j) = false ∧ (ds p D).length = (ds p (dy p D j)).length + j + 1 := by
    intro D
    induction D with
    | zero => intro j hj; simp [ds] at hj
    | succ D ih =>
      intro j hj
      cases h2 : p D
      · unfold dy
        rw [ds_succ_hit h2] at hj ⊢
        cases j with
        | zero => simp [h2]
        | succ j =>
          have := ih j (by simpa using hj)
          unfold dy at this
          simp at this ⊢
          exact ⟨this.1, by omega⟩
      · unfold dy
        rw [ds_succ_miss h2] at hj ⊢
        exact ih j hj
  have := key D j hj
  exact ctB_iff.2 ⟨hlt, this.1, by omega⟩

theorem tot_cons (f : Nat → Int) (m : Nat) : tot f (m + 1) = f 0 + tot (fun j => f (j + 1)) m := by
  induction m with
  | zero => simp [tot]
  | succ m ih => rw [show tot f (m + 1 + 1) = tot f (m + 1) + f (m + 1) from rfl, ih]; simp only [tot]; omega
/-- how many days before k count, and the sum of their numbers -/
def am (p : Nat → Bool) (D : Nat) : Nat → Nat
  | 0 => 0
  | k + 1 => if ctB p k D = true then am p D k + 1 else am p D k
def asu (p : Nat → Bool) (f : Nat → Int) (D : Nat) : Nat → Int
  | 0 => 0
  | k + 1 => if ctB p k D = true then asu p f D k + f k else asu p f D k
def al (p : Nat → Bool) (f : Nat → Int) (D : Nat) : Nat → Int
  | 0 => 1000
  | k + 1 => if ctB p k D = true then min (al p f D k) (f k) else al p f D k
def ah (p : Nat → Bool) (f : Nat → Int) (D : Nat) : Nat → Int
  | 0 => 0
  | k + 1 => if ctB p k D = true then max (ah p f D k) (f k) else ah p f D k
theorem am_eq (p : Nat → Bool) (D k : Nat) (hk : k ≤ D) : am p D k = (ds p k).length - ((ds p D).length - 5) := by
  induction k with
  | zero => simp [am, ds]
  | succ k ih =>
    have h1 := ih (by omega)
    simp only [am]
    cases h2 : p k
    · have hc : ctB p k D = true ↔ (ds p D).length ≤ (ds p k).length + 5 := by rw [ctB_iff]; simp [h2]; omega
      rw [ds_succ_hit h2]
      by_cases h3 : (ds p D).length ≤ (ds p k).length + 5
      · rw [if_pos (hc.2 h3), h1]; simp; omega
      · rw [if_neg (fun hx => h3 (hc.1 hx)), h1]; simp; omega
    · have hc : ¬ ctB p k D = true := by rw [ctB_iff]; simp [h2]
      rw [if_neg hc, ds_succ_miss h2, h1]
theorem as_eq (p : Nat → Bool) (f : Nat → Int) (D k : Nat) (hk : k ≤ D) : asu p f D k = tot (fun j => f (dy p k j)) (am p D k) := by
  induction k with
  | zero => simp [asu, am, tot]
  | succ k ih =>
    have h1 := ih (by omega)
    simp only [asu, am]
    by_cases hc : ctB p k D = true
    · rw [if_pos hc, if_pos hc, tot_cons, h1]
      have h2 := (ctB_iff.1 hc).2.1
      have e0 : dy p (k + 1) 0 = k := by unfold dy; rw [ds_succ_hit h2]; rfl
      have e1 : ∀ j, dy p (k + 1) (j + 1) = dy p k j := fun j => by unfold dy; rw [ds_succ_hit h2]; rfl
      rw [e0]
      simp only [e1]
      omega
    · rw [if_neg hc, if_neg hc, h1]
      cases h2 : p k
      · -- too early: none counts so far
        have ha := am_eq p D k (by omega)
        have : am p D k = 0 := by
          have hc' : ¬ ((ds p D).length ≤ (ds p k).length + 5) := fun hx => hc (ctB_iff.2 ⟨by omega, h2, hx⟩)
          omega
        rw [this]; rfl
      · apply tot_congr
        intro j _
        unfold dy
        rw [ds_succ_miss h2]
theorem as_five {p : Nat → Bool} {f : Nat → Int} {D : Nat} (h : 5 ≤ (ds p D).length) : am p D D = 5 ∧ asu p f D D = tot (fun j => f (dy p D j)) 5 := by
  have h1 := am_eq p D D (Nat.le_refl _)
  have h2 : am p D D = 5 := by omega
  exact ⟨h2, by rw [as_eq p f D D (Nat.le_refl _), h2]⟩
theorem am_few {p : Nat → Bool} {D : Nat} (h : (ds p D).length < 5) : am p D D < 5 := by
  have h1 := am_eq p D D (Nat.le_refl _)
  omega
theorem as_between (p : Nat → Bool) (f : Nat → Int) (D k : Nat) : (am p D k : Int) * al p f D k ≤ asu p f D k ∧ asu p f D k ≤ (am p D k : Int) * ah p f D k := by
  induction k with
  | zero => simp [am, asu]
  | succ k ih =>
    simp only [am, asu, al, ah]
    split
    · have e1 : ((am p D k + 1 : Nat) : Int) * min (al p f D k) (f k) = (am p D k : Int) * min (al p f D k) (f k) + min (al p f D k) (f k) := by rw [Int.natCast_add, Int.add_mul]; simp
      have e2 : ((am p D k + 1 : Nat) : Int) * max (ah p f D k) (f k) = (am p D k : Int) * max (ah p f D k) (f k) + max (ah p f D k) (f k) := by rw [Int.natCast_add, Int.add_mul]; simp
      have h1 : (am p D k : Int) * min (al p f D k) (f k) ≤ (am p D k : Int) * al p f D k := Int.mul_le_mul_of_nonneg_left (by omega) (by omega)
      have h2 : (am p D k : Int) * ah p f D k ≤ (am p D k : Int) * max (ah p f D k) (f k) := Int.mul_le_mul_of_nonneg_left (by omega) (by omega)
      omega
    · exact ih
theorem am_le (p : Nat → Bool) (D k : Nat) : am p D k ≤ k := by
  induction k with
  | zero => simp [am]
  | succ k ih => simp only [am]; split <;> omega
theorem as_bd {p : Nat → Bool} {f : Nat → Int} {D n : Nat} (hf : ∀ i, i < n → 0 ≤ f i ∧ f i ≤ 1000) (k : Nat) (hk : k ≤ n) : (0 ≤ asu p f D k ∧ asu p f D k ≤ 1000 * k) ∧ (0 ≤ al p f D k ∧ al p f D k ≤ 1000) ∧ (0 ≤ ah p f D k ∧ ah p f D k ≤ 1000) := by
  induction k with
  | zero => simp [asu, al, ah]
  | succ k ih =>
    have h1 := ih (by omega)
    have h2 := hf k (by omega)
    simp only [asu, al, ah]
    split <;> omega
end Go.Proofs.Ytdeeaehdbaoloaa
