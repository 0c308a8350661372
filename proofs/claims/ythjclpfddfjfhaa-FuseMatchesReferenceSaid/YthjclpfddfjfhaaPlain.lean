/-
  THE PLAIN LAWS of a fuse: when it melts, how long it holds.
-/
import Derived.Test.YthjclpfddfjfhaaHeats
namespace Go.Proofs.Ythjclpfddfjfhaa

/-- the tick in which a fuse melts within k ticks, or -1 -/
def mt (r h : Int) (z : Nat → Int) : Nat → Int
  | 0 => -1
  | k + 1 => if 0 ≤ mt r h z k then mt r h z k else if h < ht r z (k + 1) then k else -1

theorem mt_cases (r h : Int) (z : Nat → Int) (k : Nat) :
    (mt r h z k = -1 ∧ ∀ i, i < k → ht r z (i + 1) ≤ h) ∨ ∃ i : Nat, i < k ∧ mt r h z k = i ∧ (∀ j, j < i → ht r z (j + 1) ≤ h) ∧ h < ht r z (i + 1) := by
  induction k with
  | zero => exact .inl ⟨rfl, fun i hi => by omega⟩
  | succ k ih =>
    rcases ih with ⟨e, hn⟩ | ⟨i, hi, e, hj, hm⟩
    · by_cases hc : h < ht r z (k + 1)
      · exact .inr ⟨k, by omega, by simp [mt, e, hc], hn, hc⟩
      · refine .inl ⟨by simp [mt, e, hc], fun i hi => ?_⟩
        rcases Nat.lt_or_ge i k with hlt | hge
        · exact hn i hlt
        · obtain rfl : i = k := by omega
          omega
    · exact .inr ⟨i, by omega, by have : (0 : Int) ≤ i := by omega
                                  simp [mt, e], hj, hm⟩
theorem mt_none {r h : Int} {z : Nat → Int} {k : Nat} (hn : ∀ i, i < k → ht r z (i + 1) ≤ h) : mt r h z k = -1 := by
  rcases mt_cases r h z k with ⟨e, _⟩ | ⟨i, hi, _, _, hm⟩
  · exact e
  · have := hn i hi; omega
theorem mt_at {r h : Int} {z : Nat → Int} {k i : Nat} (hi : i < k) (hn : ∀ j, j < i → ht r z (j + 1) ≤ h) (hm : h < ht r z (i + 1)) : mt r h z k = i := by
  rcases mt_cases r h z k with ⟨_, hx⟩ | ⟨j, hj, e, hx, hm'⟩
  · have := hx i hi; omega
  · rcases Nat.lt_trichotomy i j with hlt | rfl | hgt
    · have := hx i hlt; omega
    · exact e
    · have := hn j hgt; omega
theorem mt_bd (r h : Int) (z : Nat → Int) (k : Nat) : -1 ≤ mt r h z k ∧ mt r h z k < k := by
  rcases mt_cases r h z k with ⟨e, _⟩ | ⟨i, hi, e, _, _⟩ <;> omega

/-- by how much the heat grows, if it is not bounded -/
def mo (r a : Int) : Int := if r = 0 then 0 else a * a - r * r
theorem nH_mo {r n a : Int} (hn : 0 ≤ n) : nH r n a = max 0 (n + mo r a) := by
  unfold nH mo
  split <;> omega
theorem mo_bd {r a : Int} (hr : 0 ≤ r ∧ r ≤ 1000) (ha : 0 ≤ a ∧ a ≤ 1000) : -1000000 ≤ mo r a ∧ mo r a ≤ 1000000 := by
  have h1 := sq_bd ha
  have h2 := sq_bd hr
  unfold mo
  split <;> omega
theorem mo_le {r a : Int} (hr : 0 ≤ r) (ha : 0 ≤ a) (h : a ≤ r) : mo r a ≤ 0 := by
  unfold mo
  split
  · omega
  · have := Int.mul_le_mul h h ha hr; omega
theorem mo_pos {r a : Int} (hr : 1 ≤ r) (h : r < a) : 0 < mo r a := by
  unfold mo
  rw [if_neg (by omega)]
  have h1 : r * r ≤ r * a := Int.mul_le_mul_of_nonneg_left (by omega) (by omega)
  have h2 : r * a < a * a := Int.mul_lt_mul_of_pos_right h (by omega)
  omega
theorem mo_mono {r a b : Int} (ha : 0 ≤ a) (h : a ≤ b) : mo r a ≤ mo r b := by
  unfold mo
  split
  · omega
  · have := Int.mul_le_mul h h ha (by omega); omega
theorem mo_anti {r s a : Int} (hr : 1 ≤ r) (h : r ≤ s) : mo s a ≤ mo r a := by
  unfold mo
  rw [if_neg (by omega), if_neg (by omega)]
  have := Int.mul_le_mul h h (by omega) (by omega); omega
theorem nH_nonneg {r n a : Int} (hn : 0 ≤ n) : 0 ≤ nH r n a := by rw [nH_mo hn]; omega
theorem ht_nonneg (r : Int) (z : Nat → Int) (k : Nat) : 0 ≤ ht r z k := by
  induction k with
  | zero => simp [ht]
  | succ k ih => exact nH_nonneg ih
theorem nH_mono {r s n m a b : Int} (hn : 0 ≤ n) (h : n ≤ m) (g : mo r a ≤ mo s b) : nH r n a ≤ nH s m b := by
  rw [nH_mo hn, nH_mo (by omega)]; omega
theorem ht_mono {r s : Int} {z y : Nat → Int} (k : Nat) (h : ∀ i, i < k → mo r (z i) ≤ mo s (y i)) : ht r z k ≤ ht s y k := by
  induction k with
  | zero => simp [ht]
  | succ k ih => exact nH_mono (ht_nonneg r z k) (ih fun i hi => h i (by omega)) (h k (by omega))

/-- the sum, and the least sum so far: the reference's two numbers -/
def sm (r : Int) (z : Nat → Int) : Nat → Int
  | 0 => 0
  | k + 1 => sm r z k + mo r (z k)
def ls (r : Int) (z : Nat → Int) : Nat → Int
  | 0 => 0
  | k + 1 => min (ls r z k) (sm r z (k + 1))
theorem ht_sm (r : Int) (z : Nat → Int) (k : Nat) : ht r z k = sm r z k - ls r z k := by
  induction k with
  | zero => simp [ht, sm, ls]
  | succ k ih =>
    simp only [ht, ls]
    rw [nH_mo (ht_nonneg r z k), ih]
    simp only [sm]
    omega
theorem sm_bd {r : Int} {z : Nat → Int} {len : Nat} (hr : 0 ≤ r ∧ r ≤ 1000) (hz : ∀ i, i < len → 0 ≤ z i ∧ z i ≤ 1000) : ∀ k, k ≤ len → (-1000000 * (k : Int) ≤ sm r z k ∧ sm r z k ≤ 1000000 * k) ∧ (-1000000 * (k : Int) ≤ ls r z k ∧ ls r z k ≤ 0) := by
  intro k
  induction k with
  | zero => intro _; simp [sm, ls]
  | succ k ih =>
    intro hk
    have h1 := ih (by omega)
    have h2 := mo_bd hr (hz k (by omega))
    simp only [ls, sm]
    omega
theorem over_iff {r h : Int} {z : Nat → Int} {k : Nat} (hh : 0 ≤ h) : h < sm r z (k + 1) - ls r z k ↔ h < ht r z (k + 1) := by
  rw [ht_sm]
  simp only [ls]
  omega

/-- FuseMoreCurrent, FuseStronger: where the heats are nowhere less, it melts no later -/
theorem mt_earlier {r s h g : Int} {z y : Nat → Int} {k : Nat} (hh : ∀ i, i ≤ k → h < ht r z i → g < ht s y i) : mt r h z k = -1 ∨ (0 ≤ mt s g y k ∧ mt s g y k ≤ mt r h z k) := by
  rcases mt_cases r h z k with ⟨e, _⟩ | ⟨i, hi, e, _, hm⟩
  · exact .inl e
  · rcases mt_cases s g y k with ⟨e', hn⟩ | ⟨j, hj, e', hx, hm'⟩
    · have := hn i hi
      have := hh (i + 1) (by omega) hm
      omega
    · refine .inr ?_
      rcases Nat.lt_or_ge i j with hlt | hge
      · have := hx i hlt
        have := hh (i + 1) (by omega) hm
        omega
      · omega
theorem mt_mono {r h : Int} {z y : Nat → Int} {k : Nat} (hz : ∀ i, i < k → 0 ≤ z i ∧ z i ≤ y i) : mt r h z k = -1 ∨ (0 ≤ mt r h y k ∧ mt r h y k ≤ mt r h z k) :=
  mt_earlier fun i hi hm => by
    have := ht_mono (r := r) (s := r) (z := z) (y := y) i (fun j hj => mo_mono (hz j (by omega)).1 (hz j (by omega)).2)
    omega
theorem mt_stronger {r s h g : Int} {z : Nat → Int} {k : Nat} (hr : 1 ≤ r) (hs : r ≤ s) (hh : h ≤ g) : mt s g z k = -1 ∨ (0 ≤ mt r h z k ∧ mt r h z k ≤ mt s g z k) :=
  mt_earlier fun i hi hm => by
    have := ht_mono (r := s) (s := r) (z := z) (y := z) i (fun j hj => mo_anti hr hs)
    omega

/-- FuseRated -/
theorem ht_rated {r : Int} {z : Nat → Int} (hr : 0 ≤ r) (k : Nat) (hz : ∀ i, i < k → 0 ≤ z i ∧ z i ≤ r) : ht r z k = 0 := by
  induction k with
  | zero => rfl
  | succ k ih =>
    simp only [ht]
    rw [ih fun i hi => hz i (by omega), nH_mo (by omega)]
    have := mo_le hr (hz k (by omega)).1 (hz k (by omega)).2
    omega
theorem mt_rated {r h : Int} {z : Nat → Int} {k : Nat} (hr : 0 ≤ r) (hh : 0 ≤ h) (hz : ∀ i, i < k → 0 ≤ z i ∧ z i ≤ r) : mt r h z k = -1 :=
  mt_none fun i hi => by rw [ht_rated hr (i + 1) fun j hj => hz j (by omega)]; exact hh

/-- FuseRest: ticks without a current ahead -/
def sh (t : Nat) (z : Nat → Int) : Nat → Int := fun i => if i < t then 0 else z (i - t)
theorem ht_rest0 {r : Int} {z : Nat → Int} {t : Nat} (hr : 0 ≤ r) : ∀ k, k ≤ t → ht r (sh t z) k = 0 := by
  intro k hk
  refine ht_rated hr k fun i hi => ?_
  simp only [sh]
  rw [if_pos (by omega)]
  omega
theorem ht_rest {r : Int} {z : Nat → Int} {t : Nat} (hr : 0 ≤ r) (k : Nat) : ht r (sh t z) (t + k) = ht r z k := by
  induction k with
  | zero => exact ht_rest0 hr t (by omega)
  | succ k ih =>
    show nH r (ht r (sh t z) (t + k)) (sh t z (t + k)) = nH r (ht r z k) (z k)
    rw [ih]
    congr 1
    simp only [sh]
    rw [if_neg (by omega)]
    congr 1
    omega
theorem mt_rest {r h : Int} {z : Nat → Int} {t : Nat} (hr : 0 ≤ r) (hh : 0 ≤ h) (k : Nat) : mt r h (sh t z) (t + k) = if 0 ≤ mt r h z k then mt r h z k + t else -1 := by
  rcases mt_cases r h z k with ⟨e, hn⟩ | ⟨i, hi, e, hn, hm⟩
  · rw [e, if_neg (by omega)]
    refine mt_none fun i hi => ?_
    rcases Nat.lt_or_ge i t with hlt | hge
    · rw [ht_rest0 hr _ (by omega)]; exact hh
    · obtain ⟨j, rfl⟩ := Nat.exists_eq_add_of_le hge
      rw [Nat.add_assoc, ht_rest hr]
      exact hn j (by omega)
  · rw [e, if_pos (by omega)]
    rw [mt_at (i := t + i) (by omega)]
    · omega
    · intro j hj
      rcases Nat.lt_or_ge j t with hlt | hge
      · rw [ht_rest0 hr _ (by omega)]; exact hh
      · obtain ⟨l, rfl⟩ := Nat.exists_eq_add_of_le hge
        rw [Nat.add_assoc, ht_rest hr]
        exact hn l (by omega)
    · rw [Nat.add_assoc, ht_rest hr]; exact hm

/-- FuseBursts: the sum of the last j ticks of k + 1 -/
def bu (r : Int) (z : Nat → Int) (k : Nat) : Nat → Int
  | 0 => 0
  | j + 1 => bu r z k j + (z (k - j) * z (k - j) - r * r)
theorem sm_bu {r : Int} {z : Nat → Int} (hr : 1 ≤ r) (k : Nat) : ∀ j, j ≤ k + 1 → bu r z k j = sm r z (k + 1) - sm r z (k + 1 - j) := by
  intro j
  induction j with
  | zero => intro _; simp [bu]
  | succ j ih =>
    intro hj
    have e : k + 1 - j = (k - j) + 1 := by omega
    have e2 : k + 1 - (j + 1) = k - j := by omega
    simp only [bu]
    rw [ih (by omega), e, e2]
    simp only [sm]
    have : mo r (z (k - j)) = z (k - j) * z (k - j) - r * r := by unfold mo; rw [if_neg (by omega)]
    omega
theorem ls_le (r : Int) (z : Nat → Int) (k : Nat) : ∀ i, i ≤ k → ls r z k ≤ sm r z i := by
  induction k with
  | zero => intro i hi; obtain rfl : i = 0 := by omega
            simp [ls, sm]
  | succ k ih =>
    intro i hi
    simp only [ls]
    rcases Nat.lt_or_ge i (k + 1) with hlt | hge
    · have := ih i (by omega); omega
    · obtain rfl : i = k + 1 := by omega
      omega
theorem ls_at (r : Int) (z : Nat → Int) (k : Nat) : ∃ i, i ≤ k ∧ ls r z k = sm r z i := by
  induction k with
  | zero => exact ⟨0, by omega, rfl⟩
  | succ k ih =>
    obtain ⟨i, hi, e⟩ := ih
    simp only [ls]
    by_cases hc : ls r z k ≤ sm r z (k + 1)
    · exact ⟨i, by omega, by omega⟩
    · exact ⟨k + 1, by omega, by omega⟩
theorem burst_iff {r h : Int} {z : Nat → Int} (hr : 1 ≤ r) (hh : 0 ≤ h) (k : Nat) : h < ht r z (k + 1) ↔ ∃ j, j ≤ k ∧ h < bu r z k (j + 1) := by
  rw [← over_iff hh]
  constructor
  · intro hm
    obtain ⟨i, hi, e⟩ := ls_at r z k
    refine ⟨k - i, by omega, ?_⟩
    rw [sm_bu hr k _ (by omega)]
    have : k + 1 - (k - i + 1) = i := by omega
    rw [this]; omega
  · rintro ⟨j, hj, hm⟩
    rw [sm_bu hr k _ (by omega)] at hm
    have := ls_le r z k (k + 1 - (j + 1)) (by omega)
    omega

/-- for how many ticks a fuse holds a current -/
def hd (r h t a : Int) : Int := if mo r a ≤ 0 then -1 else (h - t) / mo r a
/-- the heat after k ticks of one current -/
def hk (r a t : Int) : Nat → Int
  | 0 => t
  | k + 1 => nH r (hk r a t k) a
theorem hk_eq {r a t : Int} (ht : 0 ≤ t) (hm : 0 < mo r a) (k : Nat) : hk r a t k = t + k * mo r a := by
  induction k with
  | zero => simp [hk]
  | succ k ih =>
    have h1 : 0 ≤ (k : Int) * mo r a := Int.mul_nonneg (by omega) (by omega)
    have h2 : ((k + 1 : Nat) : Int) * mo r a = k * mo r a + mo r a := by rw [Int.natCast_add, Int.add_mul]; simp
    simp only [hk]
    rw [ih, nH_mo (by omega), h2]
    omega
theorem hd_nonneg {r h t a : Int} (hm : 0 < mo r a) (ht : t ≤ h) : 0 ≤ hd r h t a := by
  unfold hd
  rw [if_neg (by omega)]
  exact Int.ediv_nonneg (by omega) (by omega)
theorem hd_holds {r h t a : Int} (hm : 0 < mo r a) (ht0 : 0 ≤ t) (k : Nat) : (k : Int) ≤ hd r h t a ↔ hk r a t k ≤ h := by
  rw [hk_eq ht0 hm]
  unfold hd
  rw [if_neg (by omega), Int.le_ediv_iff_mul_le hm]
  omega
theorem hd_stronger {r s h g a : Int} (hr : 1 ≤ r) (hs : r ≤ s) (hh0 : 0 ≤ h) (hh : h ≤ g) : hd s g 0 a = -1 ∨ (0 ≤ hd r h 0 a ∧ hd r h 0 a ≤ hd s g 0 a) := by
  by_cases h0 : mo s a ≤ 0
  · left; unfold hd; rw [if_pos h0]
  · right
    have h1 := mo_anti (a := a) hr hs
    refine ⟨hd_nonneg (by omega) hh0, ?_⟩
    unfold hd
    rw [if_neg (by omega), if_neg (by omega), Int.le_ediv_iff_mul_le (by omega)]
    have h2 : (h - 0) / mo r a * mo r a ≤ h - 0 := Int.ediv_mul_le _ (by omega)
    have h3 : (h - 0) / mo r a * mo s a ≤ (h - 0) / mo r a * mo r a := Int.mul_le_mul_of_nonneg_left h1 (Int.ediv_nonneg (by omega) (by omega))
    omega
theorem hd_bin {r h t a m : Int} (hm : 0 < mo r a) : m ≤ hd r h t a ↔ t + m * mo r a ≤ h := by
  unfold hd
  rw [if_neg (by omega), Int.le_ediv_iff_mul_le hm]
  omega
end Go.Proofs.Ythjclpfddfjfhaa
