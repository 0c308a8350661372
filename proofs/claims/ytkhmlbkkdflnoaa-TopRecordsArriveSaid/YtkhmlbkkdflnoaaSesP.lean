/-
  THE PLAIN LAW of sessions; rows of records.
-/
import Derived.Test.YtkhmlbkkdflnoaaRecb
import Derived.Test.YtkhmlbkkdflnoaaCh17
namespace Go.Proofs.Ytkhmlbkkdflnoaa.Rc
open Go.RowKit
open Ch (lkf rws eSum)
set_option linter.unusedVariables false
set_option linter.unusedSimpArgs false

theorem rcL_get (x : Nat → Int) : ∀ j, j < 13 → (rcL x)[j]? = some (cv j (x j)) := by
  intro j hj
  have : j = 0 ∨ j = 1 ∨ j = 2 ∨ j = 3 ∨ j = 4 ∨ j = 5 ∨ j = 6 ∨ j = 7 ∨ j = 8 ∨ j = 9 ∨ j = 10 ∨ j = 11 ∨ j = 12 := by omega
  rcases this with rfl | rfl | rfl | rfl | rfl | rfl | rfl | rfl | rfl | rfl | rfl | rfl | rfl <;> rfl
theorem rcL_one (x : Nat → Int) : ∀ u ∈ rcL x, u.oneCell' = true := by simp [rcL, Value.oneCell']
/-- the cells of n records -/
def rcs (X : Nat → Nat → Int) : Nat → List Value
  | 0 => []
  | n + 1 => rcs X n ++ rcL (X n)
theorem rcs_len (X : Nat → Nat → Int) : ∀ n, (rcs X n).length = n * 13 := by
  intro n
  induction n with
  | zero => rfl
  | succ n ih => simp [rcs, ih, rcL]; omega
theorem rcs_get (X : Nat → Nat → Int) : ∀ n i, i < n → ∀ j, j < 13 → (rcs X n)[i * 13 + j]? = some (cv j (X i j)) := by
  intro n
  induction n with
  | zero => intro i hi; omega
  | succ n ih =>
    intro i hi j hj
    simp only [rcs]
    rcases Nat.lt_or_ge i n with h | h
    · rw [List.getElem?_append_left (by rw [rcs_len]; omega)]
      exact ih i h j hj
    · obtain rfl : i = n := by omega
      rw [List.getElem?_append_right (by rw [rcs_len]; omega), rcs_len, show i * 13 + j - i * 13 = j by omega]
      exact rcL_get _ j hj
theorem rcs_one (X : Nat → Nat → Int) : ∀ n, ∀ u ∈ rcs X n, u.oneCell' = true := by
  intro n
  induction n with
  | zero => intro u hu; simp [rcs] at hu
  | succ n ih =>
    intro u hu
    rcases List.mem_append.1 hu with h | h
    · exact ih u h
    · exact rcL_one _ u h
theorem rcs_congr {X Y : Nat → Nat → Int} : ∀ n, (∀ i, i < n → X i = Y i) → rcs X n = rcs Y n := by
  intro n
  induction n with
  | zero => intro _; rfl
  | succ n ih => intro h; simp only [rcs]; rw [ih fun i hi => h i (by omega), h n (by omega)]
theorem RR_own {w : World} {base : Nat} {e : TypeId} {A : Option Addr} {n c : Nat} {X : Nat → Nat → Int} (h : w.ownsRow base e 13 (.slice A n c) n (rcs X n)) : RR w A n X := fun i hi => by
  obtain ⟨g, cap, hv, hb, hlt⟩ := h.form (by omega)
  cases hv
  refine ⟨g, 0, rfl, hlt, fun j hj => ?_⟩
  rw [show 0 + i * 13 + j = i * 13 + j by omega, h.cellAt _ (by omega)]
  exact rcs_get X n i hi j hj
/-- does a session end behind reading i (numbers from 1 on)? -/
def cutB (len ne : Nat) (e : Nat → Bool) (i : Nat) : Bool := decide (i = len) || (decide (i - 2 < ne) && e (i - 2))
def fsts (L : List (Nat × Nat)) : Nat := match L.getLast? with
  | none => 1
  | some p => p.2
/-- the sessions among the first s + 1 readings -/
def segs (len ne : Nat) (e : Nat → Bool) : Nat → List (Nat × Nat)
  | 0 => []
  | s + 1 => if cutB len ne e (s + 2) = true then segs len ne e s ++ [(fsts (segs len ne e s), s + 2)] else segs len ne e s
theorem fsts_snoc (L : List (Nat × Nat)) (p : Nat × Nat) : fsts (L ++ [p]) = p.2 := by simp [fsts]
theorem segs_bd (len ne : Nat) (e : Nat → Bool) : ∀ s, (1 ≤ fsts (segs len ne e s) ∧ fsts (segs len ne e s) ≤ s + 1) ∧ (segs len ne e s).length ≤ s ∧ ∀ p ∈ segs len ne e s, 1 ≤ p.1 ∧ p.1 < p.2 ∧ p.2 ≤ s + 1 := by
  intro s
  induction s with
  | zero => exact ⟨⟨Nat.le_refl 1, Nat.le_refl 1⟩, Nat.le_refl _, fun p hp => by simp [segs] at hp⟩
  | succ s ih =>
    obtain ⟨h1, h2, h3⟩ := ih
    simp only [segs]
    split
    · refine ⟨by rw [fsts_snoc]; simp only []; omega, by simp; omega, fun p hp => ?_⟩
      rcases List.mem_append.1 hp with h | h
      · have := h3 p h; omega
      · rw [List.mem_singleton] at h
        subst h
        simp only []
        omega
    · exact ⟨by omega, by omega, fun p hp => by have := h3 p hp; omega⟩
/-- a record's numbers, and the record -/
def rc0 (k hm a b en am : Int) : Nat → Int
  | 0 => k + 1
  | 2 => 5
  | 3 => hm
  | 5 => a
  | 6 => b
  | 7 => en
  | 8 => am
  | _ => 0
def rcf (K : Nat → Int) (k hm a b en am : Int) (j : Nat) : Int := if j < 9 then rc0 k hm a b en am j else sgn (K (j - 9)) (rc0 k hm a b en am)
/-- the home of record k -/
def homeOf (m : Int) (nh : Nat) (h : Nat → Int) (k : Nat) : Int := if k < nh then 1 + h k % (m - 1) else 1
/-- what a session costs -/
def amt (p en : Int) : Int := (2 * (p * en) + 1000) / 2000
/-- the records of sessions -/
def YS (K R : Nat → Int) (m p : Int) (nh : Nat) (h : Nat → Int) (L : List (Nat × Nat)) (k : Nat) : Nat → Int := match L[k]? with
  | none => fun _ => 0
  | some q => rcf K k (homeOf m nh h k) q.1 q.2 (R (q.2 - 1) - R (q.1 - 1)) (amt p (R (q.2 - 1) - R (q.1 - 1)))
theorem YS_old {K R : Nat → Int} {m p : Int} {nh : Nat} {h : Nat → Int} {L : List (Nat × Nat)} {q : Nat × Nat} : ∀ k, k < L.length → YS K R m p nh h (L ++ [q]) k = YS K R m p nh h L k := fun k hk => by
  unfold YS
  rw [List.getElem?_append_left hk]
theorem YS_new {K R : Nat → Int} {m p : Int} {nh : Nat} {h : Nat → Int} {L : List (Nat × Nat)} {q : Nat × Nat} : YS K R m p nh h (L ++ [q]) L.length = rcf K L.length (homeOf m nh h L.length) q.1 q.2 (R (q.2 - 1) - R (q.1 - 1)) (amt p (R (q.2 - 1) - R (q.1 - 1))) := by
  unfold YS
  rw [List.getElem?_append_right (Nat.le_refl _)]
  simp
theorem YS_rcs {K R : Nat → Int} {m p : Int} {nh : Nat} {h : Nat → Int} {L : List (Nat × Nat)} {q : Nat × Nat} {f : Nat → Int} (hf : f = rcf K L.length (homeOf m nh h L.length) q.1 q.2 (R (q.2 - 1) - R (q.1 - 1)) (amt p (R (q.2 - 1) - R (q.1 - 1)))) :
    rcs (YS K R m p nh h L) L.length ++ rcL f = rcs (YS K R m p nh h (L ++ [q])) (L.length + 1) := by
  simp only [rcs]
  rw [rcs_congr (Y := YS K R m p nh h L) L.length (fun i hi => YS_old i hi), YS_new, hf]
theorem homeOf_bd {m : Int} {nh : Nat} {h : Nat → Int} (hm : 2 ≤ m ∧ m ≤ 8) (k : Nat) : 1 ≤ homeOf m nh h k ∧ homeOf m nh h k < m := by
  unfold homeOf
  split
  · have h1 := Int.emod_nonneg (h k) (show m - 1 ≠ 0 by omega)
    have h2 := Int.emod_lt_of_pos (h k) (show 0 < m - 1 by omega)
    omega
  · omega
theorem amt_bd {p en : Int} (hp : 0 ≤ p ∧ p ≤ 65535) (he : 0 ≤ en ∧ en ≤ 100000) : 0 ≤ amt p en ∧ amt p en ≤ 1000000000 := by
  have h1 : 0 ≤ p * en := Int.mul_nonneg hp.1 he.1
  have h2 := Int.mul_le_mul hp.2 he.2 he.1 (by omega)
  unfold amt
  omega
end Go.Proofs.Ytkhmlbkkdflnoaa.Rc
