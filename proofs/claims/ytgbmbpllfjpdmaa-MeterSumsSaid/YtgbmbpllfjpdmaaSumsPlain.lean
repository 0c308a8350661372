/-
  PLAIN FACTS for MeterSums: a list of ticks turned by some places, as cells and as a sum.
-/
import Derived.Test.YtgbmbpllfjpdmaaLawsd
import Derived.Test.YtgbmbpllfjpdmaaApp
namespace Go.Proofs.Ytgbmbpllfjpdmaa
open Go.RowKit

/-- the cells of m ticks from k on -/
def cellsOf (f g : Nat → Int) (k m : Nat) : List Value := (List.range (m * 2)).map fun j => .int .u8 (if j % 2 = 0 then f (k + j / 2) else g (k + j / 2))
theorem cellsOf_length (f g : Nat → Int) (k m : Nat) : (cellsOf f g k m).length = m * 2 := by simp [cellsOf]
theorem cellsOf_one (f g : Nat → Int) (k m : Nat) : ∀ u ∈ cellsOf f g k m, u.oneCell' = true := by
  intro u hu
  simp only [cellsOf, List.mem_map] at hu
  obtain ⟨j, _, rfl⟩ := hu
  rfl
theorem cellsOf_at (f g : Nat → Int) (k m : Nat) {j : Nat} (hj : j < m * 2) : (cellsOf f g k m)[j]? = some (.int .u8 (if j % 2 = 0 then f (k + j / 2) else g (k + j / 2))) := by
  simp [cellsOf, hj]
theorem TK.cellsAt {w : World} {b o n k m : Nat} {f g : Nat → Int} (h : TK w (some ⟨b, o, none⟩) n f g) (hk : k + m ≤ n) :
    ∀ j u, (cellsOf f g k m)[j]? = some u → w.cell? ((⟨b, o + k * 2, none⟩ : Addr).add j) = some u := by
  intro j u hu
  have hj : j < m * 2 := by
    rcases Nat.lt_or_ge j (m * 2) with hlt | hge
    · exact hlt
    · rw [List.getElem?_eq_none (by rw [cellsOf_length]; exact hge)] at hu; cases hu
  rw [cellsOf_at f g k m hj] at hu
  obtain rfl := Option.some.inj hu
  have e : (⟨b, o + k * 2, none⟩ : Addr).add j = ⟨b, o + k * 2 + j, none⟩ := by unfold Addr.add; split <;> simp_all
  rw [e]
  obtain ⟨b', o', e', _, h2, h3, _⟩ := h (k + j / 2) (by omega)
  simp at e'
  obtain ⟨rfl, rfl⟩ := e'
  by_cases hp : j % 2 = 0
  · rw [if_pos hp, ← h2]; congr 2; omega
  · rw [if_neg hp, ← h3]; congr 2; omega
/-- the turned list -/
def turn (f : Nat → Int) (n k : Nat) (i : Nat) : Int := if i < n - k then f (k + i) else f (i - (n - k))
theorem TK.of_row {w : World} {base n k g cap : Nat} {f h : Nat → Int} (hb : ∀ i, i < n → (0 ≤ f i ∧ f i ≤ 255) ∧ (0 ≤ h i ∧ h i ≤ 255)) (hk : k ≤ n) (e : TypeId)
    (hown : w.ownsRow base e 2 (.slice (some ⟨g, 0, none⟩) n cap) n (cellsOf f h k (n - k) ++ cellsOf f h 0 k)) (hg : g < w.heap.size) : TK w (some ⟨g, 0, none⟩) n (turn f n k) (turn h n k) := by
  have hc := hown.cells (g := g) rfl
  intro i hi
  have hat : ∀ j, j < n * 2 → w.cell? ⟨g, 0 + j, none⟩ = some (.int .u8 (if j % 2 = 0 then turn f n k (j / 2) else turn h n k (j / 2))) := by
    intro j hj
    have e : (⟨g, 0, none⟩ : Addr).add j = ⟨g, 0 + j, none⟩ := by unfold Addr.add; split <;> simp_all
    rw [← e]
    refine hc j _ ?_
    by_cases hlt : j < (n - k) * 2
    · rw [List.getElem?_append_left (by rw [cellsOf_length]; exact hlt), cellsOf_at _ _ _ _ hlt]
      simp only [turn]
      rw [if_pos (show j / 2 < n - k by omega), if_pos (show j / 2 < n - k by omega)]
    · rw [List.getElem?_append_right (by rw [cellsOf_length]; omega), cellsOf_length, cellsOf_at _ _ _ _ (by omega)]
      simp only [turn]
      rw [if_neg (show ¬ j / 2 < n - k by omega), if_neg (show ¬ j / 2 < n - k by omega)]
      have e1 : (j - (n - k) * 2) % 2 = j % 2 := by omega
      have e2 : 0 + (j - (n - k) * 2) / 2 = j / 2 - (n - k) := by omega
      rw [e1, e2]
  have hti : ∀ q : Nat → Int, (∀ i, i < n → 0 ≤ q i ∧ q i ≤ 255) → 0 ≤ turn q n k i ∧ turn q n k i ≤ 255 := by
    intro q hq
    unfold turn
    split
    · exact hq _ (by omega)
    · exact hq _ (by omega)
  refine ⟨g, 0, rfl, hg, ?_, ?_, hti f (fun i h' => (hb i h').1), hti h (fun i h' => (hb i h').2)⟩
  · have := hat (i * 2) (by omega)
    rw [if_pos (by omega), show i * 2 / 2 = i by omega] at this
    exact this
  · have := hat (i * 2 + 1) (by omega)
    rw [if_neg (by omega), show (i * 2 + 1) / 2 = i by omega] at this
    exact this
theorem tsum_congr {f g f' g' : Nat → Int} {n : Nat} (h : ∀ i, i < n → f i = f' i ∧ g i = g' i) : tsum f g n = tsum f' g' n := by
  induction n with
  | zero => rfl
  | succ n ih =>
    simp only [tsum, tick]
    rw [ih fun i hi => h i (by omega), (h n (by omega)).1, (h n (by omega)).2]
theorem tsum_turn (f g : Nat → Int) {n k : Nat} (hk : k ≤ n) : tsum (turn f n k) (turn g n k) n = tsum f g n := by
  have e1 := tsum_split (turn f n k) (turn g n k) (n - k) k
  rw [show n - k + k = n by omega] at e1
  have e2 := tsum_split f g k (n - k)
  rw [show k + (n - k) = n by omega] at e2
  rw [e1, e2]
  have a1 : tsum (turn f n k) (turn g n k) (n - k) = tsum (fun i => f (k + i)) (fun i => g (k + i)) (n - k) := tsum_congr fun i hi => by simp [turn, hi]
  have a2 : tsum (fun i => turn f n k (n - k + i)) (fun i => turn g n k (n - k + i)) k = tsum f g k := tsum_congr fun i hi => by have hn : ¬ n - k + i < n - k := (by omega); simp [turn, hn]
  rw [a1, a2]
  omega
theorem TK.bds {w : World} {A : Option Addr} {n : Nat} {f g : Nat → Int} (h : TK w A n f g) : ∀ i, i < n → (0 ≤ f i ∧ f i ≤ 255) ∧ (0 ≤ g i ∧ g i ≤ 255) := fun i hi => by
  obtain ⟨_, _, _, _, _, _, h1, h2⟩ := h i hi
  exact ⟨h1, h2⟩
theorem MB.grown {w w' : World} {b : Nat} {s r : Int} {k : Bool} {row : Option Nat} (h : MB w b s r k) (hg : w.grownBy w' row) (hne : some b ≠ row) : MB w' b s r k := (hg.block b h.lt hne).trans h
/-- a row of ticks and a meter never share a block -/
theorem MB.ne_row {w : World} {b base n : Nat} {s r : Int} {k : Bool} {v : Value} {xs : List Value} (h : MB w b s r k) (ho : w.ownsRow base 46 2 v n xs) : some b ≠ v.ownBlock := by
  rcases ho.2 with ⟨rfl, _⟩ | ⟨g, cap, cur, rfl, _, hh, _⟩
  · simp [Value.ownBlock]
  · intro e
    have : b = g := by simpa [Value.ownBlock] using e
    subst this
    unfold MB at h
    rw [h] at hh
    injection hh with hh
    injection hh with _ ht
    exact absurd ht (by decide)
end Go.Proofs.Ytgbmbpllfjpdmaa
