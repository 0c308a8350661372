/-
  R40.Same; a number of a copied reading is changed.
-/
import Derived.Test.YtkhmlbkkdflnoaaDspP
import Derived.Test.YtkhmlbkkdflnoaaSet
namespace Go.Proofs.Ytkhmlbkkdflnoaa.Ch
open Go.RowKit
set_option linter.unusedVariables false
set_option linter.unusedSimpArgs false
attribute [local go_sem ↓] Go.wp_at_zero Go.wp_at_succ

set_option maxRecDepth 100000 in
set_option maxHeartbeats 2000000 in
theorem same40_yes (A B : Option Addr) (n c d : Nat) (X : Nat → Nat → Int) (w : World) (hn : n ≤ 1000) (hA : RG w A n X) (hB : RG w B n X) :
    Calls Try.prog 20 #[.slice A n c, .slice B n d] w fun e w' => e = .returned (.bool true) ∧ Below w.heap.size w w' := by
  have HA := Lib.hid hA
  have HB := Lib.hid hB
  clear hA hB
  go_enter Try.func20, Try.ntmps20
  go_wp2_with fail
  go_loopw [5] (fun i wr => ∃ k : Nat, k ≤ n ∧ i = .int .i64 k ∧ Below w.heap.size w wr) (fun i _ => n - (intOf i).toNat)
  case atStart => exact ⟨0, Nat.zero_le _, rfl, Below.refl _ _⟩
  case round =>
    obtain ⟨k, hk, rfl, hbw⟩ := hrel
    by_cases hlt : k < n
    · obtain ⟨b, o, rfl, hb, a0, a1, a2, a3, a4⟩ := (HA.out.keep hbw) k hlt
      obtain ⟨b', o', rfl, hb', b0, b1, b2, b3, b4⟩ := (HB.out.keep hbw) k hlt
      have i0 : (0 : Int) ≤ (k : Int) := by omega
      have i1 : (k : Int) < (n : Int) := by omega
      go_wp2_with fail
      go_quiet (fail)
      go_wp2_with fail
      go_roundw
      case rel => exact ⟨k + 1, by omega, by go_num, below_drewN hbw _⟩
      case measure => simp [intOf] <;> omega
    · obtain rfl : k = n := by omega
      go_wp2_with fail
      go_ret
      exact ⟨rfl, hbw⟩
theorem RG_set {W : World} {base : Nat} {e : TypeId} {m cap g k f : Nat} {X : Nat → Nat → Int} {v : Int} (h : W.ownsRow base e 5 (.slice (some ⟨g, 0, none⟩) m cap) m (rds X m)) (hk : k < m) (hf : f < 5) :
    RG (W.setCell ⟨g, k * 5 + f, none⟩ (rcv f v)) (some ⟨g, 0, none⟩) m (setN X k f v) ∧ W.frozen? ⟨g, k * 5 + f, none⟩ = false ∧ W.cell? ⟨g, k * 5 + f, none⟩ = some (rcv f (X k f)) := by
  have hat : ∀ i, i < m → ∀ j, j < 5 → W.cell? ⟨g, i * 5 + j, none⟩ = some (rcv j (X i j)) := fun i hi j hj => by
    rw [h.cellAt _ (by omega)]
    exact rds_get X m i hi j hj
  rcases h.2 with ⟨h', _⟩ | ⟨g', cap', cur, h', hB, hgb, h1, h2, h3, h4⟩
  · cases h'
  cases h'
  have hlt : g < W.heap.size := (Array.getElem?_eq_some_iff.1 hgb).1
  refine ⟨RG_iff.2 fun i hi => ⟨g, 0, rfl, by simpa [World.setCell] using hlt, fun j hj => ?_⟩, by simp [World.frozen?, hgb], hat k hk f hf⟩
  have hnew : (W.setCell ⟨g, k * 5 + f, none⟩ (rcv f v)).heap[g]? = some (.cells (cur.setIfInBounds (k * 5 + f) (rcv f v)) e (0, 0)) := by
    simp [World.setCell, Array.getElem?_modify, hgb]
  have hold := hat i hi j hj
  rw [cell_of_row W g _ cur _ (0, 0) hgb] at hold
  rw [cell_of_row _ g _ _ _ (0, 0) hnew, show 0 + i * 5 + j = i * 5 + j by omega]
  by_cases he : i = k ∧ j = f
  · obtain ⟨rfl, rfl⟩ := he
    rw [setN_new]
    have : i * 5 + j < cur.size := (Array.getElem?_eq_some_iff.1 hold).1
    simp [Array.getElem?_setIfInBounds, this]
  · rw [Array.getElem?_setIfInBounds_ne (by omega), hold]
    unfold setN
    rw [if_neg he]
theorem setN_eq5 {X : Nat → Nat → Int} {k f b s : Nat} {v : Int} (hf : f ≤ 4) (hb : 1 ≤ b ∧ b ≤ 255) (hs : s ≤ 7) (hv : bv v = bv (X k f) ^^^ BitVec.ofNat 64 (b * 2 ^ (8 * s))) :
    (∀ j, j < k → eq5 (X j) (setN X k f v j) = true) ∧ eq5 (X k) (setN X k f v k) = false := by
  refine ⟨fun j hj => by rw [setN_row (by omega)]; exact eq5_iff.2 ⟨rfl, rfl, rfl, rfl, rfl⟩, ?_⟩
  have hne := bv_ne hb hs hv
  cases he : eq5 (X k) (setN X k f v k)
  · rfl
  · obtain ⟨h0, h1, h2, h3, h4⟩ := eq5_iff.1 he
    exfalso
    apply hne
    have : f = 0 ∨ f = 1 ∨ f = 2 ∨ f = 3 ∨ f = 4 := by omega
    rcases this with rfl | rfl | rfl | rfl | rfl
    · rw [setN_new] at h0; exact h0.symm
    · rw [setN_new] at h1; exact h1.symm
    · rw [setN_new] at h2; exact h2.symm
    · rw [setN_new] at h3; exact h3.symm
    · rw [setN_new] at h4; exact h4.symm
end Go.Proofs.Ytkhmlbkkdflnoaa.Ch
