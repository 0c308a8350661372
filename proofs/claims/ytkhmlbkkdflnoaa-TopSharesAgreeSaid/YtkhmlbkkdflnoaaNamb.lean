/-
  NAMES, second part: a name as the only item of a tree is valid.
-/
import Derived.Test.YtkhmlbkkdflnoaaNam
namespace Go.Proofs.Ytkhmlbkkdflnoaa.Nm
open Go.RowKit Go.Proofs.Ytkhmlbkkdflnoaa Go
set_option linter.unusedVariables false
attribute [local go_sem ↓] Go.wp_at_zero Go.wp_at_succ

set_option maxRecDepth 100000 in
set_option maxHeartbeats 1000000 in
theorem validItem_yes (s : ByteArray) (lb : Nat) (w : World) (h : NameP s) (hl : lb < w.heap.size) (hL : w.heap[lb]? = some (.cells #[.int .i64 1498] 3 (0, 0))) :
    Calls Try.prog 147 #[.agg #[.int .i64 2, .string s, .int .i64 3, .int .i64 0, .slice none 0 0], .pointer (some ⟨lb, 0, none⟩)] w fun e w' => e = .returned (.bool true) ∧ Below lb w w' := by
  have H := Lib.hid h
  clear h
  go_enter Try.func147, Try.ntmps147
  go_wp2_with (first
    | (go_at_call 152; with_reducible refine (goodName_yes s _ H.out).mono ?_; rintro e w1 ⟨rfl, rfl⟩))
  obtain ⟨W, hW⟩ : ∃ W, w.alloc (.cells #[.int .i64 2, .string s, .int .i64 3, .int .i64 0, .slice none 0 0] 221) = W := ⟨_, rfl⟩
  have hb : Below w.heap.size w W := by rw [← hW]; exact (Below.refl _ _).alloc (Nat.le_refl _) _
  have hN : W.heap[w.heap.size]? = some (.cells #[.int .i64 2, .string s, .int .i64 3, .int .i64 0, .slice none 0 0] 221 (0, 0)) := by rw [← hW]; exact heap_alloc_new w _
  have hsz : W.heap.size = w.heap.size + 1 := by rw [← hW]; simp
  have c2 : W.cell? ⟨w.heap.size, 2, none⟩ = some (.int .i64 3) := by rw [cell_of_row W _ 2 _ _ (0, 0) hN]; rfl
  have c4 : W.cell? ⟨w.heap.size, 4, none⟩ = some (.slice none 0 0) := by rw [cell_of_row W _ 4 _ _ (0, 0) hN]; rfl
  have hL1 := (hb.block lb hl).trans hL
  have cl : W.cell? ⟨lb, 0, none⟩ = some (.int .i64 1498) := by rw [cell_of_row W _ 0 _ _ (0, 0) hL1]; rfl
  have fl : W.frozen? ⟨lb, 0, none⟩ = false := by simp [World.frozen?, hL1]
  rw [hW]
  clear hW hN hL hL1
  have hwr : IntKind.i64.wrap 1498 = 1498 := by go_num
  go_still_tail 8, (by kernel_rfl)
  change wpList _ _ _ _ _ W.drew
  have hb1 : Below w.heap.size w W.drew := hb.drew
  have d2 : W.drew.cell? ⟨w.heap.size, 2, none⟩ = some (.int .i64 3) := c2
  have d4 : W.drew.cell? ⟨w.heap.size, 4, none⟩ = some (.slice none 0 0) := c4
  have dl : W.drew.cell? ⟨lb, 0, none⟩ = some (.int .i64 1498) := cl
  have df : W.drew.frozen? ⟨lb, 0, none⟩ = false := fl
  have dz : W.drew.heap.size = w.heap.size + 1 := hsz
  generalize W.drew = V at *
  go_upto_region 4 with fail
  have hb2 : Below lb w (V.setCell ⟨lb, 0, none⟩ (.int .i64 1498)) := (hb1.mono (Nat.le_of_lt hl)).setCell (p := ⟨lb, 0, none⟩) (Nat.le_refl lb) _
  have e2 : (V.setCell ⟨lb, 0, none⟩ (.int .i64 1498)).cell? ⟨w.heap.size, 2, none⟩ = some (.int .i64 3) := by rw [World.cell?_setCell_far _ _ _ _ (by simp; omega)]; exact d2
  have e4 : (V.setCell ⟨lb, 0, none⟩ (.int .i64 1498)).cell? ⟨w.heap.size, 4, none⟩ = some (.slice none 0 0) := by rw [World.cell?_setCell_far _ _ _ _ (by simp; omega)]; exact d4
  have el : (V.setCell ⟨lb, 0, none⟩ (.int .i64 1498)).cell? ⟨lb, 0, none⟩ = some (.int .i64 1498) := World.cell?_setCell_same _ _ _ dl
  generalize V.setCell ⟨lb, 0, none⟩ (.int .i64 1498) = V2 at *
  clear d2 d4 dl df c2 c4 cl fl
  go_wp2_with fail
  go_loopw [5, 42] (fun x i wr => x = .bool false ∧ i = .int .i64 0 ∧ V2 = wr) (fun x i _ => 0)
  case atStart => exact ⟨rfl, rfl, rfl⟩
  case round =>
    obtain ⟨rfl, rfl, rfl⟩ := hrel
    go_wp2
    go_ret
    exact ⟨rfl, hb2⟩
set_option maxRecDepth 100000 in
set_option maxHeartbeats 1000000 in
theorem valid_yes (s : ByteArray) (g : Nat) (w : World) (h : NameP s) (hg : g < w.heap.size) (c0 : w.heap[g]? = some (.cells #[.int .i64 2, .string s, .int .i64 3, .int .i64 0, .slice none 0 0] 221 (0, 0))) :
    Calls Try.prog 135 #[.agg #[.int .i64 1, .string ⟨#[]⟩, .int .i64 0, .int .i64 0, .slice (some ⟨g, 0, none⟩) 1 1]] w fun e w' => e = .returned (.bool true) ∧ Below w.heap.size w w' := by
  have H := Lib.hid h
  have HC := Lib.hid c0
  have a0 : w.cell? ⟨g, 0, none⟩ = some (.int .i64 2) := by rw [cell_of_row w _ 0 _ _ (0, 0) c0]; rfl
  have a1 : w.cell? ⟨g, 1, none⟩ = some (.string s) := by rw [cell_of_row w _ 1 _ _ (0, 0) c0]; rfl
  have a2 : w.cell? ⟨g, 2, none⟩ = some (.int .i64 3) := by rw [cell_of_row w _ 2 _ _ (0, 0) c0]; rfl
  have a3 : w.cell? ⟨g, 3, none⟩ = some (.int .i64 0) := by rw [cell_of_row w _ 3 _ _ (0, 0) c0]; rfl
  have a4 : w.cell? ⟨g, 4, none⟩ = some (.slice none 0 0) := by rw [cell_of_row w _ 4 _ _ (0, 0) c0]; rfl
  clear h c0
  go_enter Try.func135, Try.ntmps135
  go_wp2_with fail
  obtain ⟨V, hV⟩ : ∃ V, (w.alloc (.cells #[.int .i64 1, .string ⟨#[]⟩, .int .i64 0, .int .i64 0, .slice (some ⟨g, 0, none⟩) 1 1] 221)).alloc (.cells #[.int .i64 1498] 3) = V := ⟨_, rfl⟩
  have hb : Below w.heap.size w V := by rw [← hV]; exact ((Below.refl _ _).alloc (Nat.le_refl _) _).alloc (by simp) _
  have hL : V.heap[w.heap.size + 1]? = some (.cells #[.int .i64 1498] 3 (0, 0)) := by
    rw [← hV]
    have := heap_alloc_new (w.alloc (.cells #[.int .i64 1, .string ⟨#[]⟩, .int .i64 0, .int .i64 0, .slice (some ⟨g, 0, none⟩) 1 1] 221)) (.cells #[.int .i64 1498] 3)
    rwa [World.size_alloc] at this
  have hsz : V.heap.size = w.heap.size + 2 := by rw [← hV]; simp
  rw [hV]
  clear hV
  have b0 : V.cell? ⟨g, 0, none⟩ = some (.int .i64 2) := (hb.cell hg).trans a0
  have b1 : V.cell? ⟨g, 1, none⟩ = some (.string s) := (hb.cell hg).trans a1
  have b2 : V.cell? ⟨g, 2, none⟩ = some (.int .i64 3) := (hb.cell hg).trans a2
  have b3 : V.cell? ⟨g, 3, none⟩ = some (.int .i64 0) := (hb.cell hg).trans a3
  have b4 : V.cell? ⟨g, 4, none⟩ = some (.slice none 0 0) := (hb.cell hg).trans a4
  clear a0 a1 a2 a3 a4
  go_loopw [30] (fun i wr => ∃ k : Nat, k ≤ 1 ∧ i = .int .i64 k ∧ (k = 0 → V = wr) ∧ Below w.heap.size w wr) (fun i _ => 1 - (intOf i).toNat)
  case atStart => exact ⟨0, by omega, rfl, fun _ => rfl, hb⟩
  case round =>
    obtain ⟨k, hk, rfl, hV, hbx⟩ := hrel
    rcases Nat.lt_or_ge k 1 with hlt | hge
    · obtain rfl : k = 0 := by omega
      obtain rfl := hV rfl
      go_wp2_with (go_at_call 147; with_reducible refine (validItem_yes s (w.heap.size + 1) _ H.out (by simp; omega) ((((Below.refl _ V).alloc (Nat.le_refl _) _).block _ (by omega)).trans hL)).mono ?_; rintro e w1 ⟨rfl, h1⟩)
      go_roundw
      case rel => exact ⟨1, by omega, by go_num, fun h => absurd h (by omega), (hb.trans ((((Below.refl _ V).alloc (Nat.le_refl _) _).mono (by omega)).trans (h1.mono (by omega))))⟩
      case measure => simp [intOf]
    · obtain rfl : k = 1 := by omega
      go_wp2
      go_ret
      exact ⟨rfl, hbx⟩
set_option maxHeartbeats 1000000 in
theorem siteName_yes (s : ByteArray) (w : World) (h : NameP s) : Calls Try.prog 112 #[.string s] w fun e w' => e = .returned (.bool true) ∧ Below w.heap.size w w' := by
  have H := Lib.hid h
  clear h
  go_enter Try.func112, Try.ntmps112
  have hs : Hid ((w.alloc (.cells #[.int .i64 2, .string s, .int .i64 3, .int .i64 0, .slice none 0 0] 221)).heap.size = w.heap.size + 1) := Lib.hid (by simp)
  have HN := Lib.hid (heap_alloc_new (w.alloc (.cells #[.int .i64 2, .string s, .int .i64 3, .int .i64 0, .slice none 0 0] 221)) (.cells #[.int .i64 2, .string s, .int .i64 3, .int .i64 0, .slice none 0 0] 221))
  go_wp2_with (go_at_call 135; with_reducible refine (valid_yes s (w.heap.size + 1) _ H.out (by simp) (by have := HN.out; rwa [hs.out] at this)).mono ?_; rintro e w1 ⟨rfl, h1⟩)
  go_ret
  exact ⟨rfl, (((Below.refl _ w).alloc (Nat.le_refl _) _).alloc (by simp) _).trans (h1.mono (by simp; omega))⟩

/-- a list of texts in memory -/
def RS (w : World) (A : Option Addr) (n : Nat) (L : Nat → ByteArray) : Prop := ∀ i, i < n → ∃ b o, A = some ⟨b, o, none⟩ ∧ b < w.heap.size ∧ w.cell? ⟨b, o + i, none⟩ = some (.string (L i))
theorem RS.keep {w w' : World} {A : Option Addr} {n : Nat} {L : Nat → ByteArray} (x : RS w A n L) (hb : Below w.heap.size w w') : RS w' A n L := fun i hi => by
  obtain ⟨b, o, e, hl, hc⟩ := x i hi
  exact ⟨b, o, e, Nat.lt_of_lt_of_le hl hb.size, old_at hc hb⟩
set_option maxHeartbeats 1000000 in
theorem in_any (A : Option Addr) (n c : Nat) (L : Nat → ByteArray) (s : ByteArray) (w : World) (hn : n ≤ 1000) (hR : RS w A n L) :
    Calls Try.prog 130 #[.slice A n c, .string s] w fun e w' => (∃ r : Int, e = .returned (.int .i64 r) ∧ (r < 0 → ∀ i, i < n → ((L i).toList == s.toList) = false)) ∧ w' = w := by
  have HR := Lib.hid hR
  clear hR
  go_enter Try.func130, Try.ntmps130
  go_wp2
  go_loopw [5] (fun i wr => ∃ k : Nat, k ≤ n ∧ i = .int .i64 k ∧ (∀ j, j < k → ((L j).toList == s.toList) = false) ∧ w = wr) (fun i _ => n - (intOf i).toNat)
  case atStart => exact ⟨0, by omega, rfl, fun j h => absurd h (by omega), rfl⟩
  case round =>
    obtain ⟨k, hk, rfl, hall, rfl⟩ := hrel
    have HA := Lib.hid hall
    clear hall
    by_cases hlt : k < n
    · obtain ⟨b, o, rfl, hl, hc⟩ := HR.out k hlt
      cases he : ((L k).toList == s.toList)
      · have HE := Lib.hid he
        go_wp2
        all_goals (try (exfalso; omega))
        go_roundw
        case rel => exact ⟨k + 1, by omega, by go_num, all_snoc HA.out HE.out, by simp⟩
        case measure => simp [intOf] <;> omega
      · go_wp2
        all_goals (try (exfalso; omega))
        go_ret
        exact ⟨⟨_, rfl, fun h => absurd h (by omega)⟩, rfl⟩
    · obtain rfl : k = n := by omega
      go_wp2
      all_goals (try (exfalso; omega))
      go_ret
      exact ⟨⟨_, rfl, fun _ => HA.out⟩, rfl⟩
end Go.Proofs.Ytkhmlbkkdflnoaa.Nm
