/-
  package fair: Valid, validLimits; isOrder of fair and of steps.
-/
import Derived.Test.YtkhmlbkkdflnoaaRwm
namespace Go.Proofs.Ytkhmlbkkdflnoaa.Nm
open Go.RowKit Go.Proofs.Ytkhmlbkkdflnoaa Go
set_option linter.unusedVariables false
attribute [local go_sem ↓] Go.wp_at_zero Go.wp_at_succ

set_option maxHeartbeats 1000000 in
theorem vrow_yes (n : Nat) (r : Int × List Nat) (MA : Option Addr) (mc : Nat) (w : World) (hP : RowP n r) (hR : RZ w MA r.2.length (fun k => ((r.2.getD k 0 : Nat) : Int))) :
    Calls Try.prog 145 #[.agg #[.int .i64 r.1, .slice MA r.2.length mc], .int .i64 (n : Int)] w fun e w' => e = .returned (.bool true) ∧ Below w.heap.size w w' := by
  obtain ⟨c, l⟩ := r
  obtain ⟨⟨h0, h1⟩, hl, ha, hlt⟩ := hP
  simp only at h0 h1 hl ha hlt hR ⊢
  obtain ⟨k0, hk0⟩ : ∃ x, l.length = x := ⟨_, rfl⟩
  rw [hk0] at hl ha hlt hR ⊢
  clear hk0
  have HA := Lib.hid ha
  have HT := Lib.hid hlt
  have HR := Lib.hid hR
  have HB0 : Hid (bef l 0 = -1) := Lib.hid rfl
  clear ha hlt hR
  go_enter Try.func145, Try.ntmps145
  go_upto_region 4 with fail
  all_goals (try (exfalso; omega))
  refine nameW ?_
  intro W0 hW0
  have HBW : Hid (Below w.heap.size w W0) := Lib.hid (by rw [← hW0]; exact bel_alloc (Below.refl _ _) _)
  have d1 : W0.cell? ⟨w.heap.size, 1, none⟩ = some (.slice MA k0 mc) := by rw [← hW0]; simp
  clear hW0
  go_wp2_with fail
  go_loopw [5, 19] (fun s i wr => ∃ k : Nat, k ≤ k0 ∧ i = .int .i64 k ∧ s = .int .i64 (bef l k) ∧ W0 = wr) (fun _ i _ => k0 - (intOf i).toNat)
  case atStart => exact ⟨0, by omega, rfl, by rw [HB0.out], rfl⟩
  case round =>
    obtain ⟨k, hk, rfl, rfl, rfl⟩ := hrel
    obtain ⟨b0, hb0⟩ : ∃ x, bef l k = x := ⟨_, rfl⟩
    have HBK := Lib.hid hb0
    rw [hb0]
    clear hb0
    by_cases hlt : k < k0
    · obtain ⟨b, o, rfl, hl', hc⟩ := (HR.out.keep HBW.out) k hlt
      obtain ⟨m, hm⟩ : ∃ x, l.getD k 0 = x := ⟨_, rfl⟩
      have hc' : W0.cell? ⟨b, o + k, none⟩ = some (.int .i64 ((m : Nat) : Int)) := by rw [hc, ← hm]
      have a1 : b0 < ((m : Nat) : Int) := by rw [← HBK.out, ← hm]; exact HA.out k hlt
      have a2 : m < n := by rw [← hm]; exact HT.out k hlt
      have HS : Hid (bef l (k + 1) = (m : Int)) := Lib.hid (by rw [bef_succ, hm])
      clear hc hm
      go_wp2_with fail
      all_goals (try (exfalso; omega))
      go_roundw
      case rel => exact ⟨k + 1, by omega, by go_num, by rw [HS.out], by simp⟩
      case measure => simp [intOf] <;> omega
    · go_wp2_with fail
      all_goals (try (exfalso; omega))
      go_ret
      exact ⟨rfl, HBW.out⟩
set_option maxHeartbeats 1000000 in
theorem fvalid_yes (n : Nat) (A : Option Addr) (c : Nat) (L : List (Int × List Nat)) (w : World) (hn : n ≤ 16) (hL : L.length ≤ 48) (hP : ∀ i, i < L.length → RowP n (L.getD i (0, []))) (hR : RW w A L) :
    Calls Try.prog 120 #[.slice A L.length c, .int .i64 (n : Int)] w fun e w' => e = .returned (.bool true) ∧ Below w.heap.size w w' := by
  have HP := Lib.hid hP
  have HR := Lib.hid hR
  clear hP hR
  obtain ⟨k0, hk0⟩ : ∃ x, L.length = x := ⟨_, rfl⟩
  have HK := Lib.hid hk0
  rw [hk0] at hL HP ⊢
  clear hk0
  go_enter Try.func120, Try.ntmps120
  go_wp2_with fail
  all_goals (try (exfalso; omega))
  go_loopw [20] (fun i wr => ∃ k : Nat, k ≤ k0 ∧ i = .int .i64 k ∧ Below w.heap.size w wr) (fun i _ => k0 - (intOf i).toNat)
  case atStart => exact ⟨0, by omega, rfl, Below.refl _ _⟩
  case round =>
    obtain ⟨k, hk, rfl, hb⟩ := hrel
    obtain ⟨wa, hwa⟩ : ∃ x, x = wr := ⟨_, rfl⟩
    subst hwa
    have HBa := Lib.hid hb
    clear hb
    by_cases hlt : k < k0
    · obtain ⟨b, o, rfl, hl, h0, MA, mc, h1, ⟨h2, h3⟩, h4⟩ := (HR.out.keep HBa.out) k (by rw [HK.out]; exact hlt)
      have hrp := HP.out k hlt
      obtain ⟨r, hr⟩ : ∃ x, L.getD k (0, []) = x := ⟨_, rfl⟩
      rw [hr] at h0 h1 h2 h4 hrp
      clear hr
      have HV : Hid (∀ W, Below wa.heap.size wa W → Calls Try.prog 145 #[.agg #[.int .i64 r.1, .slice MA r.2.length mc], .int .i64 (n : Int)] W fun e w' => e = .returned (.bool true) ∧ Below W.heap.size W w') := Lib.hid fun W hW => vrow_yes n _ MA mc W hrp (h4.keep hW)
      clear h4 hrp
      obtain ⟨cp, ml⟩ := r
      obtain ⟨n1, hn1⟩ : ∃ x, ml.length = x := ⟨_, rfl⟩
      simp only [hn1] at h0 h1 h2 HV
      clear hn1
      go_wp2_with (go_at_call 145; with_reducible refine (HV.out _ (by repeat (first | with_reducible exact Below.refl _ _ | with_reducible apply bel_alloc))).mono ?_; rintro e w2 ⟨rfl, hb2⟩)
      all_goals (try (exfalso; omega))
      go_roundw
      case rel => exact ⟨k + 1, by omega, by go_num, (bel_alloc HBa.out _).trans (hb2.mono (bel_alloc HBa.out _).size)⟩
      case measure => simp [intOf] <;> omega
    · go_wp2_with fail
      all_goals (try (exfalso; omega))
      go_ret
      exact ⟨rfl, HBa.out⟩
set_option maxHeartbeats 1000000 in
theorem vlimits_yes (n : Nat) (A : Option Addr) (c : Nat) (L : List (Int × List Nat)) (B : Option Addr) (d : Nat) (z : Nat → Int) (w : World) (hn : n ≤ 16) (hL : L.length ≤ 48) (hP : ∀ i, i < L.length → RowP n (L.getD i (0, []))) (hR : RW w A L) (hz : RZ w B n z) (hb : ∀ i, i < n → 0 ≤ z i ∧ z i ≤ 80) :
    Calls Try.prog 79 #[.slice A L.length c, .slice B n d] w fun e w' => e = .returned (.bool true) ∧ Below w.heap.size w w' := by
  have HV := Lib.hid (fvalid_yes n A c L w hn hL hP hR)
  have HZ := Lib.hid hz
  have HBD := Lib.hid hb
  clear hP hR hz hb
  obtain ⟨k0, hk0⟩ : ∃ x, L.length = x := ⟨_, rfl⟩
  rw [hk0] at hL HV ⊢
  clear hk0
  go_enter Try.func79, Try.ntmps79
  go_upto_region 3 with (go_at_call 120; with_reducible refine (HV.out).mono ?_; rintro e W0 ⟨rfl, hb0⟩)
  all_goals (try (exfalso; omega))
  have HB0 := Lib.hid hb0
  clear hb0
  go_wp2_with fail
  go_loopw [14] (fun i wr => ∃ k : Nat, k ≤ n ∧ i = .int .i64 k ∧ W0 = wr) (fun i _ => n - (intOf i).toNat)
  case atStart => exact ⟨0, by omega, rfl, rfl⟩
  case round =>
    obtain ⟨k, hk, rfl, rfl⟩ := hrel
    by_cases hlt : k < n
    · obtain ⟨b, o, rfl, hl, h0⟩ := (HZ.out.keep HB0.out) k hlt
      obtain ⟨g1, g2⟩ := HBD.out k hlt
      go_wp2_with fail
      all_goals (try (exfalso; omega))
      go_roundw
      case rel => exact ⟨k + 1, by omega, by go_num, by simp⟩
      case measure => simp [intOf] <;> omega
    · go_wp2_with fail
      all_goals (try (exfalso; omega))
      go_ret
      exact ⟨rfl, HB0.out⟩
def seenV (z : Nat → Int) (k : Nat) (m : Nat) : Bool := (List.range k).any fun j => z j == (m : Int)
theorem seenV_zero (z : Nat → Int) (m : Nat) : seenV z 0 m = false := rfl
theorem seenV_succ (z : Nat → Int) (k m : Nat) : seenV z (k + 1) m = (seenV z k m || (z k == (m : Int))) := by simp [seenV, List.range_succ]
theorem seenV_no {z : Nat → Int} {k m : Nat} (h : ∀ j, j < k → z j ≠ (m : Int)) : seenV z k m = false := by
  simp only [seenV, List.any_eq_false, List.mem_range]
  intro j hj
  simpa using h j hj
theorem infoBool : (Try.prog.info? 4).map (fun i => (i.zero, i.size, i.bytes)) = some (some (.bool false), 1, 1) := by kernel_rfl
set_option maxHeartbeats 2000000 in
theorem ford_yes (A : Option Addr) (n c : Nat) (z : Nat → Int) (w : World) (hn : n ≤ 16) (hR : RZ w A n z) (hO : OrP n n z) :
    Calls Try.prog 80 #[.slice A n c, .int .i64 (n : Int)] w fun e w' => e = .returned (.bool true) ∧ Below w.heap.size w w' := by
  have HR := Lib.hid hR
  have HO := Lib.hid hO
  have hmk := run_make_row' (P := Try.prog) 38 4 (.bool false) 1 Try.underlying38 infoBool rfl .i64 .i64 n (by omega) (by omega)
  clear hR hO
  go_enter Try.func80, Try.ntmps80
  go_upto_region 4 with fail
  all_goals (try (exfalso; omega))
  refine nameW ?_
  intro W0 hW0
  obtain ⟨g, hg⟩ : ∃ x, w.heap.size = x := ⟨_, rfl⟩
  have HG := Lib.hid hg
  have HI0 : Hid (W0.rowIs g 4 n (fun m => .bool (seenV z 0 m))) := Lib.hid (by rw [← hW0, ← hg]; exact (World.rowIs_made w (.bool false) n 4).congr (fun i _ => by rw [seenV_zero]))
  have HB0 : Hid (Below w.heap.size w W0) := Lib.hid (by rw [← hW0]; exact bel_alloc (Below.refl _ _) _)
  rw [hg]
  clear hW0 hg
  go_wp2_with fail
  go_loopw [16] (fun i wr => ∃ k : Nat, k ≤ n ∧ i = .int .i64 k ∧ wr.rowIs g 4 n (fun m => .bool (seenV z k m)) ∧ Below w.heap.size w wr) (fun i _ => n - (intOf i).toNat)
  case atStart => exact ⟨0, by omega, rfl, HI0.out, HB0.out⟩
  case round =>
    obtain ⟨k, hk, rfl, hrow, hb⟩ := hrel
    obtain ⟨wa, hwa⟩ : ∃ x, x = wr := ⟨_, rfl⟩
    subst hwa
    have HBa := Lib.hid hb
    have HRow := Lib.hid hrow
    clear hb hrow HI0
    by_cases hlt : k < n
    · obtain ⟨b, o, rfl, hl, h0⟩ := (HR.out.keep HBa.out) k hlt
      obtain ⟨⟨g1, g2⟩, g3⟩ := HO.out.2 k hlt
      obtain ⟨m, hm⟩ : ∃ m : Nat, z k = (m : Int) := ⟨(z k).toNat, by omega⟩
      have HM := Lib.hid hm
      rw [hm] at h0 g1 g2
      have c0 : wa.cell? ⟨g, m, none⟩ = some (.bool false) := by
        have := HRow.out.cell (i := m) (by omega)
        rwa [seenV_no (fun j hj => by rw [← hm]; exact g3 j hj)] at this
      have f0 : wa.frozen? ⟨g, m, none⟩ = false := HRow.out.frozen m
      clear hm g3
      go_wp2_with fail
      all_goals (try (exfalso; omega))
      go_roundw
      case rel =>
        refine ⟨k + 1, by omega, by go_num, (HRow.out.set m (.bool true)).congr fun i hi => ?_, HBa.out.setCell (p := ⟨g, m, none⟩) (Nat.le_of_eq HG.out) _⟩
        simp only [seenV_succ]
        rw [HM.out]
        by_cases hi' : i = m
        · subst hi'; simp
        · have : ¬ ((m : Int) = (i : Int)) := by omega
          simp [hi', this]
      case measure => simp [intOf] <;> omega
    · go_wp2_with fail
      all_goals (try (exfalso; omega))
      go_ret
      exact ⟨rfl, HBa.out⟩
set_option maxHeartbeats 2000000 in
theorem sord_yes (A : Option Addr) (n c : Nat) (z : Nat → Int) (w : World) (hn : n ≤ 16) (hR : RZ w A n z) (hO : OrP n n z) :
    Calls Try.prog 85 #[.slice A n c, .int .i64 (n : Int)] w fun e w' => e = .returned (.bool true) ∧ Below w.heap.size w w' := by
  have HR := Lib.hid hR
  have HO := Lib.hid hO
  have hmk := run_make_row' (P := Try.prog) 38 4 (.bool false) 1 Try.underlying38 infoBool rfl .i64 .i64 n (by omega) (by omega)
  clear hR hO
  go_enter Try.func85, Try.ntmps85
  go_upto_region 4 with fail
  all_goals (try (exfalso; omega))
  refine nameW ?_
  intro W0 hW0
  obtain ⟨g, hg⟩ : ∃ x, w.heap.size = x := ⟨_, rfl⟩
  have HG := Lib.hid hg
  have HI0 : Hid (W0.rowIs g 4 n (fun m => .bool (seenV z 0 m))) := Lib.hid (by rw [← hW0, ← hg]; exact (World.rowIs_made w (.bool false) n 4).congr (fun i _ => by rw [seenV_zero]))
  have HB0 : Hid (Below w.heap.size w W0) := Lib.hid (by rw [← hW0]; exact bel_alloc (Below.refl _ _) _)
  rw [hg]
  clear hW0 hg
  go_wp2_with fail
  go_loopw [16] (fun i wr => ∃ k : Nat, k ≤ n ∧ i = .int .i64 k ∧ wr.rowIs g 4 n (fun m => .bool (seenV z k m)) ∧ Below w.heap.size w wr) (fun i _ => n - (intOf i).toNat)
  case atStart => exact ⟨0, by omega, rfl, HI0.out, HB0.out⟩
  case round =>
    obtain ⟨k, hk, rfl, hrow, hb⟩ := hrel
    obtain ⟨wa, hwa⟩ : ∃ x, x = wr := ⟨_, rfl⟩
    subst hwa
    have HBa := Lib.hid hb
    have HRow := Lib.hid hrow
    clear hb hrow HI0
    by_cases hlt : k < n
    · obtain ⟨b, o, rfl, hl, h0⟩ := (HR.out.keep HBa.out) k hlt
      obtain ⟨⟨g1, g2⟩, g3⟩ := HO.out.2 k hlt
      obtain ⟨m, hm⟩ : ∃ m : Nat, z k = (m : Int) := ⟨(z k).toNat, by omega⟩
      have HM := Lib.hid hm
      rw [hm] at h0 g1 g2
      have c0 : wa.cell? ⟨g, m, none⟩ = some (.bool false) := by
        have := HRow.out.cell (i := m) (by omega)
        rwa [seenV_no (fun j hj => by rw [← hm]; exact g3 j hj)] at this
      have f0 : wa.frozen? ⟨g, m, none⟩ = false := HRow.out.frozen m
      clear hm g3
      go_wp2_with fail
      all_goals (try (exfalso; omega))
      go_roundw
      case rel =>
        refine ⟨k + 1, by omega, by go_num, (HRow.out.set m (.bool true)).congr fun i hi => ?_, HBa.out.setCell (p := ⟨g, m, none⟩) (Nat.le_of_eq HG.out) _⟩
        simp only [seenV_succ]
        rw [HM.out]
        by_cases hi' : i = m
        · subst hi'; simp
        · have : ¬ ((m : Int) = (i : Int)) := by omega
          simp [hi', this]
      case measure => simp [intOf] <;> omega
    · go_wp2_with fail
      all_goals (try (exfalso; omega))
      go_ret
      exact ⟨rfl, HBa.out⟩
end Go.Proofs.Ytkhmlbkkdflnoaa.Nm
