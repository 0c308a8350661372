/-
  THE WALKS OF THE LAWS over package fuse, second part: FuseRated, FuseHolds, FuseStronger.
-/
import Derived.Test.YthjclpfddfjfhaaLaws
namespace Go.Proofs.Ythjclpfddfjfhaa
open Go.RowKit
set_option linter.unusedVariables false
attribute [local go_sem ↓] Go.wp_at_zero Go.wp_at_succ

theorem melts_ok (r h : Int) (A : Option Addr) (len cap : Nat) (z : Nat → Int) (w : World) (hl : len ≤ 10000) (hR : RZ w A len z) (hv : vF r h = true) (ha : allB z len = true) :
    Calls Try.prog 13 #[.agg #[.int .i64 r, .int .i64 h], .slice A len cap] w
      fun e w' => e = .returned (.tuple #[.int .i64 (mt r h z len), .int .i64 0]) ∧ Below w.heap.size w w' :=
  (melts_any r h A len cap z w (by omega) hR).mono fun e w' x => ⟨x.1.trans (ret_two (by simp [xV, mV, mE, hv, ha]; omega) (by simp [xE, mE, hv, ha]; omega)), x.2⟩
theorem melts_bad (r h : Int) (A : Option Addr) (len cap : Nat) (z : Nat → Int) (w : World) (hl : len ≤ 10000) (hR : RZ w A len z) (ha : (vF r h && allB z len) = false) :
    Calls Try.prog 13 #[.agg #[.int .i64 r, .int .i64 h], .slice A len cap] w
      fun e w' => e = .returned (.tuple #[.int .i64 0, .int .i64 1]) ∧ Below w.heap.size w w' :=
  (melts_any r h A len cap z w (by omega) hR).mono fun e w' x => ⟨x.1.trans (ret_two (by simp [xV, mV, mE, ha]) (by simp [xE, mE, ha]; omega)), x.2⟩
theorem nE_iff {r h t a : Int} : nE r h t a = 0 ↔ vF r h = true ∧ (0 ≤ t ∧ t ≤ h) ∧ (0 ≤ a ∧ a ≤ 1000) := by
  unfold nE
  cases hv : vF r h <;> simp [inB]
  omega
theorem next_ok (r h t a : Int) (w : World) (h0 : nE r h t a = 0) :
    Calls Try.prog 11 #[.agg #[.int .i64 r, .int .i64 h], .int .i64 t, .int .i64 a] w fun e w' => e = .returned (.tuple #[.int .i64 (nH r t a), .int .i64 0]) ∧ Below w.heap.size w w' :=
  (next_any r h t a w).mono fun e w' x => ⟨x.1.trans (ret_two (by simp [nV, h0]) h0), x.2⟩
theorem nE_01 (r h t a : Int) : nE r h t a = 0 ∨ nE r h t a = 1 := by unfold nE; split <;> simp
theorem next_bad (r h t a : Int) (w : World) (h0 : nE r h t a ≠ 0) :
    Calls Try.prog 11 #[.agg #[.int .i64 r, .int .i64 h], .int .i64 t, .int .i64 a] w fun e w' => e = .returned (.tuple #[.int .i64 0, .int .i64 1]) ∧ Below w.heap.size w w' :=
  (next_any r h t a w).mono fun e w' x => ⟨x.1.trans (ret_two (by simp [nV, h0]) (by have := nE_01 r h t a; omega)), x.2⟩
theorem holds_ok (r h t a : Int) (w : World) (h0 : nE r h t a = 0) :
    Calls Try.prog 15 #[.agg #[.int .i64 r, .int .i64 h], .int .i64 t, .int .i64 a] w fun e w' => e = .returned (.tuple #[.int .i64 (hd r h t a), .int .i64 0]) ∧ Below w.heap.size w w' :=
  (holds_any r h t a w).mono fun e w' x => ⟨x.1.trans (ret_two (by simp [oV, h0]) h0), x.2⟩
theorem holds_bad (r h t a : Int) (w : World) (h0 : nE r h t a ≠ 0) :
    Calls Try.prog 15 #[.agg #[.int .i64 r, .int .i64 h], .int .i64 t, .int .i64 a] w fun e w' => e = .returned (.tuple #[.int .i64 0, .int .i64 1]) ∧ Below w.heap.size w w' :=
  (holds_any r h t a w).mono fun e w' x => ⟨x.1.trans (ret_two (by simp [oV, h0]) (by have := nE_01 r h t a; omega)), x.2⟩
theorem nH_le {r t a : Int} (ht : 0 ≤ t) (hm : mo r a ≤ 0) : nH r t a ≤ t := by rw [nH_mo ht]; omega

set_option maxHeartbeats 2000000 in
set_option maxRecDepth 100000 in
theorem rated_v (r h t : Int) (A : Option Addr) (len cap : Nat) (z : Nat → Int) (w : World) (hl : len ≤ 9223372036854775807) (hR : RZ w A len z) (hv : vF r h = false) :
    Calls Try.prog 4 #[.agg #[.int .i64 r, .int .i64 h], .int .i64 t, .slice A len cap] w fun e w' => e = .returned (.bool true) ∧ Below w.heap.size w w' := by
  have HR := Lib.hid hR
  clear hR
  go_enter Try.func4, Try.ntmps4
  go_wp2_with fail
  refine (head_any _).mono ?_
  rintro e w1 ⟨rfl, hb⟩
  have mf := (FB.new w r h).keep hb
  obtain ⟨c0, c1⟩ := mf.cells
  have h0 := bel_step (bel_alloc (Below.refl w.heap.size w) _) hb
  clear hb
  go_wp2_with fail
  refine (rvalid r h _).mono ?_
  rintro e w2 ⟨rfl, hb⟩
  have mf := mf.keep hb
  clear c0 c1
  obtain ⟨c0, c1⟩ := mf.cells
  have h0 := bel_step h0 hb
  clear hb
  rw [hv]
  go_wp2_with fail
  go_ret
  exact ⟨rfl, h0⟩
set_option maxHeartbeats 2000000 in
set_option maxRecDepth 100000 in
theorem rated_c (r h t : Int) (A : Option Addr) (len cap : Nat) (z : Nat → Int) (w : World) (hl : len ≤ 9223372036854775807) (hR : RZ w A len z) (hv : vF r h = true) (hc : cuB z len r = false) :
    Calls Try.prog 4 #[.agg #[.int .i64 r, .int .i64 h], .int .i64 t, .slice A len cap] w fun e w' => e = .returned (.bool true) ∧ Below w.heap.size w w' := by
  have HR := Lib.hid hR
  clear hR
  go_enter Try.func4, Try.ntmps4
  go_wp2_with fail
  refine (head_any _).mono ?_
  rintro e w1 ⟨rfl, hb⟩
  have mf := (FB.new w r h).keep hb
  obtain ⟨c0, c1⟩ := mf.cells
  have h0 := bel_step (bel_alloc (Below.refl w.heap.size w) _) hb
  clear hb
  go_wp2_with fail
  refine (rvalid r h _).mono ?_
  rintro e w2 ⟨rfl, hb⟩
  have mf := mf.keep hb
  clear c0 c1
  obtain ⟨c0, c1⟩ := mf.cells
  have h0 := bel_step h0 hb
  clear hb
  rw [hv]
  go_wp2_with fail
  refine (currents_any A len cap z r _ hl (HR.out.keep h0)).mono ?_
  rintro e w3 ⟨rfl, rfl⟩
  rw [hc]
  go_wp2_with fail
  go_ret
  exact ⟨rfl, h0⟩
set_option maxHeartbeats 2000000 in
set_option maxRecDepth 100000 in
theorem rated_y (r h t : Int) (A : Option Addr) (len cap : Nat) (z : Nat → Int) (w : World) (hl : len ≤ 9223372036854775807) (hR : RZ w A len z) (hv : vF r h = true) (hc : cuB z len r = true) :
    Calls Try.prog 4 #[.agg #[.int .i64 r, .int .i64 h], .int .i64 t, .slice A len cap] w fun e w' => e = .returned (.bool true) ∧ Below w.heap.size w w' := by
  have hcb := cuB_iff.1 hc
  have hvb := vF_iff.1 hv
  have ha : allB z len = true := allB_iff.2 fun i hi => by have := hcb.1 i hi; omega
  have hmt : mt r h z len = -1 := mt_rated (by omega) (by omega) hcb.1
  have HM := Lib.hid hmt
  have HZ := Lib.hid hcb.1
  have hl2 := hcb.2
  clear hmt hcb
  have HR := Lib.hid hR
  clear hR
  go_enter Try.func4, Try.ntmps4
  go_wp2_with fail
  refine (head_any _).mono ?_
  rintro e w1 ⟨rfl, hb⟩
  have mf := (FB.new w r h).keep hb
  obtain ⟨c0, c1⟩ := mf.cells
  have h0 := bel_step (bel_alloc (Below.refl w.heap.size w) _) hb
  clear hb
  go_wp2_with fail
  refine (rvalid r h _).mono ?_
  rintro e w2 ⟨rfl, hb⟩
  have mf := mf.keep hb
  clear c0 c1
  obtain ⟨c0, c1⟩ := mf.cells
  have h0 := bel_step h0 hb
  clear hb
  rw [hv]
  go_wp2_with fail
  refine (currents_any A len cap z r _ hl (HR.out.keep h0)).mono ?_
  rintro e w3 ⟨rfl, rfl⟩
  rw [hc]
  go_wp2_with fail
  refine (melts_ok r h A len cap z _ hl2 (HR.out.keep h0) hv ha).mono ?_
  rintro e w3 ⟨rfl, hb⟩
  have mf := mf.keep hb
  clear c0 c1
  obtain ⟨c0, c1⟩ := mf.cells
  have h0 := bel_step h0 hb
  clear hb
  rw [HM.out]
  go_wp2_with fail
  have hR3 := Lib.hid (HR.out.keep h0)
  clear c0 c1
  go_loopw [1, 7, 11] (fun q u i wr => ∃ (k : Nat) (s : Int), k ≤ len ∧ i = .int .i64 k ∧ q = .int .i64 s ∧ u = .bool true ∧ Below w3.heap.size w3 wr) (fun _ _ i _ => len - (intOf i).toNat)
  case atStart => exact ⟨0, t, Nat.zero_le _, rfl, rfl, rfl, Below.refl _ _⟩
  case round =>
    obtain ⟨k, s, hk, rfl, rfl, rfl, hbw⟩ := hrel
    have mf1 := mf.keep hbw
    by_cases hlt : k < len
    · obtain ⟨b, o, rfl, hb, hcell⟩ := (hR3.out.keep hbw) k hlt
      have hzk := HZ.out k hlt
      have hmo := mo_le (r := r) (a := z k) (by omega) hzk.1 hzk.2
      have i0 : (0 : Int) ≤ (k : Int) := by omega
      have i1 : (k : Int) < (len : Int) := by omega
      obtain ⟨d0, d1⟩ := mf1.cells
      go_wp2_with fail
      by_cases hn : nE r h s (z k) = 0
      · have hs := (nE_iff.1 hn).2.1
        have hle := nH_le hs.1 hmo
        have HN := Lib.hid hn
        clear hn
        go_region_held3 (fun w' => w'.cell? ⟨w.heap.size, 0, none⟩ = some (.int .i64 r) ∧ w'.cell? ⟨w.heap.size, 1, none⟩ = some (.int .i64 h) ∧ w'.cell? ⟨b, o + k, none⟩ = some (.int .i64 (z k))) (go_keep)
          (first
            | (go_at_call 11; refine (next_ok r h s (z k) _ HN.out).mono ?_; rintro e w4 ⟨rfl, hb4⟩; have h4 := bel_step (by repeat (first | exact hbw | apply Below.drew)) hb4; have cc := (hb4.cell (p := ⟨b, o + k, none⟩) hb).trans hcell; clear hb4; have mf4 := mf.keep h4; obtain ⟨x0, x1⟩ := mf4.cells))
        go_wp2_with fail
        go_roundw
        case rel => exact ⟨k + 1, _, by omega, by go_num, rfl, rfl, h4⟩
        case measure => simp [intOf]; omega
      · have HN := Lib.hid hn
        clear hn
        go_region_held3 (fun w' => w'.cell? ⟨w.heap.size, 0, none⟩ = some (.int .i64 r) ∧ w'.cell? ⟨w.heap.size, 1, none⟩ = some (.int .i64 h) ∧ w'.cell? ⟨b, o + k, none⟩ = some (.int .i64 (z k))) (go_keep)
          (first
            | (go_at_call 11; refine (next_bad r h s (z k) _ HN.out).mono ?_; rintro e w4 ⟨rfl, hb4⟩; have h4 := bel_step (by repeat (first | exact hbw | apply Below.drew)) hb4; have cc := (hb4.cell (p := ⟨b, o + k, none⟩) hb).trans hcell; clear hb4; have mf4 := mf.keep h4; obtain ⟨x0, x1⟩ := mf4.cells))
        go_wp2_with fail
        go_roundw
        case rel => exact ⟨k + 1, _, by omega, by go_num, rfl, rfl, h4⟩
        case measure => simp [intOf]; omega
    · go_wp2_with fail
      go_ret
      exact ⟨rfl, bel_step h0 hbw⟩
theorem walk_rated (r h t : Int) (A : Option Addr) (len cap : Nat) (z : Nat → Int) (w : World) (hl : len ≤ 9223372036854775807) (hR : RZ w A len z) :
    Calls Try.prog 4 #[.agg #[.int .i64 r, .int .i64 h], .int .i64 t, .slice A len cap] w fun e w' => e = .returned (.bool true) ∧ Below w.heap.size w w' := by
  cases hv : vF r h
  · exact rated_v r h t A len cap z w hl hR hv
  · cases hc : cuB z len r
    · exact rated_c r h t A len cap z w hl hR hv hc
    · exact rated_y r h t A len cap z w hl hR hv hc

theorem hk_ok {r h t a : Int} (hn : nE r h t a = 0) (hm : 0 < mo r a) (k : Nat) (hk' : (k : Int) ≤ hd r h t a) : nE r h (hk r a t k) a = 0 := by
  have hx := nE_iff.1 hn
  have h1 := (hd_holds hm hx.2.1.1 k).1 hk'
  refine nE_iff.2 ⟨hx.1, ⟨?_, h1⟩, hx.2.2⟩
  rw [hk_eq hx.2.1.1 hm]
  have : 0 ≤ (k : Int) * mo r a := Int.mul_nonneg (by omega) (by omega)
  omega
set_option maxHeartbeats 2000000 in
set_option maxRecDepth 100000 in
theorem hol_bad (r h t a : Int) (w : World) (hn : nE r h t a ≠ 0) :
    Calls Try.prog 7 #[.agg #[.int .i64 r, .int .i64 h], .int .i64 t, .int .i64 a] w fun e w' => e = .returned (.bool true) ∧ Below w.heap.size w w' := by
  go_enter Try.func7, Try.ntmps7
  go_wp2_with fail
  refine (head_any _).mono ?_
  rintro e w1 ⟨rfl, hb⟩
  have mf := (FB.new w r h).keep hb
  obtain ⟨c0, c1⟩ := mf.cells
  have h0 := bel_step (bel_alloc (Below.refl w.heap.size w) _) hb
  clear hb
  go_wp2_with fail
  refine (holds_bad r h t a _ hn).mono ?_
  rintro e w2 ⟨rfl, hb⟩
  have mf := mf.keep hb
  clear c0 c1
  obtain ⟨c0, c1⟩ := mf.cells
  have h0 := bel_step h0 hb
  clear hb
  go_wp2_with fail
  go_ret
  exact ⟨rfl, h0⟩
set_option maxHeartbeats 2000000 in
set_option maxRecDepth 100000 in
theorem hol_big (r h t a : Int) (w : World) (hn : nE r h t a = 0) (hb5 : 5000 < hd r h t a) :
    Calls Try.prog 7 #[.agg #[.int .i64 r, .int .i64 h], .int .i64 t, .int .i64 a] w fun e w' => e = .returned (.bool true) ∧ Below w.heap.size w w' := by
  have HN := Lib.hid hn
  clear hn
  go_enter Try.func7, Try.ntmps7
  go_wp2_with fail
  refine (head_any _).mono ?_
  rintro e w1 ⟨rfl, hb⟩
  have mf := (FB.new w r h).keep hb
  obtain ⟨c0, c1⟩ := mf.cells
  have h0 := bel_step (bel_alloc (Below.refl w.heap.size w) _) hb
  clear hb
  go_wp2_with fail
  refine (holds_ok r h t a _ HN.out).mono ?_
  rintro e w2 ⟨rfl, hb⟩
  have mf := mf.keep hb
  clear c0 c1
  obtain ⟨c0, c1⟩ := mf.cells
  have h0 := bel_step h0 hb
  clear hb
  go_wp2_with fail
  go_ret
  exact ⟨rfl, h0⟩
set_option maxHeartbeats 2000000 in
set_option maxRecDepth 100000 in
theorem hol_neg (r h t a : Int) (w : World) (hn : nE r h t a = 0) (hm : mo r a ≤ 0) :
    Calls Try.prog 7 #[.agg #[.int .i64 r, .int .i64 h], .int .i64 t, .int .i64 a] w fun e w' => e = .returned (.bool true) ∧ Below w.heap.size w w' := by
  have HD : Hid (hd r h t a = -1) := by show _ = _; unfold hd; rw [if_pos hm]
  have hle := nH_le (nE_iff.1 hn).2.1.1 hm
  have HN := Lib.hid hn
  clear hn
  go_enter Try.func7, Try.ntmps7
  go_wp2_with fail
  refine (head_any _).mono ?_
  rintro e w1 ⟨rfl, hb⟩
  have mf := (FB.new w r h).keep hb
  obtain ⟨c0, c1⟩ := mf.cells
  have h0 := bel_step (bel_alloc (Below.refl w.heap.size w) _) hb
  clear hb
  go_wp2_with fail
  refine (holds_ok r h t a _ HN.out).mono ?_
  rintro e w2 ⟨rfl, hb⟩
  have mf := mf.keep hb
  clear c0 c1
  obtain ⟨c0, c1⟩ := mf.cells
  have h0 := bel_step h0 hb
  clear hb
  rw [HD.out]
  go_wp2_with fail
  refine (next_ok r h t a _ HN.out).mono ?_
  rintro e w3 ⟨rfl, hb⟩
  have mf := mf.keep hb
  clear c0 c1
  obtain ⟨c0, c1⟩ := mf.cells
  have h0 := bel_step h0 hb
  clear hb
  go_wp2_with fail
  go_ret
  exact ⟨rfl, h0⟩
set_option maxHeartbeats 2000000 in
set_option maxRecDepth 100000 in
theorem hol_pos (r h t a : Int) (w : World) (hn : nE r h t a = 0) (hm : 0 < mo r a) (hb5 : hd r h t a ≤ 5000) :
    Calls Try.prog 7 #[.agg #[.int .i64 r, .int .i64 h], .int .i64 t, .int .i64 a] w fun e w' => e = .returned (.bool true) ∧ Below w.heap.size w w' := by
  have hx := nE_iff.1 hn
  have hnn := hd_nonneg (r := r) (a := a) hm hx.2.1.2
  obtain ⟨n, hne⟩ := Int.eq_ofNat_of_zero_le hnn
  have HNE := Lib.hid hne
  have hn5 : n ≤ 5000 := by omega
  have HN := Lib.hid hn
  have HH : Hid (∀ k : Nat, (k : Int) ≤ hd r h t a ↔ hk r a t k ≤ h) := Lib.hid fun k => hd_holds hm hx.2.1.1 k
  have HO : Hid (∀ k : Nat, k ≤ n → nE r h (hk r a t k) a = 0) := Lib.hid fun k hk' => hk_ok hn hm k (by omega)
  clear hn hne hnn hx hb5
  go_enter Try.func7, Try.ntmps7
  go_wp2_with fail
  refine (head_any _).mono ?_
  rintro e w1 ⟨rfl, hb⟩
  have mf := (FB.new w r h).keep hb
  obtain ⟨c0, c1⟩ := mf.cells
  have h0 := bel_step (bel_alloc (Below.refl w.heap.size w) _) hb
  clear hb
  go_wp2_with fail
  refine (holds_ok r h t a _ HN.out).mono ?_
  rintro e w2 ⟨rfl, hb⟩
  have mf := mf.keep hb
  clear c0 c1
  obtain ⟨c0, c1⟩ := mf.cells
  have h0 := bel_step h0 hb
  clear hb
  rw [HNE.out]
  go_wp2_with fail
  clear c0 c1
  go_loopw [1, 12] (fun q i wr => ∃ k : Nat, k ≤ n ∧ i = .int .i64 k ∧ q = .int .i64 (hk r a t k) ∧ Below w2.heap.size w2 wr) (fun _ i _ => n - (intOf i).toNat)
  case atStart => exact ⟨0, Nat.zero_le _, rfl, rfl, Below.refl _ _⟩
  case round =>
    obtain ⟨k, hkn, rfl, rfl, hbw⟩ := hrel
    have mf1 := mf.keep hbw
    have hok := Lib.hid (HO.out k hkn)
    obtain ⟨c0, c1⟩ := mf1.cells
    by_cases hlt : k < n
    · have hle : nH r (hk r a t k) a ≤ h := (HH.out (k + 1)).1 (by rw [HNE.out]; omega)
      go_wp2_with fail
      refine (next_ok r h (hk r a t k) a _ hok.out).mono ?_
      rintro e w3 ⟨rfl, hb⟩
      have h3 := bel_step hbw hb
      clear hb c0 c1
      obtain ⟨c0, c1⟩ := (mf.keep h3).cells
      go_wp2_with fail
      go_roundw
      case rel => exact ⟨k + 1, by omega, by go_num, rfl, h3⟩
      case measure => simp [intOf]; omega
    · obtain rfl : k = n := by omega
      have hgt : h < nH r (hk r a t k) a := Int.not_le.1 fun hx => by have := (HH.out (k + 1)).2 hx; rw [HNE.out] at this; omega
      go_wp2_with fail
      refine (next_ok r h (hk r a t k) a _ hok.out).mono ?_
      rintro e w3 ⟨rfl, hb⟩
      have h3 := bel_step hbw hb
      clear hb c0 c1
      obtain ⟨c0, c1⟩ := (mf.keep h3).cells
      go_wp2_with fail
      go_ret
      exact ⟨rfl, bel_step h0 h3⟩
theorem walk_holds (r h t a : Int) (w : World) :
    Calls Try.prog 7 #[.agg #[.int .i64 r, .int .i64 h], .int .i64 t, .int .i64 a] w fun e w' => e = .returned (.bool true) ∧ Below w.heap.size w w' := by
  by_cases hn : nE r h t a = 0
  · by_cases hm : mo r a ≤ 0
    · exact hol_neg r h t a w hn hm
    · by_cases hb5 : hd r h t a ≤ 5000
      · exact hol_pos r h t a w hn (by omega) hb5
      · exact hol_big r h t a w hn (by omega)
  · exact hol_bad r h t a w hn

set_option maxHeartbeats 2000000 in
set_option maxRecDepth 100000 in
theorem str_no (r h d g : Int) (A : Option Addr) (len cap : Nat) (z : Nat → Int) (c : Int) (w : World) (hl : len ≤ 9223372036854775807) (hR : RZ w A len z) (hg : 10000 < len ∨ d < 0 ∨ g < 0 ∨ r = 0 ∨ 1000 < d ∨ 1000000000 < g) :
    Calls Try.prog 9 #[.agg #[.int .i64 r, .int .i64 h], .int .i64 d, .int .i64 g, .slice A len cap, .int .i64 c] w fun e w' => e = .returned (.bool true) ∧ Below w.heap.size w w' := by
  have HG := Lib.hid hg
  clear hg
  go_enter Try.func9, Try.ntmps9
  go_wp2_with fail
  refine (head_any _).mono ?_
  rintro e w1 ⟨rfl, hb⟩
  have mf := (FB.new w r h).keep hb
  obtain ⟨c0, c1⟩ := mf.cells
  have h0 := bel_step (bel_alloc (Below.refl w.heap.size w) _) hb
  clear hb
  go_wp2_with fail
  all_goals first
    | (go_ret; exact ⟨rfl, h0⟩)
    | (exfalso; have := HG.out; simp_all; omega)
set_option maxHeartbeats 2000000 in
set_option maxRecDepth 100000 in
theorem str_v (r h d g : Int) (A : Option Addr) (len cap : Nat) (z : Nat → Int) (c : Int) (w : World) (hl : len ≤ 9223372036854775807) (hR : RZ w A len z) (hlen : len ≤ 10000) (hd0 : 0 ≤ d) (hg0 : 0 ≤ g) (hr0 : r ≠ 0) (hd1 : d ≤ 1000) (hg1 : g ≤ 1000000000) (hv : vF r h = false) :
    Calls Try.prog 9 #[.agg #[.int .i64 r, .int .i64 h], .int .i64 d, .int .i64 g, .slice A len cap, .int .i64 c] w fun e w' => e = .returned (.bool true) ∧ Below w.heap.size w w' := by
  have e0 : (r == 0) = false := by simpa using hr0
  have HR0 := Lib.hid hr0
  clear hr0
  have HR := Lib.hid hR
  clear hR
  go_enter Try.func9, Try.ntmps9
  go_wp2_with fail
  refine (head_any _).mono ?_
  rintro e w1 ⟨rfl, hb⟩
  have mf := (FB.new w r h).keep hb
  obtain ⟨c0, c1⟩ := mf.cells
  have h0 := bel_step (bel_alloc (Below.refl w.heap.size w) _) hb
  clear hb
  have c2 := mf.lt
  go_wp2_with fail
  all_goals (try (exfalso; omega))
  refine (rvalid r h _).mono ?_
  rintro e w2 ⟨rfl, hb⟩
  have h1 := bel_step (bel_alloc h0 _) hb
  have mg := (FB.new w1 _ _).keep hb
  clear hb c0 c1
  rw [hv]
  obtain ⟨d0, d1⟩ := mg.cells
  go_wp2_with fail
  refine (rvalid _ _ _).mono ?_
  rintro e w3 ⟨rfl, hb⟩
  have h2 := bel_step h1 hb
  clear hb
  go_wp2_with fail
  go_ret
  exact ⟨rfl, h2⟩
set_option maxHeartbeats 2000000 in
set_option maxRecDepth 100000 in
theorem str_v2 (r h d g : Int) (A : Option Addr) (len cap : Nat) (z : Nat → Int) (c : Int) (w : World) (hl : len ≤ 9223372036854775807) (hR : RZ w A len z) (hlen : len ≤ 10000) (hd0 : 0 ≤ d) (hg0 : 0 ≤ g) (hr0 : r ≠ 0) (hd1 : d ≤ 1000) (hg1 : g ≤ 1000000000) (hv : vF r h = true) (hv2 : vF (r + d) (h + g) = false) :
    Calls Try.prog 9 #[.agg #[.int .i64 r, .int .i64 h], .int .i64 d, .int .i64 g, .slice A len cap, .int .i64 c] w fun e w' => e = .returned (.bool true) ∧ Below w.heap.size w w' := by
  have hvb : (1 ≤ r ∧ r ≤ 1000) ∧ (0 ≤ h ∧ h ≤ 1000000000) := by have := vF_iff.1 hv; omega
  have hr1 : 1 ≤ r := by omega
  have e0 : (r == 0) = false := by simpa using hr0
  have HR0 := Lib.hid hr0
  clear hr0
  have HR := Lib.hid hR
  clear hR
  go_enter Try.func9, Try.ntmps9
  go_wp2_with fail
  refine (head_any _).mono ?_
  rintro e w1 ⟨rfl, hb⟩
  have mf := (FB.new w r h).keep hb
  obtain ⟨c0, c1⟩ := mf.cells
  have h0 := bel_step (bel_alloc (Below.refl w.heap.size w) _) hb
  clear hb
  have c2 := mf.lt
  go_wp2_with fail
  all_goals (try (exfalso; omega))
  refine (rvalid r h _).mono ?_
  rintro e w2 ⟨rfl, hb⟩
  have h1 := bel_step (bel_alloc h0 _) hb
  have mg := (FB.new w1 _ _).keep hb
  have mf := (mf.alloc _).keep hb
  clear hb c0 c1
  rw [hv]
  obtain ⟨d0, d1⟩ := mg.cells
  obtain ⟨c0, c1⟩ := mf.cells
  go_wp2_with fail
  refine (rvalid (r + d) (h + g) _).mono ?_
  rintro e w3 ⟨rfl, hb⟩
  have h1 := bel_step h1 hb
  have mg := mg.keep hb
  have mf := mf.keep hb
  clear hb c0 c1 d0 d1
  obtain ⟨d0, d1⟩ := mg.cells
  obtain ⟨c0, c1⟩ := mf.cells
  rw [hv2]
  go_wp2_with fail
  go_ret
  exact ⟨rfl, h1⟩
set_option maxHeartbeats 2000000 in
set_option maxRecDepth 100000 in
theorem str_yy (r h d g : Int) (A : Option Addr) (len cap : Nat) (z : Nat → Int) (c : Int) (w : World) (hl : len ≤ 9223372036854775807) (hR : RZ w A len z) (hlen : len ≤ 10000) (hd0 : 0 ≤ d) (hg0 : 0 ≤ g) (hr0 : r ≠ 0) (hd1 : d ≤ 1000) (hg1 : g ≤ 1000000000) (hv : vF r h = true) (hv2 : vF (r + d) (h + g) = true) (ha : allB z len = true) (hcc : 0 ≤ c ∧ c ≤ 1000) :
    Calls Try.prog 9 #[.agg #[.int .i64 r, .int .i64 h], .int .i64 d, .int .i64 g, .slice A len cap, .int .i64 c] w fun e w' => e = .returned (.bool true) ∧ Below w.heap.size w w' := by
  have hvb : (1 ≤ r ∧ r ≤ 1000) ∧ (0 ≤ h ∧ h ≤ 1000000000) := by have := vF_iff.1 hv; omega
  have hr1 : 1 ≤ r := by omega
  have e0 : (r == 0) = false := by simpa using hr0
  have HR0 := Lib.hid hr0
  clear hr0
  have HR := Lib.hid hR
  clear hR
  obtain ⟨m, hm⟩ : ∃ m, mt r h z len = m := ⟨_, rfl⟩
  obtain ⟨n, hn⟩ : ∃ n, mt (r + d) (h + g) z len = n := ⟨_, rfl⟩
  have hmn := mt_stronger (r := r) (s := r + d) (h := h) (g := h + g) (z := z) (k := len) hr1 (by omega) (by omega)
  rw [hm, hn] at hmn
  have HM := Lib.hid hm
  have HM2 := Lib.hid hn
  clear hm hn
  obtain ⟨a, ho⟩ : ∃ a, hd r h 0 c = a := ⟨_, rfl⟩
  obtain ⟨b, ho2⟩ : ∃ b, hd (r + d) (h + g) 0 c = b := ⟨_, rfl⟩
  have hab := hd_stronger (r := r) (s := r + d) (h := h) (g := h + g) (a := c) hr1 (by omega) (by omega) (by omega)
  rw [ho, ho2] at hab
  have HO := Lib.hid ho
  have HO2 := Lib.hid ho2
  clear ho ho2
  rcases hmn with hx | hx
  · obtain rfl := hx
    rcases hab with hx | hx
    · obtain rfl := hx
      go_enter Try.func9, Try.ntmps9
      go_wp2_with fail
      refine (head_any _).mono ?_
      rintro e w1 ⟨rfl, hb⟩
      have mf := (FB.new w r h).keep hb
      obtain ⟨c0, c1⟩ := mf.cells
      have h0 := bel_step (bel_alloc (Below.refl w.heap.size w) _) hb
      clear hb
      have c2 := mf.lt
      go_wp2_with fail
      all_goals (try (exfalso; omega))
      refine (rvalid r h _).mono ?_
      rintro e w2 ⟨rfl, hb⟩
      have h1 := bel_step (bel_alloc h0 _) hb
      have mg := (FB.new w1 _ _).keep hb
      have mf := (mf.alloc _).keep hb
      clear hb c0 c1
      rw [hv]
      obtain ⟨d0, d1⟩ := mg.cells
      obtain ⟨c0, c1⟩ := mf.cells
      go_wp2_with fail
      refine (rvalid (r + d) (h + g) _).mono ?_
      rintro e w3 ⟨rfl, hb⟩
      have h1 := bel_step h1 hb
      have mg := mg.keep hb
      have mf := mf.keep hb
      clear hb c0 c1 d0 d1
      obtain ⟨d0, d1⟩ := mg.cells
      obtain ⟨c0, c1⟩ := mf.cells
      rw [hv2]
      go_wp2_with fail
      refine (melts_ok r h A len cap z _ hlen (HR.out.keep h1) hv ha).mono ?_
      rintro e w4 ⟨rfl, hb⟩
      have h1 := bel_step h1 hb
      have mg := mg.keep hb
      have mf := mf.keep hb
      clear hb c0 c1 d0 d1
      obtain ⟨d0, d1⟩ := mg.cells
      obtain ⟨c0, c1⟩ := mf.cells
      rw [HM.out]
      go_wp2_with fail
      refine (melts_ok (r + d) (h + g) A len cap z _ hlen (HR.out.keep h1) hv2 ha).mono ?_
      rintro e w5 ⟨rfl, hb⟩
      have h1 := bel_step h1 hb
      have mg := mg.keep hb
      have mf := mf.keep hb
      clear hb c0 c1 d0 d1
      obtain ⟨d0, d1⟩ := mg.cells
      obtain ⟨c0, c1⟩ := mf.cells
      rw [HM2.out]
      go_wp2_with fail
      refine (holds_ok r h 0 c _ (nE_iff.2 ⟨hv, ⟨by omega, by omega⟩, hcc⟩)).mono ?_
      rintro e w6 ⟨rfl, hb⟩
      have h1 := bel_step h1 hb
      have mg := mg.keep hb
      have mf := mf.keep hb
      clear hb c0 c1 d0 d1
      obtain ⟨d0, d1⟩ := mg.cells
      obtain ⟨c0, c1⟩ := mf.cells
      rw [HO.out]
      go_wp2_with fail
      refine (holds_ok (r + d) (h + g) 0 c _ (nE_iff.2 ⟨hv2, ⟨by omega, by omega⟩, hcc⟩)).mono ?_
      rintro e w7 ⟨rfl, hb⟩
      have h1 := bel_step h1 hb
      have mg := mg.keep hb
      have mf := mf.keep hb
      clear hb c0 c1 d0 d1
      obtain ⟨d0, d1⟩ := mg.cells
      obtain ⟨c0, c1⟩ := mf.cells
      rw [HO2.out]
      go_wp2_with fail
      go_ret
      exact ⟨rfl, h1⟩
    · have qb : (b == (-1 : Int)) = false := by simp; omega
      go_enter Try.func9, Try.ntmps9
      go_wp2_with fail
      refine (head_any _).mono ?_
      rintro e w1 ⟨rfl, hb⟩
      have mf := (FB.new w r h).keep hb
      obtain ⟨c0, c1⟩ := mf.cells
      have h0 := bel_step (bel_alloc (Below.refl w.heap.size w) _) hb
      clear hb
      have c2 := mf.lt
      go_wp2_with fail
      all_goals (try (exfalso; omega))
      refine (rvalid r h _).mono ?_
      rintro e w2 ⟨rfl, hb⟩
      have h1 := bel_step (bel_alloc h0 _) hb
      have mg := (FB.new w1 _ _).keep hb
      have mf := (mf.alloc _).keep hb
      clear hb c0 c1
      rw [hv]
      obtain ⟨d0, d1⟩ := mg.cells
      obtain ⟨c0, c1⟩ := mf.cells
      go_wp2_with fail
      refine (rvalid (r + d) (h + g) _).mono ?_
      rintro e w3 ⟨rfl, hb⟩
      have h1 := bel_step h1 hb
      have mg := mg.keep hb
      have mf := mf.keep hb
      clear hb c0 c1 d0 d1
      obtain ⟨d0, d1⟩ := mg.cells
      obtain ⟨c0, c1⟩ := mf.cells
      rw [hv2]
      go_wp2_with fail
      refine (melts_ok r h A len cap z _ hlen (HR.out.keep h1) hv ha).mono ?_
      rintro e w4 ⟨rfl, hb⟩
      have h1 := bel_step h1 hb
      have mg := mg.keep hb
      have mf := mf.keep hb
      clear hb c0 c1 d0 d1
      obtain ⟨d0, d1⟩ := mg.cells
      obtain ⟨c0, c1⟩ := mf.cells
      rw [HM.out]
      go_wp2_with fail
      refine (melts_ok (r + d) (h + g) A len cap z _ hlen (HR.out.keep h1) hv2 ha).mono ?_
      rintro e w5 ⟨rfl, hb⟩
      have h1 := bel_step h1 hb
      have mg := mg.keep hb
      have mf := mf.keep hb
      clear hb c0 c1 d0 d1
      obtain ⟨d0, d1⟩ := mg.cells
      obtain ⟨c0, c1⟩ := mf.cells
      rw [HM2.out]
      go_wp2_with fail
      refine (holds_ok r h 0 c _ (nE_iff.2 ⟨hv, ⟨by omega, by omega⟩, hcc⟩)).mono ?_
      rintro e w6 ⟨rfl, hb⟩
      have h1 := bel_step h1 hb
      have mg := mg.keep hb
      have mf := mf.keep hb
      clear hb c0 c1 d0 d1
      obtain ⟨d0, d1⟩ := mg.cells
      obtain ⟨c0, c1⟩ := mf.cells
      rw [HO.out]
      go_wp2_with fail
      refine (holds_ok (r + d) (h + g) 0 c _ (nE_iff.2 ⟨hv2, ⟨by omega, by omega⟩, hcc⟩)).mono ?_
      rintro e w7 ⟨rfl, hb⟩
      have h1 := bel_step h1 hb
      have mg := mg.keep hb
      have mf := mf.keep hb
      clear hb c0 c1 d0 d1
      obtain ⟨d0, d1⟩ := mg.cells
      obtain ⟨c0, c1⟩ := mf.cells
      rw [HO2.out]
      go_wp2_with fail
      go_ret
      exact ⟨rfl, h1⟩
  · have qn : (n == (-1 : Int)) = false := by simp; omega
    rcases hab with hx | hx
    · obtain rfl := hx
      go_enter Try.func9, Try.ntmps9
      go_wp2_with fail
      refine (head_any _).mono ?_
      rintro e w1 ⟨rfl, hb⟩
      have mf := (FB.new w r h).keep hb
      obtain ⟨c0, c1⟩ := mf.cells
      have h0 := bel_step (bel_alloc (Below.refl w.heap.size w) _) hb
      clear hb
      have c2 := mf.lt
      go_wp2_with fail
      all_goals (try (exfalso; omega))
      refine (rvalid r h _).mono ?_
      rintro e w2 ⟨rfl, hb⟩
      have h1 := bel_step (bel_alloc h0 _) hb
      have mg := (FB.new w1 _ _).keep hb
      have mf := (mf.alloc _).keep hb
      clear hb c0 c1
      rw [hv]
      obtain ⟨d0, d1⟩ := mg.cells
      obtain ⟨c0, c1⟩ := mf.cells
      go_wp2_with fail
      refine (rvalid (r + d) (h + g) _).mono ?_
      rintro e w3 ⟨rfl, hb⟩
      have h1 := bel_step h1 hb
      have mg := mg.keep hb
      have mf := mf.keep hb
      clear hb c0 c1 d0 d1
      obtain ⟨d0, d1⟩ := mg.cells
      obtain ⟨c0, c1⟩ := mf.cells
      rw [hv2]
      go_wp2_with fail
      refine (melts_ok r h A len cap z _ hlen (HR.out.keep h1) hv ha).mono ?_
      rintro e w4 ⟨rfl, hb⟩
      have h1 := bel_step h1 hb
      have mg := mg.keep hb
      have mf := mf.keep hb
      clear hb c0 c1 d0 d1
      obtain ⟨d0, d1⟩ := mg.cells
      obtain ⟨c0, c1⟩ := mf.cells
      rw [HM.out]
      go_wp2_with fail
      refine (melts_ok (r + d) (h + g) A len cap z _ hlen (HR.out.keep h1) hv2 ha).mono ?_
      rintro e w5 ⟨rfl, hb⟩
      have h1 := bel_step h1 hb
      have mg := mg.keep hb
      have mf := mf.keep hb
      clear hb c0 c1 d0 d1
      obtain ⟨d0, d1⟩ := mg.cells
      obtain ⟨c0, c1⟩ := mf.cells
      rw [HM2.out]
      go_wp2_with fail
      refine (holds_ok r h 0 c _ (nE_iff.2 ⟨hv, ⟨by omega, by omega⟩, hcc⟩)).mono ?_
      rintro e w6 ⟨rfl, hb⟩
      have h1 := bel_step h1 hb
      have mg := mg.keep hb
      have mf := mf.keep hb
      clear hb c0 c1 d0 d1
      obtain ⟨d0, d1⟩ := mg.cells
      obtain ⟨c0, c1⟩ := mf.cells
      rw [HO.out]
      go_wp2_with fail
      refine (holds_ok (r + d) (h + g) 0 c _ (nE_iff.2 ⟨hv2, ⟨by omega, by omega⟩, hcc⟩)).mono ?_
      rintro e w7 ⟨rfl, hb⟩
      have h1 := bel_step h1 hb
      have mg := mg.keep hb
      have mf := mf.keep hb
      clear hb c0 c1 d0 d1
      obtain ⟨d0, d1⟩ := mg.cells
      obtain ⟨c0, c1⟩ := mf.cells
      rw [HO2.out]
      go_wp2_with fail
      go_ret
      exact ⟨rfl, h1⟩
    · have qb : (b == (-1 : Int)) = false := by simp; omega
      go_enter Try.func9, Try.ntmps9
      go_wp2_with fail
      refine (head_any _).mono ?_
      rintro e w1 ⟨rfl, hb⟩
      have mf := (FB.new w r h).keep hb
      obtain ⟨c0, c1⟩ := mf.cells
      have h0 := bel_step (bel_alloc (Below.refl w.heap.size w) _) hb
      clear hb
      have c2 := mf.lt
      go_wp2_with fail
      all_goals (try (exfalso; omega))
      refine (rvalid r h _).mono ?_
      rintro e w2 ⟨rfl, hb⟩
      have h1 := bel_step (bel_alloc h0 _) hb
      have mg := (FB.new w1 _ _).keep hb
      have mf := (mf.alloc _).keep hb
      clear hb c0 c1
      rw [hv]
      obtain ⟨d0, d1⟩ := mg.cells
      obtain ⟨c0, c1⟩ := mf.cells
      go_wp2_with fail
      refine (rvalid (r + d) (h + g) _).mono ?_
      rintro e w3 ⟨rfl, hb⟩
      have h1 := bel_step h1 hb
      have mg := mg.keep hb
      have mf := mf.keep hb
      clear hb c0 c1 d0 d1
      obtain ⟨d0, d1⟩ := mg.cells
      obtain ⟨c0, c1⟩ := mf.cells
      rw [hv2]
      go_wp2_with fail
      refine (melts_ok r h A len cap z _ hlen (HR.out.keep h1) hv ha).mono ?_
      rintro e w4 ⟨rfl, hb⟩
      have h1 := bel_step h1 hb
      have mg := mg.keep hb
      have mf := mf.keep hb
      clear hb c0 c1 d0 d1
      obtain ⟨d0, d1⟩ := mg.cells
      obtain ⟨c0, c1⟩ := mf.cells
      rw [HM.out]
      go_wp2_with fail
      refine (melts_ok (r + d) (h + g) A len cap z _ hlen (HR.out.keep h1) hv2 ha).mono ?_
      rintro e w5 ⟨rfl, hb⟩
      have h1 := bel_step h1 hb
      have mg := mg.keep hb
      have mf := mf.keep hb
      clear hb c0 c1 d0 d1
      obtain ⟨d0, d1⟩ := mg.cells
      obtain ⟨c0, c1⟩ := mf.cells
      rw [HM2.out]
      go_wp2_with fail
      refine (holds_ok r h 0 c _ (nE_iff.2 ⟨hv, ⟨by omega, by omega⟩, hcc⟩)).mono ?_
      rintro e w6 ⟨rfl, hb⟩
      have h1 := bel_step h1 hb
      have mg := mg.keep hb
      have mf := mf.keep hb
      clear hb c0 c1 d0 d1
      obtain ⟨d0, d1⟩ := mg.cells
      obtain ⟨c0, c1⟩ := mf.cells
      rw [HO.out]
      go_wp2_with fail
      refine (holds_ok (r + d) (h + g) 0 c _ (nE_iff.2 ⟨hv2, ⟨by omega, by omega⟩, hcc⟩)).mono ?_
      rintro e w7 ⟨rfl, hb⟩
      have h1 := bel_step h1 hb
      have mg := mg.keep hb
      have mf := mf.keep hb
      clear hb c0 c1 d0 d1
      obtain ⟨d0, d1⟩ := mg.cells
      obtain ⟨c0, c1⟩ := mf.cells
      rw [HO2.out]
      go_wp2_with fail
      go_ret
      exact ⟨rfl, h1⟩
set_option maxHeartbeats 2000000 in
set_option maxRecDepth 100000 in
theorem str_yn (r h d g : Int) (A : Option Addr) (len cap : Nat) (z : Nat → Int) (c : Int) (w : World) (hl : len ≤ 9223372036854775807) (hR : RZ w A len z) (hlen : len ≤ 10000) (hd0 : 0 ≤ d) (hg0 : 0 ≤ g) (hr0 : r ≠ 0) (hd1 : d ≤ 1000) (hg1 : g ≤ 1000000000) (hv : vF r h = true) (hv2 : vF (r + d) (h + g) = true) (ha : allB z len = true) (hcc : ¬ (0 ≤ c ∧ c ≤ 1000)) :
    Calls Try.prog 9 #[.agg #[.int .i64 r, .int .i64 h], .int .i64 d, .int .i64 g, .slice A len cap, .int .i64 c] w fun e w' => e = .returned (.bool true) ∧ Below w.heap.size w w' := by
  have hvb : (1 ≤ r ∧ r ≤ 1000) ∧ (0 ≤ h ∧ h ≤ 1000000000) := by have := vF_iff.1 hv; omega
  have hr1 : 1 ≤ r := by omega
  have e0 : (r == 0) = false := by simpa using hr0
  have HR0 := Lib.hid hr0
  clear hr0
  have HR := Lib.hid hR
  clear hR
  obtain ⟨m, hm⟩ : ∃ m, mt r h z len = m := ⟨_, rfl⟩
  obtain ⟨n, hn⟩ : ∃ n, mt (r + d) (h + g) z len = n := ⟨_, rfl⟩
  have hmn := mt_stronger (r := r) (s := r + d) (h := h) (g := h + g) (z := z) (k := len) hr1 (by omega) (by omega)
  rw [hm, hn] at hmn
  have HM := Lib.hid hm
  have HM2 := Lib.hid hn
  clear hm hn
  rcases hmn with hx | hx
  · obtain rfl := hx
    go_enter Try.func9, Try.ntmps9
    go_wp2_with fail
    refine (head_any _).mono ?_
    rintro e w1 ⟨rfl, hb⟩
    have mf := (FB.new w r h).keep hb
    obtain ⟨c0, c1⟩ := mf.cells
    have h0 := bel_step (bel_alloc (Below.refl w.heap.size w) _) hb
    clear hb
    have c2 := mf.lt
    go_wp2_with fail
    all_goals (try (exfalso; omega))
    refine (rvalid r h _).mono ?_
    rintro e w2 ⟨rfl, hb⟩
    have h1 := bel_step (bel_alloc h0 _) hb
    have mg := (FB.new w1 _ _).keep hb
    have mf := (mf.alloc _).keep hb
    clear hb c0 c1
    rw [hv]
    obtain ⟨d0, d1⟩ := mg.cells
    obtain ⟨c0, c1⟩ := mf.cells
    go_wp2_with fail
    refine (rvalid (r + d) (h + g) _).mono ?_
    rintro e w3 ⟨rfl, hb⟩
    have h1 := bel_step h1 hb
    have mg := mg.keep hb
    have mf := mf.keep hb
    clear hb c0 c1 d0 d1
    obtain ⟨d0, d1⟩ := mg.cells
    obtain ⟨c0, c1⟩ := mf.cells
    rw [hv2]
    go_wp2_with fail
    refine (melts_ok r h A len cap z _ hlen (HR.out.keep h1) hv ha).mono ?_
    rintro e w4 ⟨rfl, hb⟩
    have h1 := bel_step h1 hb
    have mg := mg.keep hb
    have mf := mf.keep hb
    clear hb c0 c1 d0 d1
    obtain ⟨d0, d1⟩ := mg.cells
    obtain ⟨c0, c1⟩ := mf.cells
    rw [HM.out]
    go_wp2_with fail
    refine (melts_ok (r + d) (h + g) A len cap z _ hlen (HR.out.keep h1) hv2 ha).mono ?_
    rintro e w5 ⟨rfl, hb⟩
    have h1 := bel_step h1 hb
    have mg := mg.keep hb
    have mf := mf.keep hb
    clear hb c0 c1 d0 d1
    obtain ⟨d0, d1⟩ := mg.cells
    obtain ⟨c0, c1⟩ := mf.cells
    rw [HM2.out]
    go_wp2_with fail
    refine (holds_bad r h 0 c _ (fun hx => hcc (nE_iff.1 hx).2.2)).mono ?_
    rintro e w6 ⟨rfl, hb⟩
    have h1 := bel_step h1 hb
    have mg := mg.keep hb
    have mf := mf.keep hb
    clear hb c0 c1 d0 d1
    obtain ⟨d0, d1⟩ := mg.cells
    obtain ⟨c0, c1⟩ := mf.cells
    go_wp2_with fail
    refine (holds_bad (r + d) (h + g) 0 c _ (fun hx => hcc (nE_iff.1 hx).2.2)).mono ?_
    rintro e w7 ⟨rfl, hb⟩
    have h1 := bel_step h1 hb
    have mg := mg.keep hb
    have mf := mf.keep hb
    clear hb c0 c1 d0 d1
    obtain ⟨d0, d1⟩ := mg.cells
    obtain ⟨c0, c1⟩ := mf.cells
    go_wp2_with fail
    go_ret
    exact ⟨rfl, h1⟩
  · have qn : (n == (-1 : Int)) = false := by simp; omega
    go_enter Try.func9, Try.ntmps9
    go_wp2_with fail
    refine (head_any _).mono ?_
    rintro e w1 ⟨rfl, hb⟩
    have mf := (FB.new w r h).keep hb
    obtain ⟨c0, c1⟩ := mf.cells
    have h0 := bel_step (bel_alloc (Below.refl w.heap.size w) _) hb
    clear hb
    have c2 := mf.lt
    go_wp2_with fail
    all_goals (try (exfalso; omega))
    refine (rvalid r h _).mono ?_
    rintro e w2 ⟨rfl, hb⟩
    have h1 := bel_step (bel_alloc h0 _) hb
    have mg := (FB.new w1 _ _).keep hb
    have mf := (mf.alloc _).keep hb
    clear hb c0 c1
    rw [hv]
    obtain ⟨d0, d1⟩ := mg.cells
    obtain ⟨c0, c1⟩ := mf.cells
    go_wp2_with fail
    refine (rvalid (r + d) (h + g) _).mono ?_
    rintro e w3 ⟨rfl, hb⟩
    have h1 := bel_step h1 hb
    have mg := mg.keep hb
    have mf := mf.keep hb
    clear hb c0 c1 d0 d1
    obtain ⟨d0, d1⟩ := mg.cells
    obtain ⟨c0, c1⟩ := mf.cells
    rw [hv2]
    go_wp2_with fail
    refine (melts_ok r h A len cap z _ hlen (HR.out.keep h1) hv ha).mono ?_
    rintro e w4 ⟨rfl, hb⟩
    have h1 := bel_step h1 hb
    have mg := mg.keep hb
    have mf := mf.keep hb
    clear hb c0 c1 d0 d1
    obtain ⟨d0, d1⟩ := mg.cells
    obtain ⟨c0, c1⟩ := mf.cells
    rw [HM.out]
    go_wp2_with fail
    refine (melts_ok (r + d) (h + g) A len cap z _ hlen (HR.out.keep h1) hv2 ha).mono ?_
    rintro e w5 ⟨rfl, hb⟩
    have h1 := bel_step h1 hb
    have mg := mg.keep hb
    have mf := mf.keep hb
    clear hb c0 c1 d0 d1
    obtain ⟨d0, d1⟩ := mg.cells
    obtain ⟨c0, c1⟩ := mf.cells
    rw [HM2.out]
    go_wp2_with fail
    refine (holds_bad r h 0 c _ (fun hx => hcc (nE_iff.1 hx).2.2)).mono ?_
    rintro e w6 ⟨rfl, hb⟩
    have h1 := bel_step h1 hb
    have mg := mg.keep hb
    have mf := mf.keep hb
    clear hb c0 c1 d0 d1
    obtain ⟨d0, d1⟩ := mg.cells
    obtain ⟨c0, c1⟩ := mf.cells
    go_wp2_with fail
    refine (holds_bad (r + d) (h + g) 0 c _ (fun hx => hcc (nE_iff.1 hx).2.2)).mono ?_
    rintro e w7 ⟨rfl, hb⟩
    have h1 := bel_step h1 hb
    have mg := mg.keep hb
    have mf := mf.keep hb
    clear hb c0 c1 d0 d1
    obtain ⟨d0, d1⟩ := mg.cells
    obtain ⟨c0, c1⟩ := mf.cells
    go_wp2_with fail
    go_ret
    exact ⟨rfl, h1⟩
set_option maxHeartbeats 2000000 in
set_option maxRecDepth 100000 in
theorem str_ny (r h d g : Int) (A : Option Addr) (len cap : Nat) (z : Nat → Int) (c : Int) (w : World) (hl : len ≤ 9223372036854775807) (hR : RZ w A len z) (hlen : len ≤ 10000) (hd0 : 0 ≤ d) (hg0 : 0 ≤ g) (hr0 : r ≠ 0) (hd1 : d ≤ 1000) (hg1 : g ≤ 1000000000) (hv : vF r h = true) (hv2 : vF (r + d) (h + g) = true) (ha : allB z len = false) (hcc : 0 ≤ c ∧ c ≤ 1000) :
    Calls Try.prog 9 #[.agg #[.int .i64 r, .int .i64 h], .int .i64 d, .int .i64 g, .slice A len cap, .int .i64 c] w fun e w' => e = .returned (.bool true) ∧ Below w.heap.size w w' := by
  have hvb : (1 ≤ r ∧ r ≤ 1000) ∧ (0 ≤ h ∧ h ≤ 1000000000) := by have := vF_iff.1 hv; omega
  have hr1 : 1 ≤ r := by omega
  have e0 : (r == 0) = false := by simpa using hr0
  have HR0 := Lib.hid hr0
  clear hr0
  have HR := Lib.hid hR
  clear hR
  obtain ⟨a, ho⟩ : ∃ a, hd r h 0 c = a := ⟨_, rfl⟩
  obtain ⟨b, ho2⟩ : ∃ b, hd (r + d) (h + g) 0 c = b := ⟨_, rfl⟩
  have hab := hd_stronger (r := r) (s := r + d) (h := h) (g := h + g) (a := c) hr1 (by omega) (by omega) (by omega)
  rw [ho, ho2] at hab
  have HO := Lib.hid ho
  have HO2 := Lib.hid ho2
  clear ho ho2
  rcases hab with hx | hx
  · obtain rfl := hx
    go_enter Try.func9, Try.ntmps9
    go_wp2_with fail
    refine (head_any _).mono ?_
    rintro e w1 ⟨rfl, hb⟩
    have mf := (FB.new w r h).keep hb
    obtain ⟨c0, c1⟩ := mf.cells
    have h0 := bel_step (bel_alloc (Below.refl w.heap.size w) _) hb
    clear hb
    have c2 := mf.lt
    go_wp2_with fail
    all_goals (try (exfalso; omega))
    refine (rvalid r h _).mono ?_
    rintro e w2 ⟨rfl, hb⟩
    have h1 := bel_step (bel_alloc h0 _) hb
    have mg := (FB.new w1 _ _).keep hb
    have mf := (mf.alloc _).keep hb
    clear hb c0 c1
    rw [hv]
    obtain ⟨d0, d1⟩ := mg.cells
    obtain ⟨c0, c1⟩ := mf.cells
    go_wp2_with fail
    refine (rvalid (r + d) (h + g) _).mono ?_
    rintro e w3 ⟨rfl, hb⟩
    have h1 := bel_step h1 hb
    have mg := mg.keep hb
    have mf := mf.keep hb
    clear hb c0 c1 d0 d1
    obtain ⟨d0, d1⟩ := mg.cells
    obtain ⟨c0, c1⟩ := mf.cells
    rw [hv2]
    go_wp2_with fail
    refine (melts_bad r h A len cap z _ hlen (HR.out.keep h1) (by rw [ha, Bool.and_false])).mono ?_
    rintro e w4 ⟨rfl, hb⟩
    have h1 := bel_step h1 hb
    have mg := mg.keep hb
    have mf := mf.keep hb
    clear hb c0 c1 d0 d1
    obtain ⟨d0, d1⟩ := mg.cells
    obtain ⟨c0, c1⟩ := mf.cells
    go_wp2_with fail
    refine (melts_bad (r + d) (h + g) A len cap z _ hlen (HR.out.keep h1) (by rw [ha, Bool.and_false])).mono ?_
    rintro e w5 ⟨rfl, hb⟩
    have h1 := bel_step h1 hb
    have mg := mg.keep hb
    have mf := mf.keep hb
    clear hb c0 c1 d0 d1
    obtain ⟨d0, d1⟩ := mg.cells
    obtain ⟨c0, c1⟩ := mf.cells
    go_wp2_with fail
    refine (holds_ok r h 0 c _ (nE_iff.2 ⟨hv, ⟨by omega, by omega⟩, hcc⟩)).mono ?_
    rintro e w6 ⟨rfl, hb⟩
    have h1 := bel_step h1 hb
    have mg := mg.keep hb
    have mf := mf.keep hb
    clear hb c0 c1 d0 d1
    obtain ⟨d0, d1⟩ := mg.cells
    obtain ⟨c0, c1⟩ := mf.cells
    rw [HO.out]
    go_wp2_with fail
    refine (holds_ok (r + d) (h + g) 0 c _ (nE_iff.2 ⟨hv2, ⟨by omega, by omega⟩, hcc⟩)).mono ?_
    rintro e w7 ⟨rfl, hb⟩
    have h1 := bel_step h1 hb
    have mg := mg.keep hb
    have mf := mf.keep hb
    clear hb c0 c1 d0 d1
    obtain ⟨d0, d1⟩ := mg.cells
    obtain ⟨c0, c1⟩ := mf.cells
    rw [HO2.out]
    go_wp2_with fail
    go_ret
    exact ⟨rfl, h1⟩
  · have qb : (b == (-1 : Int)) = false := by simp; omega
    go_enter Try.func9, Try.ntmps9
    go_wp2_with fail
    refine (head_any _).mono ?_
    rintro e w1 ⟨rfl, hb⟩
    have mf := (FB.new w r h).keep hb
    obtain ⟨c0, c1⟩ := mf.cells
    have h0 := bel_step (bel_alloc (Below.refl w.heap.size w) _) hb
    clear hb
    have c2 := mf.lt
    go_wp2_with fail
    all_goals (try (exfalso; omega))
    refine (rvalid r h _).mono ?_
    rintro e w2 ⟨rfl, hb⟩
    have h1 := bel_step (bel_alloc h0 _) hb
    have mg := (FB.new w1 _ _).keep hb
    have mf := (mf.alloc _).keep hb
    clear hb c0 c1
    rw [hv]
    obtain ⟨d0, d1⟩ := mg.cells
    obtain ⟨c0, c1⟩ := mf.cells
    go_wp2_with fail
    refine (rvalid (r + d) (h + g) _).mono ?_
    rintro e w3 ⟨rfl, hb⟩
    have h1 := bel_step h1 hb
    have mg := mg.keep hb
    have mf := mf.keep hb
    clear hb c0 c1 d0 d1
    obtain ⟨d0, d1⟩ := mg.cells
    obtain ⟨c0, c1⟩ := mf.cells
    rw [hv2]
    go_wp2_with fail
    refine (melts_bad r h A len cap z _ hlen (HR.out.keep h1) (by rw [ha, Bool.and_false])).mono ?_
    rintro e w4 ⟨rfl, hb⟩
    have h1 := bel_step h1 hb
    have mg := mg.keep hb
    have mf := mf.keep hb
    clear hb c0 c1 d0 d1
    obtain ⟨d0, d1⟩ := mg.cells
    obtain ⟨c0, c1⟩ := mf.cells
    go_wp2_with fail
    refine (melts_bad (r + d) (h + g) A len cap z _ hlen (HR.out.keep h1) (by rw [ha, Bool.and_false])).mono ?_
    rintro e w5 ⟨rfl, hb⟩
    have h1 := bel_step h1 hb
    have mg := mg.keep hb
    have mf := mf.keep hb
    clear hb c0 c1 d0 d1
    obtain ⟨d0, d1⟩ := mg.cells
    obtain ⟨c0, c1⟩ := mf.cells
    go_wp2_with fail
    refine (holds_ok r h 0 c _ (nE_iff.2 ⟨hv, ⟨by omega, by omega⟩, hcc⟩)).mono ?_
    rintro e w6 ⟨rfl, hb⟩
    have h1 := bel_step h1 hb
    have mg := mg.keep hb
    have mf := mf.keep hb
    clear hb c0 c1 d0 d1
    obtain ⟨d0, d1⟩ := mg.cells
    obtain ⟨c0, c1⟩ := mf.cells
    rw [HO.out]
    go_wp2_with fail
    refine (holds_ok (r + d) (h + g) 0 c _ (nE_iff.2 ⟨hv2, ⟨by omega, by omega⟩, hcc⟩)).mono ?_
    rintro e w7 ⟨rfl, hb⟩
    have h1 := bel_step h1 hb
    have mg := mg.keep hb
    have mf := mf.keep hb
    clear hb c0 c1 d0 d1
    obtain ⟨d0, d1⟩ := mg.cells
    obtain ⟨c0, c1⟩ := mf.cells
    rw [HO2.out]
    go_wp2_with fail
    go_ret
    exact ⟨rfl, h1⟩
set_option maxHeartbeats 2000000 in
set_option maxRecDepth 100000 in
theorem str_nn (r h d g : Int) (A : Option Addr) (len cap : Nat) (z : Nat → Int) (c : Int) (w : World) (hl : len ≤ 9223372036854775807) (hR : RZ w A len z) (hlen : len ≤ 10000) (hd0 : 0 ≤ d) (hg0 : 0 ≤ g) (hr0 : r ≠ 0) (hd1 : d ≤ 1000) (hg1 : g ≤ 1000000000) (hv : vF r h = true) (hv2 : vF (r + d) (h + g) = true) (ha : allB z len = false) (hcc : ¬ (0 ≤ c ∧ c ≤ 1000)) :
    Calls Try.prog 9 #[.agg #[.int .i64 r, .int .i64 h], .int .i64 d, .int .i64 g, .slice A len cap, .int .i64 c] w fun e w' => e = .returned (.bool true) ∧ Below w.heap.size w w' := by
  have hvb : (1 ≤ r ∧ r ≤ 1000) ∧ (0 ≤ h ∧ h ≤ 1000000000) := by have := vF_iff.1 hv; omega
  have hr1 : 1 ≤ r := by omega
  have e0 : (r == 0) = false := by simpa using hr0
  have HR0 := Lib.hid hr0
  clear hr0
  have HR := Lib.hid hR
  clear hR
  go_enter Try.func9, Try.ntmps9
  go_wp2_with fail
  refine (head_any _).mono ?_
  rintro e w1 ⟨rfl, hb⟩
  have mf := (FB.new w r h).keep hb
  obtain ⟨c0, c1⟩ := mf.cells
  have h0 := bel_step (bel_alloc (Below.refl w.heap.size w) _) hb
  clear hb
  have c2 := mf.lt
  go_wp2_with fail
  all_goals (try (exfalso; omega))
  refine (rvalid r h _).mono ?_
  rintro e w2 ⟨rfl, hb⟩
  have h1 := bel_step (bel_alloc h0 _) hb
  have mg := (FB.new w1 _ _).keep hb
  have mf := (mf.alloc _).keep hb
  clear hb c0 c1
  rw [hv]
  obtain ⟨d0, d1⟩ := mg.cells
  obtain ⟨c0, c1⟩ := mf.cells
  go_wp2_with fail
  refine (rvalid (r + d) (h + g) _).mono ?_
  rintro e w3 ⟨rfl, hb⟩
  have h1 := bel_step h1 hb
  have mg := mg.keep hb
  have mf := mf.keep hb
  clear hb c0 c1 d0 d1
  obtain ⟨d0, d1⟩ := mg.cells
  obtain ⟨c0, c1⟩ := mf.cells
  rw [hv2]
  go_wp2_with fail
  refine (melts_bad r h A len cap z _ hlen (HR.out.keep h1) (by rw [ha, Bool.and_false])).mono ?_
  rintro e w4 ⟨rfl, hb⟩
  have h1 := bel_step h1 hb
  have mg := mg.keep hb
  have mf := mf.keep hb
  clear hb c0 c1 d0 d1
  obtain ⟨d0, d1⟩ := mg.cells
  obtain ⟨c0, c1⟩ := mf.cells
  go_wp2_with fail
  refine (melts_bad (r + d) (h + g) A len cap z _ hlen (HR.out.keep h1) (by rw [ha, Bool.and_false])).mono ?_
  rintro e w5 ⟨rfl, hb⟩
  have h1 := bel_step h1 hb
  have mg := mg.keep hb
  have mf := mf.keep hb
  clear hb c0 c1 d0 d1
  obtain ⟨d0, d1⟩ := mg.cells
  obtain ⟨c0, c1⟩ := mf.cells
  go_wp2_with fail
  refine (holds_bad r h 0 c _ (fun hx => hcc (nE_iff.1 hx).2.2)).mono ?_
  rintro e w6 ⟨rfl, hb⟩
  have h1 := bel_step h1 hb
  have mg := mg.keep hb
  have mf := mf.keep hb
  clear hb c0 c1 d0 d1
  obtain ⟨d0, d1⟩ := mg.cells
  obtain ⟨c0, c1⟩ := mf.cells
  go_wp2_with fail
  refine (holds_bad (r + d) (h + g) 0 c _ (fun hx => hcc (nE_iff.1 hx).2.2)).mono ?_
  rintro e w7 ⟨rfl, hb⟩
  have h1 := bel_step h1 hb
  have mg := mg.keep hb
  have mf := mf.keep hb
  clear hb c0 c1 d0 d1
  obtain ⟨d0, d1⟩ := mg.cells
  obtain ⟨c0, c1⟩ := mf.cells
  go_wp2_with fail
  go_ret
  exact ⟨rfl, h1⟩
theorem walk_stronger (r h d g : Int) (A : Option Addr) (len cap : Nat) (z : Nat → Int) (c : Int) (w : World) (hl : len ≤ 9223372036854775807) (hR : RZ w A len z) :
    Calls Try.prog 9 #[.agg #[.int .i64 r, .int .i64 h], .int .i64 d, .int .i64 g, .slice A len cap, .int .i64 c] w fun e w' => e = .returned (.bool true) ∧ Below w.heap.size w w' := by
  by_cases hg : 10000 < len ∨ d < 0 ∨ g < 0 ∨ r = 0 ∨ 1000 < d ∨ 1000000000 < g
  · exact str_no r h d g A len cap z c w hl hR hg
  · have k1 : len ≤ 10000 := by omega
    have k2 : 0 ≤ d := by omega
    have k3 : 0 ≤ g := by omega
    have k4 : r ≠ 0 := by omega
    have k5 : d ≤ 1000 := by omega
    have k6 : g ≤ 1000000000 := by omega
    cases hv : vF r h
    · exact str_v r h d g A len cap z c w hl hR k1 k2 k3 k4 k5 k6 hv
    · cases hv2 : vF (r + d) (h + g)
      · exact str_v2 r h d g A len cap z c w hl hR k1 k2 k3 k4 k5 k6 hv hv2
      · cases ha : allB z len <;> by_cases hcc : 0 ≤ c ∧ c ≤ 1000
        · exact str_ny r h d g A len cap z c w hl hR k1 k2 k3 k4 k5 k6 hv hv2 ha hcc
        · exact str_nn r h d g A len cap z c w hl hR k1 k2 k3 k4 k5 k6 hv hv2 ha hcc
        · exact str_yy r h d g A len cap z c w hl hR k1 k2 k3 k4 k5 k6 hv hv2 ha hcc
        · exact str_yn r h d g A len cap z c w hl hR k1 k2 k3 k4 k5 k6 hv hv2 ha hcc
end Go.Proofs.Ythjclpfddfjfhaa
