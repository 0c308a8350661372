/-
  THE WALKS over apply: acknowledge.
-/
import Derived.Test.YteeohndgkfilaaaApplyh
namespace Go.Proofs.Yteeohndgkfilaaa
open Go.RowKit
set_option linter.unusedVariables false
attribute [local go_sem ↓] Go.wp_at_zero Go.wp_at_succ

set_option maxRecDepth 100000 in
set_option maxHeartbeats 4000000 in
theorem ap_ack_none0 (p : Nat) (h0 nx0 : Int) (A0 : Option Addr) (n0 : Nat) (B0 : Option Addr) (m0 : Nat) (h1 nx1 : Int) (A1 : Option Addr) (n1 : Nat) (B1 : Option Addr) (m1 : Nat) (s0 s1 k0 k1 : Value) (O0 : List (Int × Int)) (I0 : List Int) (Z0 : List (Int × Int)) (K0 : List Int) (O1 : List (Int × Int)) (I1 : List Int) (Z1 : List (Int × Int)) (K1 : List Int) (d k : Int) (w : World) (hk : 0 ≤ k ∧ k ≤ 255) (hpm : PM w p h0 nx0 A0 n0 B0 m0 h1 nx1 A1 n1 B1 m1 s0 s1 k0 k1 O0 I0 Z0 K0 O1 I1 Z1 K1) (h3 : d.tmod 3 = 2) (h0z : K1.length = 0) :
    Calls Try.prog 21 #[.pointer (some ⟨p, 0, none⟩), .agg #[.int .u8 d, .bool false, .int .u8 k]] w fun e w' => e = .returned (.bool true) ∧ PM w' p h0 nx0 A0 n0 B0 m0 h1 nx1 A1 n1 B1 m1 s0 s1 k0 k1 O0 I0 Z0 K0 O1 I1 Z1 K1 ∧ Below p w w' := by
  obtain ⟨Ar, cr, er1, hcr, hnr⟩ := own_form hpm.2.2.2.2.2.2.1
  obtain ⟨z, hz⟩ : ∃ z, K1.length = z := ⟨_, rfl⟩
  rw [hz] at er1 hcr hnr
  subst er1
  have HZ := Lib.hid hz
  obtain rfl : z = 0 := by omega
  clear hz h0z
  have HM := Lib.hid hpm
  have hlt := hpm.1.lt
  have HMV := Lib.hid (OW.new w 43 [.int .u8 d, .bool false, .int .u8 k])
  have HM1 := Lib.hid (hpm.keep (bel_a w (.cells #[.int .u8 d, .bool false, .int .u8 k] 43)))
  have HB1 := Lib.hid (bel_a w (.cells #[.int .u8 d, .bool false, .int .u8 k] 43))
  clear hpm
  go_enter Try.func21, Try.ntmps21
  go_upto_region 1 with (fail)
  obtain ⟨W1, eW⟩ : ∃ W, w.alloc (.cells #[.int .u8 d, .bool false, .int .u8 k] 43) = W := ⟨_, rfl⟩
  have eWs : W1.heap.size = w.heap.size + 1 := by rw [← eW]; simp
  rw [eW] at HMV HM1 HB1 ⊢
  clear eW
  obtain ⟨b3, eB⟩ : ∃ b, w.heap.size = b := ⟨_, rfl⟩
  have HE3 := Lib.hid eB
  rw [eB] at HMV hlt eWs ⊢
  clear eB
  obtain ⟨m0', m1', m2'⟩ := cell3 HMV.out
  obtain ⟨c0, c1, c2, c3, c4, c5, c6, c7, c8, c9, c10, c11⟩ := cell12 HM1.out.1
  have hlt1 : p < W1.heap.size := HM1.out.1.lt
  clear eWs
  have HSV0 := Lib.hid HM1.out.2.1.sv
  have HSV1 := Lib.hid HM1.out.2.2.1.sv
  have hbp : Hid (Below p w W1) := Lib.hid (HB1.out.mono (by rw [HE3.out]; omega))
  go_wp2_with fail
  go_ret
  exact ⟨rfl, HM1.out, hbp.out⟩

set_option maxRecDepth 100000 in
set_option maxHeartbeats 4000000 in
theorem ap_ack_ok0 (p : Nat) (h0 nx0 : Int) (A0 : Option Addr) (n0 : Nat) (B0 : Option Addr) (m0 : Nat) (h1 nx1 : Int) (A1 : Option Addr) (n1 : Nat) (B1 : Option Addr) (m1 : Nat) (s0 s1 k0 k1 : Value) (O0 : List (Int × Int)) (I0 : List Int) (Z0 : List (Int × Int)) (K0 : List Int) (O1 : List (Int × Int)) (I1 : List Int) (Z1 : List (Int × Int)) (K1 : List Int) (d k : Int) (w : World) (hk : 0 ≤ k ∧ k ≤ 255) (hpm : PM w p h0 nx0 A0 n0 B0 m0 h1 nx1 A1 n1 B1 m1 s0 s1 k0 k1 O0 I0 Z0 K0 O1 I1 Z1 K1) (h3 : d.tmod 3 = 2) (q : Nat) (h0z : 0 < K1.length) (hq : k % (K1.length : Int) = (q : Int)) (x : Int) (hxy : at1 K1 q = x) (hE : aE h0 nx0 O0 I0 x = 0) :
    Calls Try.prog 21 #[.pointer (some ⟨p, 0, none⟩), .agg #[.int .u8 d, .bool false, .int .u8 k]] w fun e w' => e = .returned (.bool true) ∧ (∃ A' n' B' m', PM w' p h0 nx0 A' n' B' m' h1 nx1 A1 n1 B1 m1 s0 s1 k0 k1 (wo x O0) I0 Z0 K0 O1 I1 Z1 K1) ∧ Below p w w' := by
  have HER := Lib.hid hE
  have HXY := Lib.hid hxy
  clear hE hxy
  obtain ⟨Ar, cr, er1, hcr, hnr⟩ := own_form hpm.2.2.2.2.2.2.1
  obtain ⟨z, hz⟩ : ∃ z, K1.length = z := ⟨_, rfl⟩
  rw [hz] at er1 hcr hnr
  subst er1
  have HZ := Lib.hid hz
  rw [hz] at h0z hq
  have hz0 : 0 < z := by omega
  have tq : k.tmod (z : Int) = (q : Int) := by rw [Int.tmod_eq_emod_of_nonneg (by omega)]; exact hq
  have hq2 : q < z := by have := Int.emod_lt_of_pos k (show (0 : Int) < z by omega); omega
  have i0q : (0 : Int) ≤ (q : Int) := by omega
  have i1q : (q : Int) < (z : Int) := by omega
  have nz : ¬ (z : Int) = 0 := by omega
  have nz' : ¬ z = 0 := by omega
  have hgz : decide ((0 : Int) < (z : Int)) = true := decide_eq_true (by omega)
  clear hq hz
  have HM := Lib.hid hpm
  have hlt := hpm.1.lt
  have HMV := Lib.hid (OW.new w 43 [.int .u8 d, .bool false, .int .u8 k])
  have HM1 := Lib.hid (hpm.keep (bel_a w (.cells #[.int .u8 d, .bool false, .int .u8 k] 43)))
  have HB1 := Lib.hid (bel_a w (.cells #[.int .u8 d, .bool false, .int .u8 k] 43))
  clear hpm
  go_enter Try.func21, Try.ntmps21
  go_upto_region 1 with (fail)
  obtain ⟨W1, eW⟩ : ∃ W, w.alloc (.cells #[.int .u8 d, .bool false, .int .u8 k] 43) = W := ⟨_, rfl⟩
  have eWs : W1.heap.size = w.heap.size + 1 := by rw [← eW]; simp
  rw [eW] at HMV HM1 HB1 ⊢
  clear eW
  obtain ⟨b3, eB⟩ : ∃ b, w.heap.size = b := ⟨_, rfl⟩
  have HE3 := Lib.hid eB
  rw [eB] at HMV hlt eWs ⊢
  clear eB
  obtain ⟨m0', m1', m2'⟩ := cell3 HMV.out
  obtain ⟨c0, c1, c2, c3, c4, c5, c6, c7, c8, c9, c10, c11⟩ := cell12 HM1.out.1
  have hlt1 : p < W1.heap.size := HM1.out.1.lt
  clear eWs
  have HSV0 := Lib.hid HM1.out.2.1.sv
  have HSV1 := Lib.hid HM1.out.2.2.1.sv
  have hbp : Hid (Below p w W1) := Lib.hid (HB1.out.mono (by rw [HE3.out]; omega))
  obtain ⟨b9, o9, rfl, hb9, x0⟩ := (own_rl HM1.out.2.2.2.2.2.2.1).i (i := q) (by have := HZ.out; omega)
  rw [HXY.out] at x0
  go_upto_region 8 with (fail)
  have HSVa : Hid (SV W1.drew (.agg #[.int .i64 h0, .int .i64 nx0, .slice A0 n0 n0, .slice B0 m0 m0]) h0 nx0 O0 I0) := Lib.hid HM1.out.2.1.sv
  have HSVb : Hid (SV (W1.alloc (.cells #[.int .i64 0, .int .i64 0, .slice none 0 0, .slice none 0 0] 25)).drew (.agg #[.int .i64 h0, .int .i64 nx0, .slice A0 n0 n0, .slice B0 m0 m0]) h0 nx0 O0 I0) := Lib.hid (HM1.out.keep (bel_a W1 (.cells #[.int .i64 0, .int .i64 0, .slice none 0 0, .slice none 0 0] 25))).2.1.sv
  go_cut [15, 16] (fun v12 v13 wx => ∃ A' n' B' m' b12, v12 = .pointer (some ⟨b12, 0, none⟩) ∧ v13 = .int .i64 0 ∧ OW wx b12 25 [.int .i64 h0, .int .i64 nx0, .slice A' n' n', .slice B' m' m'] ∧ PM wx p h0 nx0 A0 n0 B0 m0 h1 nx1 A1 n1 B1 m1 s0 s1 k0 (Value.slice (some ⟨b9, o9, none⟩) z cr) O0 I0 Z0 K0 O1 I1 Z1 K1 ∧ SC wx h0 nx0 A' n' B' m' (wo x O0) I0 ∧ Ap s0.ownBlock s1.ownBlock k0.ownBlock (Value.slice (some ⟨b9, o9, none⟩) z cr).ownBlock (adr A') (adr A1) (adr B') (adr B1) ∧ Below p w wx)
  case first =>
    go_region_law (first
      | (go_simp; go_at_call 15; refine (ack_n0 _ h0 nx0 O0 I0 x _ (by first | exact HSVa.out | exact HSVb.out) HER.out).mono ?_; rintro e wa ⟨A', n', B', m', rfl, sc1, fr1, hw⟩
         first
           | (have t12 : OW wa W1.heap.size 25 [.int .i64 0, .int .i64 0, .slice none 0 0, .slice none 0 0] := ((OW.new W1 25 [.int .i64 0, .int .i64 0, .slice none 0 0, .slice none 0 0]).drew).keep hw
              obtain ⟨t0, t1, t2, t3⟩ := cell4 t12; have u0 := t12.thaw 0; have u1 := t12.thaw 1; have u2 := t12.thaw 2; have u3 := t12.thaw 3
              have hpw := ((HM1.out.keep (bel_a W1 (.cells #[.int .i64 0, .int .i64 0, .slice none 0 0, .slice none 0 0] 25))).drew).keep hw; have hap := ((HM1.out.keep (bel_a W1 (.cells #[.int .i64 0, .int .i64 0, .slice none 0 0, .slice none 0 0] 25))).drew).new0 fr1.1 fr1.2
              have hbw := (Below.drew (hbp.out.alloc (show p ≤ W1.heap.size by omega) (.cells #[.int .i64 0, .int .i64 0, .slice none 0 0, .slice none 0 0] 25))).trans (hw.mono (by simp; omega)); clear hw)
           | (have hpw := (HM1.out.drew).keep hw; have hap := (HM1.out.drew).new0 fr1.1 fr1.2
              have hbw := (Below.drew hbp.out).trans (hw.mono (show p ≤ W1.heap.size by omega)); clear hw)))
    all_goals ((try go_wp2_with fail); go_meet)
    all_goals (first
      | exact ⟨_, _, _, _, _, rfl, rfl, t12.set4 _ _ _ _, hpw.far4 t12 0 1 2 3 _ _ _ _, sc1.far4 t12 (by decide) (by decide) 0 1 2 3 _ _ _ _, hap, bel_set4 hbw (show p ≤ W1.heap.size by omega) 0 1 2 3 _ _ _ _⟩
      | exact ⟨_, _, _, _, _, rfl, rfl, OW.new wa _ _, hpw.keep (bel_a wa _), sc1.keep (bel_a wa _), hap, hbw.alloc (show p ≤ wa.heap.size by have := hpw.1.lt; omega) _⟩)
  case rest =>
    obtain ⟨A', n', B', m', b12, rfl, rfl, q12, hp3, sc3, ap3, hb3⟩ := hcut
    have HM3 := Lib.hid hp3
    have HB3 := Lib.hid hb3
    clear m0' m1' m2' c0 c1 c2 c3 c4 c5 c6 c7 c8 c9 c10 c11 x0 HSVa HSVb HM1 HSV0 HSV1 HMV HB1
    have HSC3 := Lib.hid sc3
    have HAP3 := Lib.hid ap3
    have np7 : b12 ≠ p := OW_ne hp3.1 q12 (by decide)
    obtain ⟨c0, c1, c2, c3, c4, c5, c6, c7, c8, c9, c10, c11⟩ := cell12 hp3.1
    obtain ⟨y0, y1, y2, y3⟩ := cell4 q12
    have z0 := hp3.1.thaw 0
    have z1 := hp3.1.thaw 1
    have z2 := hp3.1.thaw 2
    have z3 := hp3.1.thaw 3
    have v1 : ¬ b12 = p := np7
    have v2 : ¬ p = b12 := fun e => np7 e.symm
    clear q12 hp3 hb3 sc3 ap3
    go_upto_region 10 with (fail)
    go_region_law (fail)
    all_goals (go_wp2_with fail)
    all_goals go_ret
    all_goals (exact ⟨rfl, ⟨_, _, _, _, (HM3.out.share0 HSC3.out HAP3.out).drew⟩, Below.drew (bel_set4 HB3.out (Nat.le_refl p) 0 1 2 3 _ _ _ _)⟩)

set_option maxRecDepth 100000 in
set_option maxHeartbeats 4000000 in
theorem ap_ack_no0 (p : Nat) (h0 nx0 : Int) (A0 : Option Addr) (n0 : Nat) (B0 : Option Addr) (m0 : Nat) (h1 nx1 : Int) (A1 : Option Addr) (n1 : Nat) (B1 : Option Addr) (m1 : Nat) (s0 s1 k0 k1 : Value) (O0 : List (Int × Int)) (I0 : List Int) (Z0 : List (Int × Int)) (K0 : List Int) (O1 : List (Int × Int)) (I1 : List Int) (Z1 : List (Int × Int)) (K1 : List Int) (d k : Int) (w : World) (hk : 0 ≤ k ∧ k ≤ 255) (hpm : PM w p h0 nx0 A0 n0 B0 m0 h1 nx1 A1 n1 B1 m1 s0 s1 k0 k1 O0 I0 Z0 K0 O1 I1 Z1 K1) (h3 : d.tmod 3 = 2) (q : Nat) (h0z : 0 < K1.length) (hq : k % (K1.length : Int) = (q : Int)) (x : Int) (hxy : at1 K1 q = x) (hE : aE h0 nx0 O0 I0 x = 4) :
    Calls Try.prog 21 #[.pointer (some ⟨p, 0, none⟩), .agg #[.int .u8 d, .bool false, .int .u8 k]] w fun e w' => e = .returned (.bool true) ∧ PM w' p h0 nx0 A0 n0 B0 m0 h1 nx1 A1 n1 B1 m1 s0 s1 k0 k1 O0 I0 Z0 K0 O1 I1 Z1 K1 ∧ Below p w w' := by
  have HER := Lib.hid hE
  have HXY := Lib.hid hxy
  clear hE hxy
  obtain ⟨Ar, cr, er1, hcr, hnr⟩ := own_form hpm.2.2.2.2.2.2.1
  obtain ⟨z, hz⟩ : ∃ z, K1.length = z := ⟨_, rfl⟩
  rw [hz] at er1 hcr hnr
  subst er1
  have HZ := Lib.hid hz
  rw [hz] at h0z hq
  have hz0 : 0 < z := by omega
  have tq : k.tmod (z : Int) = (q : Int) := by rw [Int.tmod_eq_emod_of_nonneg (by omega)]; exact hq
  have hq2 : q < z := by have := Int.emod_lt_of_pos k (show (0 : Int) < z by omega); omega
  have i0q : (0 : Int) ≤ (q : Int) := by omega
  have i1q : (q : Int) < (z : Int) := by omega
  have nz : ¬ (z : Int) = 0 := by omega
  have nz' : ¬ z = 0 := by omega
  have hgz : decide ((0 : Int) < (z : Int)) = true := decide_eq_true (by omega)
  clear hq hz
  have HM := Lib.hid hpm
  have hlt := hpm.1.lt
  have HMV := Lib.hid (OW.new w 43 [.int .u8 d, .bool false, .int .u8 k])
  have HM1 := Lib.hid (hpm.keep (bel_a w (.cells #[.int .u8 d, .bool false, .int .u8 k] 43)))
  have HB1 := Lib.hid (bel_a w (.cells #[.int .u8 d, .bool false, .int .u8 k] 43))
  clear hpm
  go_enter Try.func21, Try.ntmps21
  go_upto_region 1 with (fail)
  obtain ⟨W1, eW⟩ : ∃ W, w.alloc (.cells #[.int .u8 d, .bool false, .int .u8 k] 43) = W := ⟨_, rfl⟩
  have eWs : W1.heap.size = w.heap.size + 1 := by rw [← eW]; simp
  rw [eW] at HMV HM1 HB1 ⊢
  clear eW
  obtain ⟨b3, eB⟩ : ∃ b, w.heap.size = b := ⟨_, rfl⟩
  have HE3 := Lib.hid eB
  rw [eB] at HMV hlt eWs ⊢
  clear eB
  obtain ⟨m0', m1', m2'⟩ := cell3 HMV.out
  obtain ⟨c0, c1, c2, c3, c4, c5, c6, c7, c8, c9, c10, c11⟩ := cell12 HM1.out.1
  have hlt1 : p < W1.heap.size := HM1.out.1.lt
  clear eWs
  have HSV0 := Lib.hid HM1.out.2.1.sv
  have HSV1 := Lib.hid HM1.out.2.2.1.sv
  have hbp : Hid (Below p w W1) := Lib.hid (HB1.out.mono (by rw [HE3.out]; omega))
  obtain ⟨b9, o9, rfl, hb9, x0⟩ := (own_rl HM1.out.2.2.2.2.2.2.1).i (i := q) (by have := HZ.out; omega)
  rw [HXY.out] at x0
  go_upto_region 8 with (fail)
  have HSVa : Hid (SV W1.drew (.agg #[.int .i64 h0, .int .i64 nx0, .slice A0 n0 n0, .slice B0 m0 m0]) h0 nx0 O0 I0) := Lib.hid HM1.out.2.1.sv
  have HSVb : Hid (SV (W1.alloc (.cells #[.int .i64 0, .int .i64 0, .slice none 0 0, .slice none 0 0] 25)).drew (.agg #[.int .i64 h0, .int .i64 nx0, .slice A0 n0 n0, .slice B0 m0 m0]) h0 nx0 O0 I0) := Lib.hid (HM1.out.keep (bel_a W1 (.cells #[.int .i64 0, .int .i64 0, .slice none 0 0, .slice none 0 0] 25))).2.1.sv
  go_cut [15, 16] (fun v12 v13 wx => ∃ b12, v12 = .pointer (some ⟨b12, 0, none⟩) ∧ v13 = .int .i64 4 ∧ OW wx b12 25 [.int .i64 0, .int .i64 0, .slice none 0 0, .slice none 0 0] ∧ PM wx p h0 nx0 A0 n0 B0 m0 h1 nx1 A1 n1 B1 m1 s0 s1 k0 (Value.slice (some ⟨b9, o9, none⟩) z cr) O0 I0 Z0 K0 O1 I1 Z1 K1 ∧ Below p w wx)
  case first =>
    go_region_law (first
      | (go_simp; go_at_call 15; refine (ack_x _ h0 nx0 O0 I0 x _ 4 (by first | exact HSVa.out | exact HSVb.out) HER.out (by decide)).mono ?_; rintro e wa ⟨rfl, hw⟩
         first
           | (have t12 : OW wa W1.heap.size 25 [.int .i64 0, .int .i64 0, .slice none 0 0, .slice none 0 0] := ((OW.new W1 25 [.int .i64 0, .int .i64 0, .slice none 0 0, .slice none 0 0]).drew).keep hw
              obtain ⟨t0, t1, t2, t3⟩ := cell4 t12; have u0 := t12.thaw 0; have u1 := t12.thaw 1; have u2 := t12.thaw 2; have u3 := t12.thaw 3
              have hpw := ((HM1.out.keep (bel_a W1 (.cells #[.int .i64 0, .int .i64 0, .slice none 0 0, .slice none 0 0] 25))).drew).keep hw
              have hbw := (Below.drew (hbp.out.alloc (show p ≤ W1.heap.size by omega) (.cells #[.int .i64 0, .int .i64 0, .slice none 0 0, .slice none 0 0] 25))).trans (hw.mono (by simp; omega)); clear hw)
           | (have hpw := (HM1.out.drew).keep hw
              have hbw := (Below.drew hbp.out).trans (hw.mono (show p ≤ W1.heap.size by omega)); clear hw)))
    all_goals ((try go_wp2_with fail); go_meet)
    all_goals (first
      | exact ⟨_, rfl, rfl, t12.set4 _ _ _ _, hpw.far4 t12 0 1 2 3 _ _ _ _, bel_set4 hbw (show p ≤ W1.heap.size by omega) 0 1 2 3 _ _ _ _⟩
      | exact ⟨_, rfl, rfl, OW.new wa _ _, hpw.keep (bel_a wa _), hbw.alloc (show p ≤ wa.heap.size by have := hpw.1.lt; omega) _⟩)
  case rest =>
    obtain ⟨b12, rfl, rfl, q12, hp3, hb3⟩ := hcut
    have HM3 := Lib.hid hp3
    have HB3 := Lib.hid hb3
    clear m0' m1' m2' c0 c1 c2 c3 c4 c5 c6 c7 c8 c9 c10 c11 x0 HSVa HSVb HM1 HSV0 HSV1 HMV HB1
    clear q12 hp3 hb3
    go_wp2_with fail
    go_ret
    exact ⟨rfl, HM3.out, HB3.out⟩

end Go.Proofs.Yteeohndgkfilaaa
