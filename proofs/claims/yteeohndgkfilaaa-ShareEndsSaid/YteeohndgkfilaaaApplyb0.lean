/-
  THE WALKS over apply: receive.
-/
import Derived.Test.YteeohndgkfilaaaApplyh
namespace Go.Proofs.Yteeohndgkfilaaa
open Go.RowKit
set_option linter.unusedVariables false
attribute [local go_sem ↓] Go.wp_at_zero Go.wp_at_succ

set_option maxRecDepth 100000 in
set_option maxHeartbeats 4000000 in
theorem ap_recv_none0 (p : Nat) (h0 nx0 : Int) (A0 : Option Addr) (n0 : Nat) (B0 : Option Addr) (m0 : Nat) (h1 nx1 : Int) (A1 : Option Addr) (n1 : Nat) (B1 : Option Addr) (m1 : Nat) (s0 s1 k0 k1 : Value) (O0 : List (Int × Int)) (I0 : List Int) (Z0 : List (Int × Int)) (K0 : List Int) (O1 : List (Int × Int)) (I1 : List Int) (Z1 : List (Int × Int)) (K1 : List Int) (d k : Int) (w : World) (hk : 0 ≤ k ∧ k ≤ 255) (hpm : PM w p h0 nx0 A0 n0 B0 m0 h1 nx1 A1 n1 B1 m1 s0 s1 k0 k1 O0 I0 Z0 K0 O1 I1 Z1 K1) (h3 : d.tmod 3 = 1) (h0z : Z1.length = 0) :
    Calls Try.prog 21 #[.pointer (some ⟨p, 0, none⟩), .agg #[.int .u8 d, .bool false, .int .u8 k]] w fun e w' => e = .returned (.bool true) ∧ PM w' p h0 nx0 A0 n0 B0 m0 h1 nx1 A1 n1 B1 m1 s0 s1 k0 k1 O0 I0 Z0 K0 O1 I1 Z1 K1 ∧ Below p w w' := by
  obtain ⟨Ar, cr, er1, hcr, hnr⟩ := own_form hpm.2.2.2.2.1
  obtain ⟨z, hz⟩ : ∃ z, Z1.length = z := ⟨_, rfl⟩
  rw [hz] at er1 hcr hnr
  subst er1
  have HZ := Lib.hid hz
  obtain rfl : z = 0 := by omega
  clear hz h0z
  have HM := Lib.hid hpm
  have hlt := hpm.1.lt
  have HMV := Lib.hid (OW.new w 43 [.int .u8 d, .bool false, .int .u8 k])
  have HM1 := Lib.hid (hpm.keep (bel_a w (.cells #[.int .u8 d, .bool false, .int .u8 k] 43)))
  have HB1 := Lib.hid (bel_a w (.cells #[.int .u8 d, .bool false, .int .u8 k] 43))
  clear hpm
  go_enter Try.func21, Try.ntmps21
  go_upto_region 1 with (fail)
  obtain ⟨W1, eW⟩ : ∃ W, w.alloc (.cells #[.int .u8 d, .bool false, .int .u8 k] 43) = W := ⟨_, rfl⟩
  have eWs : W1.heap.size = w.heap.size + 1 := by rw [← eW]; simp
  rw [eW] at HMV HM1 HB1 ⊢
  clear eW
  obtain ⟨b3, eB⟩ : ∃ b, w.heap.size = b := ⟨_, rfl⟩
  have HE3 := Lib.hid eB
  rw [eB] at HMV hlt eWs ⊢
  clear eB
  obtain ⟨m0', m1', m2'⟩ := cell3 HMV.out
  obtain ⟨c0, c1, c2, c3, c4, c5, c6, c7, c8, c9, c10, c11⟩ := cell12 HM1.out.1
  have hlt1 : p < W1.heap.size := HM1.out.1.lt
  clear eWs
  have HSV0 := Lib.hid HM1.out.2.1.sv
  have HSV1 := Lib.hid HM1.out.2.2.1.sv
  have hbp : Hid (Below p w W1) := Lib.hid (HB1.out.mono (by rw [HE3.out]; omega))
  go_wp2_with fail
  go_ret
  exact ⟨rfl, HM1.out, hbp.out⟩

set_option maxRecDepth 100000 in
set_option maxHeartbeats 4000000 in
theorem ap_recv_ok0 (p : Nat) (h0 nx0 : Int) (A0 : Option Addr) (n0 : Nat) (B0 : Option Addr) (m0 : Nat) (h1 nx1 : Int) (A1 : Option Addr) (n1 : Nat) (B1 : Option Addr) (m1 : Nat) (s0 s1 k0 k1 : Value) (O0 : List (Int × Int)) (I0 : List Int) (Z0 : List (Int × Int)) (K0 : List Int) (O1 : List (Int × Int)) (I1 : List Int) (Z1 : List (Int × Int)) (K1 : List Int) (d k : Int) (w : World) (hk : 0 ≤ k ∧ k ≤ 255) (hpm : PM w p h0 nx0 A0 n0 B0 m0 h1 nx1 A1 n1 B1 m1 s0 s1 k0 k1 O0 I0 Z0 K0 O1 I1 Z1 K1) (h3 : d.tmod 3 = 1) (q : Nat) (h0z : 0 < Z1.length) (hq : k % (Z1.length : Int) = (q : Int)) (x y : Int) (hxy : at2 Z1 q = (x, y)) (hE : rE h0 nx0 O0 I0 x y = 0) (hK : K0.length ≤ 1000) :
    Calls Try.prog 21 #[.pointer (some ⟨p, 0, none⟩), .agg #[.int .u8 d, .bool false, .int .u8 k]] w fun e w' => e = .returned (.bool true) ∧ (∃ A' n' B' m' k', PM w' p (h0 + y) nx0 A' n' B' m' h1 nx1 A1 n1 B1 m1 s0 s1 k' k1 O0 (insO x I0) Z0 (K0 ++ [x]) O1 I1 Z1 K1) ∧ Below p w w' := by
  have HER := Lib.hid hE
  have HXY := Lib.hid hxy
  clear hE hxy
  obtain ⟨i0, hi, hz0, hz1, hz2⟩ := info_parts infoInt
  have HI := Lib.hid hi
  have HZ0 := Lib.hid hz0
  have HZ1 := Lib.hid hz1
  have HZ2 := Lib.hid hz2
  clear hi hz0 hz1 hz2
  obtain ⟨Ar, cr, er1, hcr, hnr⟩ := own_form hpm.2.2.2.2.1
  obtain ⟨z, hz⟩ : ∃ z, Z1.length = z := ⟨_, rfl⟩
  rw [hz] at er1 hcr hnr
  subst er1
  have HZ := Lib.hid hz
  rw [hz] at h0z hq
  have hz0 : 0 < z := by omega
  have tq : k.tmod (z : Int) = (q : Int) := by rw [Int.tmod_eq_emod_of_nonneg (by omega)]; exact hq
  have hq2 : q < z := by have := Int.emod_lt_of_pos k (show (0 : Int) < z by omega); omega
  have i0q : (0 : Int) ≤ (q : Int) := by omega
  have i1q : (q : Int) < (z : Int) := by omega
  have nz : ¬ (z : Int) = 0 := by omega
  have nz' : ¬ z = 0 := by omega
  have hgz : decide ((0 : Int) < (z : Int)) = true := decide_eq_true (by omega)
  clear hq hz
  have HM := Lib.hid hpm
  have hlt := hpm.1.lt
  have HMV := Lib.hid (OW.new w 43 [.int .u8 d, .bool false, .int .u8 k])
  have HM1 := Lib.hid (hpm.keep (bel_a w (.cells #[.int .u8 d, .bool false, .int .u8 k] 43)))
  have HB1 := Lib.hid (bel_a w (.cells #[.int .u8 d, .bool false, .int .u8 k] 43))
  clear hpm
  go_enter Try.func21, Try.ntmps21
  go_upto_region 1 with (fail)
  obtain ⟨W1, eW⟩ : ∃ W, w.alloc (.cells #[.int .u8 d, .bool false, .int .u8 k] 43) = W := ⟨_, rfl⟩
  have eWs : W1.heap.size = w.heap.size + 1 := by rw [← eW]; simp
  rw [eW] at HMV HM1 HB1 ⊢
  clear eW
  obtain ⟨b3, eB⟩ : ∃ b, w.heap.size = b := ⟨_, rfl⟩
  have HE3 := Lib.hid eB
  rw [eB] at HMV hlt eWs ⊢
  clear eB
  obtain ⟨m0', m1', m2'⟩ := cell3 HMV.out
  obtain ⟨c0, c1, c2, c3, c4, c5, c6, c7, c8, c9, c10, c11⟩ := cell12 HM1.out.1
  have hlt1 : p < W1.heap.size := HM1.out.1.lt
  clear eWs
  have HSV0 := Lib.hid HM1.out.2.1.sv
  have HSV1 := Lib.hid HM1.out.2.2.1.sv
  have hbp : Hid (Below p w W1) := Lib.hid (HB1.out.mono (by rw [HE3.out]; omega))
  obtain ⟨b9, o9, rfl, hb9, x0, x1⟩ := (own_rl HM1.out.2.2.2.2.1).t (i := q) (by have := HZ.out; omega)
  rw [HXY.out] at x0 x1
  go_upto_region 21 with (fail)
  clear m0' m1' m2' c0 c1 c2 c3 c4 c5 c6 c7 c8 c9 c10 c11 x0 x1
  have Q11 := Lib.hid (OW.new W1 27 [.int .i64 x, .int .i64 y])
  have HM2 := Lib.hid (HM1.out.keep (bel_a W1 (.cells #[.int .i64 x, .int .i64 y] 27)))
  have HB2 := Lib.hid (hbp.out.alloc (show p ≤ W1.heap.size by omega) (.cells #[.int .i64 x, .int .i64 y] 27))
  obtain ⟨W2, eW⟩ : ∃ W, W1.alloc (.cells #[.int .i64 x, .int .i64 y] 27) = W := ⟨_, rfl⟩
  have eW2 : W2.heap.size = W1.heap.size + 1 := by rw [← eW]; simp
  rw [eW] at Q11 HM2 HB2 ⊢
  obtain ⟨b11, eB⟩ : ∃ b, W1.heap.size = b := ⟨_, rfl⟩
  rw [eB] at Q11 eW2 ⊢
  clear eW
  obtain ⟨c0, c1, c2, c3, c4, c5, c6, c7, c8, c9, c10, c11⟩ := cell12 HM2.out.1
  obtain ⟨y0, y1⟩ := cell2 Q11.out
  have l11 := Q11.out.lt
  have lp := HM2.out.1.lt
  have HSVa : Hid (SV W2.drew (.agg #[.int .i64 h0, .int .i64 nx0, .slice A0 n0 n0, .slice B0 m0 m0]) h0 nx0 O0 I0) := Lib.hid HM2.out.2.1.sv
  have HSVb : Hid (SV (W2.alloc (.cells #[.int .i64 0, .int .i64 0, .slice none 0 0, .slice none 0 0] 25)).drew (.agg #[.int .i64 h0, .int .i64 nx0, .slice A0 n0 n0, .slice B0 m0 m0]) h0 nx0 O0 I0) := Lib.hid (HM2.out.keep (bel_a W2 (.cells #[.int .i64 0, .int .i64 0, .slice none 0 0, .slice none 0 0] 25))).2.1.sv
  clear eB eW2
  go_cut [12, 13] (fun v12 v13 wx => ∃ A' n' B' m' b12, v12 = .pointer (some ⟨b12, 0, none⟩) ∧ v13 = .int .i64 0 ∧ OW wx b12 25 [.int .i64 (h0 + y), .int .i64 nx0, .slice A' n' n', .slice B' m' m'] ∧ PM wx p h0 nx0 A0 n0 B0 m0 h1 nx1 A1 n1 B1 m1 s0 (Value.slice (some ⟨b9, o9, none⟩) z cr) k0 k1 O0 I0 Z0 K0 O1 I1 Z1 K1 ∧ OW wx b11 27 [.int .i64 x, .int .i64 y] ∧ SC wx (h0 + y) nx0 A' n' B' m' O0 (insO x I0) ∧ Ap s0.ownBlock (Value.slice (some ⟨b9, o9, none⟩) z cr).ownBlock k0.ownBlock k1.ownBlock (adr A') (adr A1) (adr B') (adr B1) ∧ Below p w wx)
  case first =>
    go_region_law (first
      | (go_simp; go_at_call 13; refine (recv_n0 _ h0 nx0 O0 I0 x y _ (by first | exact HSVa.out | exact HSVb.out) HER.out).mono ?_; rintro e wa ⟨A', n', B', m', rfl, sc1, fr1, hw⟩
         first
           | (have t12 : OW wa W2.heap.size 25 [.int .i64 0, .int .i64 0, .slice none 0 0, .slice none 0 0] := ((OW.new W2 25 [.int .i64 0, .int .i64 0, .slice none 0 0, .slice none 0 0]).drew).keep hw
              obtain ⟨t0, t1, t2, t3⟩ := cell4 t12; have u0 := t12.thaw 0; have u1 := t12.thaw 1; have u2 := t12.thaw 2; have u3 := t12.thaw 3
              have hpw := ((HM2.out.keep (bel_a W2 (.cells #[.int .i64 0, .int .i64 0, .slice none 0 0, .slice none 0 0] 25))).drew).keep hw; have q11 := ((Q11.out.alloc (.cells #[.int .i64 0, .int .i64 0, .slice none 0 0, .slice none 0 0] 25)).drew).keep hw; have hap := ((HM2.out.keep (bel_a W2 (.cells #[.int .i64 0, .int .i64 0, .slice none 0 0, .slice none 0 0] 25))).drew).new0 fr1.1 fr1.2
              have hbw := (Below.drew (HB2.out.alloc (show p ≤ W2.heap.size by omega) (.cells #[.int .i64 0, .int .i64 0, .slice none 0 0, .slice none 0 0] 25))).trans (hw.mono (by simp; omega)); clear hw)
           | (have hpw := (HM2.out.drew).keep hw; have q11 := (Q11.out.drew).keep hw; have hap := (HM2.out.drew).new0 fr1.1 fr1.2
              have hbw := (Below.drew HB2.out).trans (hw.mono (show p ≤ W2.heap.size by omega)); clear hw)))
    all_goals ((try go_wp2_with fail); go_meet)
    all_goals (first
      | exact ⟨_, _, _, _, _, rfl, rfl, t12.set4 _ _ _ _, hpw.far4 t12 0 1 2 3 _ _ _ _, q11.far4 (OW_ne q11 t12 (by decide)) 0 1 2 3 _ _ _ _, sc1.far4 t12 (by decide) (by decide) 0 1 2 3 _ _ _ _, hap, bel_set4 hbw (show p ≤ W2.heap.size by omega) 0 1 2 3 _ _ _ _⟩
      | exact ⟨_, _, _, _, _, rfl, rfl, OW.new wa _ _, hpw.keep (bel_a wa _), q11.alloc _, sc1.keep (bel_a wa _), hap, hbw.alloc (show p ≤ wa.heap.size by have := hpw.1.lt; omega) _⟩)
  case rest =>
    obtain ⟨A', n', B', m', b12, rfl, rfl, q12, hp3, q11, sc3, ap3, hb3⟩ := hcut
    have HM3 := Lib.hid hp3
    have HB3 := Lib.hid hb3
    have HQ11 := Lib.hid q11
    clear c0 c1 c2 c3 c4 c5 c6 c7 c8 c9 c10 c11 y0 y1 HM2 Q11 HB2 HSVa HSVb HM1 HSV0 HSV1 HMV HB1 l11 lp
    have HSC3 := Lib.hid sc3
    have HAP3 := Lib.hid ap3
    have np7 : b12 ≠ p := OW_ne hp3.1 q12 (by decide)
    have np8 : p ≠ b11 := OW_ne q11 hp3.1 (by decide)
    obtain ⟨c0, c1, c2, c3, c4, c5, c6, c7, c8, c9, c10, c11⟩ := cell12 hp3.1
    obtain ⟨y0, y1, y2, y3⟩ := cell4 q12
    have z0 := hp3.1.thaw 0
    have z1 := hp3.1.thaw 1
    have z2 := hp3.1.thaw 2
    have z3 := hp3.1.thaw 3
    have v1 : ¬ b12 = p := np7
    have v2 : ¬ p = b12 := fun e => np7 e.symm
    clear q12 hp3 q11 hb3 sc3 ap3
    go_upto_region 23 with (fail)
    go_cut [] (fun wx => PM wx p (h0 + y) nx0 A' n' B' m' h1 nx1 A1 n1 B1 m1 s0 (Value.slice (some ⟨b9, o9, none⟩) z cr) k0 k1 O0 (insO x I0) Z0 K0 O1 I1 Z1 K1 ∧ OW wx b11 27 [.int .i64 x, .int .i64 y] ∧ Below p w wx)
    case first =>
      go_region_law (fail)
      all_goals ((try go_wp2_with fail); go_meet)
      all_goals (exact ⟨(HM3.out.share0 HSC3.out HAP3.out).drew, (HQ11.out.far4 np8 0 1 2 3 _ _ _ _).drew, Below.drew (bel_set4 HB3.out (Nat.le_refl p) 0 1 2 3 _ _ _ _)⟩)
    case rest =>
      obtain ⟨hp4, q11, hb4⟩ := hcut
      clear c0 c1 c2 c3 c4 c5 c6 c7 c8 c9 c10 c11 y0 y1 y2 y3 z0 z1 z2 z3 HM3 HB3 HQ11 HSC3 HAP3 np8 np7 v1 v2
      have lp3 := hp4.1.lt
      have l83 := q11.lt
      obtain ⟨y0, y1⟩ := cell2 q11
      have HX := Lib.hid ((hp4.keep (bel_a wc (.cells #[.int .i64 x] 3))).drew)
      have HN := Lib.hid ((OW.new wc 3 [.int .i64 x]).drew)
      have HBX := Lib.hid (Below.drew (hb4.alloc (show p ≤ wc.heap.size by omega) (.cells #[.int .i64 x] 3)))
      have cs := hp4.1.at (j := 10) rfl
      clear hp4 hb4 q11
      go_upto_region 25 with (fail)
      go_region_law (first
        | (refine step_rlf _ (by rfl) (.tmp 155) (.tmp 158) 23 (by rfl) (p + 1) 3 i0 _ 1 8 Try.underlying23 HI.out HZ0.out HZ1.out HZ2.out (by rfl) (by omega) _ _ _ (by rfl) HX.out.2.2.2.2.2.1 _ 1 1 [.int .i64 x] (by rfl) (by rfl) HN.out (one1c _) (by unfold maxLen; omega) (by omega) (by first | omega | (simp <;> omega)) ?_; intro v1' wA hown1 hgrow1 hfr1
           obtain ⟨Av, cv, rfl, _, _⟩ := own_form hown1
           have hown2 : wA.ownsRow (p + 1) 3 1 (.slice Av (K0.length + 1) cv) (K0 ++ [x]).length (cI (K0 ++ [x])) := by rw [List.length_append, ← cI_snoc]; exact hown1
           have hpa := HX.out.1.grow hgrow1 (own_blk HX.out.2.2.2.2.2.1 (Nat.lt_succ_self p))
           have ca := hpa.at (j := 10) rfl; have za := hpa.thaw 10; have hba := Below.grown HBX.out hgrow1 (by first | omega | (simp <;> omega)) (fun g hg => Nat.le_of_lt (own_ge HX.out.2.2.2.2.2.1 g hg)); clear hown1))
      all_goals (go_wp2_with fail)
      all_goals go_ret
      all_goals (exact ⟨rfl, ⟨_, _, _, _, _, HX.out.row2 hgrow1 hown2 hfr1⟩, hba.setCell (Nat.le_refl p) _⟩)

set_option maxRecDepth 100000 in
set_option maxHeartbeats 4000000 in
theorem ap_recv_tw0 (p : Nat) (h0 nx0 : Int) (A0 : Option Addr) (n0 : Nat) (B0 : Option Addr) (m0 : Nat) (h1 nx1 : Int) (A1 : Option Addr) (n1 : Nat) (B1 : Option Addr) (m1 : Nat) (s0 s1 k0 k1 : Value) (O0 : List (Int × Int)) (I0 : List Int) (Z0 : List (Int × Int)) (K0 : List Int) (O1 : List (Int × Int)) (I1 : List Int) (Z1 : List (Int × Int)) (K1 : List Int) (d k : Int) (w : World) (hk : 0 ≤ k ∧ k ≤ 255) (hpm : PM w p h0 nx0 A0 n0 B0 m0 h1 nx1 A1 n1 B1 m1 s0 s1 k0 k1 O0 I0 Z0 K0 O1 I1 Z1 K1) (h3 : d.tmod 3 = 1) (q : Nat) (h0z : 0 < Z1.length) (hq : k % (Z1.length : Int) = (q : Int)) (x y : Int) (hxy : at2 Z1 q = (x, y)) (hE : rE h0 nx0 O0 I0 x y = 5) (hK : K0.length ≤ 1000) :
    Calls Try.prog 21 #[.pointer (some ⟨p, 0, none⟩), .agg #[.int .u8 d, .bool false, .int .u8 k]] w fun e w' => e = .returned (.bool true) ∧ (∃ k', PM w' p h0 nx0 A0 n0 B0 m0 h1 nx1 A1 n1 B1 m1 s0 s1 k' k1 O0 I0 Z0 (K0 ++ [x]) O1 I1 Z1 K1) ∧ Below p w w' := by
  have HER := Lib.hid hE
  have HXY := Lib.hid hxy
  clear hE hxy
  obtain ⟨i0, hi, hz0, hz1, hz2⟩ := info_parts infoInt
  have HI := Lib.hid hi
  have HZ0 := Lib.hid hz0
  have HZ1 := Lib.hid hz1
  have HZ2 := Lib.hid hz2
  clear hi hz0 hz1 hz2
  obtain ⟨Ar, cr, er1, hcr, hnr⟩ := own_form hpm.2.2.2.2.1
  obtain ⟨z, hz⟩ : ∃ z, Z1.length = z := ⟨_, rfl⟩
  rw [hz] at er1 hcr hnr
  subst er1
  have HZ := Lib.hid hz
  rw [hz] at h0z hq
  have hz0 : 0 < z := by omega
  have tq : k.tmod (z : Int) = (q : Int) := by rw [Int.tmod_eq_emod_of_nonneg (by omega)]; exact hq
  have hq2 : q < z := by have := Int.emod_lt_of_pos k (show (0 : Int) < z by omega); omega
  have i0q : (0 : Int) ≤ (q : Int) := by omega
  have i1q : (q : Int) < (z : Int) := by omega
  have nz : ¬ (z : Int) = 0 := by omega
  have nz' : ¬ z = 0 := by omega
  have hgz : decide ((0 : Int) < (z : Int)) = true := decide_eq_true (by omega)
  clear hq hz
  have HM := Lib.hid hpm
  have hlt := hpm.1.lt
  have HMV := Lib.hid (OW.new w 43 [.int .u8 d, .bool false, .int .u8 k])
  have HM1 := Lib.hid (hpm.keep (bel_a w (.cells #[.int .u8 d, .bool false, .int .u8 k] 43)))
  have HB1 := Lib.hid (bel_a w (.cells #[.int .u8 d, .bool false, .int .u8 k] 43))
  clear hpm
  go_enter Try.func21, Try.ntmps21
  go_upto_region 1 with (fail)
  obtain ⟨W1, eW⟩ : ∃ W, w.alloc (.cells #[.int .u8 d, .bool false, .int .u8 k] 43) = W := ⟨_, rfl⟩
  have eWs : W1.heap.size = w.heap.size + 1 := by rw [← eW]; simp
  rw [eW] at HMV HM1 HB1 ⊢
  clear eW
  obtain ⟨b3, eB⟩ : ∃ b, w.heap.size = b := ⟨_, rfl⟩
  have HE3 := Lib.hid eB
  rw [eB] at HMV hlt eWs ⊢
  clear eB
  obtain ⟨m0', m1', m2'⟩ := cell3 HMV.out
  obtain ⟨c0, c1, c2, c3, c4, c5, c6, c7, c8, c9, c10, c11⟩ := cell12 HM1.out.1
  have hlt1 : p < W1.heap.size := HM1.out.1.lt
  clear eWs
  have HSV0 := Lib.hid HM1.out.2.1.sv
  have HSV1 := Lib.hid HM1.out.2.2.1.sv
  have hbp : Hid (Below p w W1) := Lib.hid (HB1.out.mono (by rw [HE3.out]; omega))
  obtain ⟨b9, o9, rfl, hb9, x0, x1⟩ := (own_rl HM1.out.2.2.2.2.1).t (i := q) (by have := HZ.out; omega)
  rw [HXY.out] at x0 x1
  go_upto_region 21 with (fail)
  clear m0' m1' m2' c0 c1 c2 c3 c4 c5 c6 c7 c8 c9 c10 c11 x0 x1
  have Q11 := Lib.hid (OW.new W1 27 [.int .i64 x, .int .i64 y])
  have HM2 := Lib.hid (HM1.out.keep (bel_a W1 (.cells #[.int .i64 x, .int .i64 y] 27)))
  have HB2 := Lib.hid (hbp.out.alloc (show p ≤ W1.heap.size by omega) (.cells #[.int .i64 x, .int .i64 y] 27))
  obtain ⟨W2, eW⟩ : ∃ W, W1.alloc (.cells #[.int .i64 x, .int .i64 y] 27) = W := ⟨_, rfl⟩
  have eW2 : W2.heap.size = W1.heap.size + 1 := by rw [← eW]; simp
  rw [eW] at Q11 HM2 HB2 ⊢
  obtain ⟨b11, eB⟩ : ∃ b, W1.heap.size = b := ⟨_, rfl⟩
  rw [eB] at Q11 eW2 ⊢
  clear eW
  obtain ⟨c0, c1, c2, c3, c4, c5, c6, c7, c8, c9, c10, c11⟩ := cell12 HM2.out.1
  obtain ⟨y0, y1⟩ := cell2 Q11.out
  have l11 := Q11.out.lt
  have lp := HM2.out.1.lt
  have HSVa : Hid (SV W2.drew (.agg #[.int .i64 h0, .int .i64 nx0, .slice A0 n0 n0, .slice B0 m0 m0]) h0 nx0 O0 I0) := Lib.hid HM2.out.2.1.sv
  have HSVb : Hid (SV (W2.alloc (.cells #[.int .i64 0, .int .i64 0, .slice none 0 0, .slice none 0 0] 25)).drew (.agg #[.int .i64 h0, .int .i64 nx0, .slice A0 n0 n0, .slice B0 m0 m0]) h0 nx0 O0 I0) := Lib.hid (HM2.out.keep (bel_a W2 (.cells #[.int .i64 0, .int .i64 0, .slice none 0 0, .slice none 0 0] 25))).2.1.sv
  clear eB eW2
  go_cut [12, 13] (fun v12 v13 wx => ∃ b12, v12 = .pointer (some ⟨b12, 0, none⟩) ∧ v13 = .int .i64 5 ∧ OW wx b12 25 [.int .i64 0, .int .i64 0, .slice none 0 0, .slice none 0 0] ∧ PM wx p h0 nx0 A0 n0 B0 m0 h1 nx1 A1 n1 B1 m1 s0 (Value.slice (some ⟨b9, o9, none⟩) z cr) k0 k1 O0 I0 Z0 K0 O1 I1 Z1 K1 ∧ OW wx b11 27 [.int .i64 x, .int .i64 y] ∧ Below p w wx)
  case first =>
    go_region_law (first
      | (go_simp; go_at_call 13; refine (recv_x _ h0 nx0 O0 I0 x y _ 5 (by first | exact HSVa.out | exact HSVb.out) HER.out (by decide)).mono ?_; rintro e wa ⟨rfl, hw⟩
         first
           | (have t12 : OW wa W2.heap.size 25 [.int .i64 0, .int .i64 0, .slice none 0 0, .slice none 0 0] := ((OW.new W2 25 [.int .i64 0, .int .i64 0, .slice none 0 0, .slice none 0 0]).drew).keep hw
              obtain ⟨t0, t1, t2, t3⟩ := cell4 t12; have u0 := t12.thaw 0; have u1 := t12.thaw 1; have u2 := t12.thaw 2; have u3 := t12.thaw 3
              have hpw := ((HM2.out.keep (bel_a W2 (.cells #[.int .i64 0, .int .i64 0, .slice none 0 0, .slice none 0 0] 25))).drew).keep hw; have q11 := ((Q11.out.alloc (.cells #[.int .i64 0, .int .i64 0, .slice none 0 0, .slice none 0 0] 25)).drew).keep hw
              have hbw := (Below.drew (HB2.out.alloc (show p ≤ W2.heap.size by omega) (.cells #[.int .i64 0, .int .i64 0, .slice none 0 0, .slice none 0 0] 25))).trans (hw.mono (by simp; omega)); clear hw)
           | (have hpw := (HM2.out.drew).keep hw; have q11 := (Q11.out.drew).keep hw
              have hbw := (Below.drew HB2.out).trans (hw.mono (show p ≤ W2.heap.size by omega)); clear hw)))
    all_goals ((try go_wp2_with fail); go_meet)
    all_goals (first
      | exact ⟨_, rfl, rfl, t12.set4 _ _ _ _, hpw.far4 t12 0 1 2 3 _ _ _ _, q11.far4 (OW_ne q11 t12 (by decide)) 0 1 2 3 _ _ _ _, bel_set4 hbw (show p ≤ W2.heap.size by omega) 0 1 2 3 _ _ _ _⟩
      | exact ⟨_, rfl, rfl, OW.new wa _ _, hpw.keep (bel_a wa _), q11.alloc _, hbw.alloc (show p ≤ wa.heap.size by have := hpw.1.lt; omega) _⟩)
  case rest =>
    obtain ⟨b12, rfl, rfl, q12, hp3, q11, hb3⟩ := hcut
    have HM3 := Lib.hid hp3
    have HB3 := Lib.hid hb3
    have HQ11 := Lib.hid q11
    clear c0 c1 c2 c3 c4 c5 c6 c7 c8 c9 c10 c11 y0 y1 HM2 Q11 HB2 HSVa HSVb HM1 HSV0 HSV1 HMV HB1 l11 lp
    have hp4 := hp3
    have hb4 := hb3
    clear q12 hp3 hb3 HM3 HB3 HQ11
    have lp3 := hp4.1.lt
    have l83 := q11.lt
    obtain ⟨y0, y1⟩ := cell2 q11
    have HX := Lib.hid ((hp4.keep (bel_a wc (.cells #[.int .i64 x] 3))).drew)
    have HN := Lib.hid ((OW.new wc 3 [.int .i64 x]).drew)
    have HBX := Lib.hid (Below.drew (hb4.alloc (show p ≤ wc.heap.size by omega) (.cells #[.int .i64 x] 3)))
    have cs := hp4.1.at (j := 10) rfl
    clear hp4 hb4 q11
    go_upto_region 25 with (fail)
    go_region_law (first
      | (refine step_rlf _ (by rfl) (.tmp 155) (.tmp 158) 23 (by rfl) (p + 1) 3 i0 _ 1 8 Try.underlying23 HI.out HZ0.out HZ1.out HZ2.out (by rfl) (by omega) _ _ _ (by rfl) HX.out.2.2.2.2.2.1 _ 1 1 [.int .i64 x] (by rfl) (by rfl) HN.out (one1c _) (by unfold maxLen; omega) (by omega) (by first | omega | (simp <;> omega)) ?_; intro v1' wA hown1 hgrow1 hfr1
         obtain ⟨Av, cv, rfl, _, _⟩ := own_form hown1
         have hown2 : wA.ownsRow (p + 1) 3 1 (.slice Av (K0.length + 1) cv) (K0 ++ [x]).length (cI (K0 ++ [x])) := by rw [List.length_append, ← cI_snoc]; exact hown1
         have hpa := HX.out.1.grow hgrow1 (own_blk HX.out.2.2.2.2.2.1 (Nat.lt_succ_self p))
         have ca := hpa.at (j := 10) rfl; have za := hpa.thaw 10; have hba := Below.grown HBX.out hgrow1 (by first | omega | (simp <;> omega)) (fun g hg => Nat.le_of_lt (own_ge HX.out.2.2.2.2.2.1 g hg)); clear hown1))
    all_goals (go_wp2_with fail)
    all_goals go_ret
    all_goals (exact ⟨rfl, ⟨_, HX.out.row2 hgrow1 hown2 hfr1⟩, hba.setCell (Nat.le_refl p) _⟩)

set_option maxRecDepth 100000 in
set_option maxHeartbeats 4000000 in
theorem ap_recv_no0 (p : Nat) (h0 nx0 : Int) (A0 : Option Addr) (n0 : Nat) (B0 : Option Addr) (m0 : Nat) (h1 nx1 : Int) (A1 : Option Addr) (n1 : Nat) (B1 : Option Addr) (m1 : Nat) (s0 s1 k0 k1 : Value) (O0 : List (Int × Int)) (I0 : List Int) (Z0 : List (Int × Int)) (K0 : List Int) (O1 : List (Int × Int)) (I1 : List Int) (Z1 : List (Int × Int)) (K1 : List Int) (d k : Int) (w : World) (hk : 0 ≤ k ∧ k ≤ 255) (hpm : PM w p h0 nx0 A0 n0 B0 m0 h1 nx1 A1 n1 B1 m1 s0 s1 k0 k1 O0 I0 Z0 K0 O1 I1 Z1 K1) (h3 : d.tmod 3 = 1) (q : Nat) (h0z : 0 < Z1.length) (hq : k % (Z1.length : Int) = (q : Int)) (x y : Int) (hxy : at2 Z1 q = (x, y)) (er : Int) (hE : rE h0 nx0 O0 I0 x y = er) (he0 : er ≠ 0) (he5 : er ≠ 5) :
    Calls Try.prog 21 #[.pointer (some ⟨p, 0, none⟩), .agg #[.int .u8 d, .bool false, .int .u8 k]] w fun e w' => e = .returned (.bool true) ∧ PM w' p h0 nx0 A0 n0 B0 m0 h1 nx1 A1 n1 B1 m1 s0 s1 k0 k1 O0 I0 Z0 K0 O1 I1 Z1 K1 ∧ Below p w w' := by
  have HER := Lib.hid hE
  have HXY := Lib.hid hxy
  clear hE hxy
  have HE0 := Lib.hid he0
  have e0 : (er == 0) = false := by simpa using he0
  have e5 : (er == 5) = false := by simpa using he5
  clear he0 he5
  obtain ⟨Ar, cr, er1, hcr, hnr⟩ := own_form hpm.2.2.2.2.1
  obtain ⟨z, hz⟩ : ∃ z, Z1.length = z := ⟨_, rfl⟩
  rw [hz] at er1 hcr hnr
  subst er1
  have HZ := Lib.hid hz
  rw [hz] at h0z hq
  have hz0 : 0 < z := by omega
  have tq : k.tmod (z : Int) = (q : Int) := by rw [Int.tmod_eq_emod_of_nonneg (by omega)]; exact hq
  have hq2 : q < z := by have := Int.emod_lt_of_pos k (show (0 : Int) < z by omega); omega
  have i0q : (0 : Int) ≤ (q : Int) := by omega
  have i1q : (q : Int) < (z : Int) := by omega
  have nz : ¬ (z : Int) = 0 := by omega
  have nz' : ¬ z = 0 := by omega
  have hgz : decide ((0 : Int) < (z : Int)) = true := decide_eq_true (by omega)
  clear hq hz
  have HM := Lib.hid hpm
  have hlt := hpm.1.lt
  have HMV := Lib.hid (OW.new w 43 [.int .u8 d, .bool false, .int .u8 k])
  have HM1 := Lib.hid (hpm.keep (bel_a w (.cells #[.int .u8 d, .bool false, .int .u8 k] 43)))
  have HB1 := Lib.hid (bel_a w (.cells #[.int .u8 d, .bool false, .int .u8 k] 43))
  clear hpm
  go_enter Try.func21, Try.ntmps21
  go_upto_region 1 with (fail)
  obtain ⟨W1, eW⟩ : ∃ W, w.alloc (.cells #[.int .u8 d, .bool false, .int .u8 k] 43) = W := ⟨_, rfl⟩
  have eWs : W1.heap.size = w.heap.size + 1 := by rw [← eW]; simp
  rw [eW] at HMV HM1 HB1 ⊢
  clear eW
  obtain ⟨b3, eB⟩ : ∃ b, w.heap.size = b := ⟨_, rfl⟩
  have HE3 := Lib.hid eB
  rw [eB] at HMV hlt eWs ⊢
  clear eB
  obtain ⟨m0', m1', m2'⟩ := cell3 HMV.out
  obtain ⟨c0, c1, c2, c3, c4, c5, c6, c7, c8, c9, c10, c11⟩ := cell12 HM1.out.1
  have hlt1 : p < W1.heap.size := HM1.out.1.lt
  clear eWs
  have HSV0 := Lib.hid HM1.out.2.1.sv
  have HSV1 := Lib.hid HM1.out.2.2.1.sv
  have hbp : Hid (Below p w W1) := Lib.hid (HB1.out.mono (by rw [HE3.out]; omega))
  obtain ⟨b9, o9, rfl, hb9, x0, x1⟩ := (own_rl HM1.out.2.2.2.2.1).t (i := q) (by have := HZ.out; omega)
  rw [HXY.out] at x0 x1
  go_upto_region 21 with (fail)
  clear m0' m1' m2' c0 c1 c2 c3 c4 c5 c6 c7 c8 c9 c10 c11 x0 x1
  have Q11 := Lib.hid (OW.new W1 27 [.int .i64 x, .int .i64 y])
  have HM2 := Lib.hid (HM1.out.keep (bel_a W1 (.cells #[.int .i64 x, .int .i64 y] 27)))
  have HB2 := Lib.hid (hbp.out.alloc (show p ≤ W1.heap.size by omega) (.cells #[.int .i64 x, .int .i64 y] 27))
  obtain ⟨W2, eW⟩ : ∃ W, W1.alloc (.cells #[.int .i64 x, .int .i64 y] 27) = W := ⟨_, rfl⟩
  have eW2 : W2.heap.size = W1.heap.size + 1 := by rw [← eW]; simp
  rw [eW] at Q11 HM2 HB2 ⊢
  obtain ⟨b11, eB⟩ : ∃ b, W1.heap.size = b := ⟨_, rfl⟩
  rw [eB] at Q11 eW2 ⊢
  clear eW
  obtain ⟨c0, c1, c2, c3, c4, c5, c6, c7, c8, c9, c10, c11⟩ := cell12 HM2.out.1
  obtain ⟨y0, y1⟩ := cell2 Q11.out
  have l11 := Q11.out.lt
  have lp := HM2.out.1.lt
  have HSVa : Hid (SV W2.drew (.agg #[.int .i64 h0, .int .i64 nx0, .slice A0 n0 n0, .slice B0 m0 m0]) h0 nx0 O0 I0) := Lib.hid HM2.out.2.1.sv
  have HSVb : Hid (SV (W2.alloc (.cells #[.int .i64 0, .int .i64 0, .slice none 0 0, .slice none 0 0] 25)).drew (.agg #[.int .i64 h0, .int .i64 nx0, .slice A0 n0 n0, .slice B0 m0 m0]) h0 nx0 O0 I0) := Lib.hid (HM2.out.keep (bel_a W2 (.cells #[.int .i64 0, .int .i64 0, .slice none 0 0, .slice none 0 0] 25))).2.1.sv
  clear eB eW2
  go_cut [12, 13] (fun v12 v13 wx => ∃ b12, v12 = .pointer (some ⟨b12, 0, none⟩) ∧ v13 = .int .i64 er ∧ OW wx b12 25 [.int .i64 0, .int .i64 0, .slice none 0 0, .slice none 0 0] ∧ PM wx p h0 nx0 A0 n0 B0 m0 h1 nx1 A1 n1 B1 m1 s0 (Value.slice (some ⟨b9, o9, none⟩) z cr) k0 k1 O0 I0 Z0 K0 O1 I1 Z1 K1 ∧ OW wx b11 27 [.int .i64 x, .int .i64 y] ∧ Below p w wx)
  case first =>
    go_region_law (first
      | (go_simp; go_at_call 13; refine (recv_x _ h0 nx0 O0 I0 x y _ er (by first | exact HSVa.out | exact HSVb.out) HER.out HE0.out).mono ?_; rintro e wa ⟨rfl, hw⟩
         first
           | (have t12 : OW wa W2.heap.size 25 [.int .i64 0, .int .i64 0, .slice none 0 0, .slice none 0 0] := ((OW.new W2 25 [.int .i64 0, .int .i64 0, .slice none 0 0, .slice none 0 0]).drew).keep hw
              obtain ⟨t0, t1, t2, t3⟩ := cell4 t12; have u0 := t12.thaw 0; have u1 := t12.thaw 1; have u2 := t12.thaw 2; have u3 := t12.thaw 3
              have hpw := ((HM2.out.keep (bel_a W2 (.cells #[.int .i64 0, .int .i64 0, .slice none 0 0, .slice none 0 0] 25))).drew).keep hw; have q11 := ((Q11.out.alloc (.cells #[.int .i64 0, .int .i64 0, .slice none 0 0, .slice none 0 0] 25)).drew).keep hw
              have hbw := (Below.drew (HB2.out.alloc (show p ≤ W2.heap.size by omega) (.cells #[.int .i64 0, .int .i64 0, .slice none 0 0, .slice none 0 0] 25))).trans (hw.mono (by simp; omega)); clear hw)
           | (have hpw := (HM2.out.drew).keep hw; have q11 := (Q11.out.drew).keep hw
              have hbw := (Below.drew HB2.out).trans (hw.mono (show p ≤ W2.heap.size by omega)); clear hw)))
    all_goals ((try go_wp2_with fail); go_meet)
    all_goals (first
      | exact ⟨_, rfl, rfl, t12.set4 _ _ _ _, hpw.far4 t12 0 1 2 3 _ _ _ _, q11.far4 (OW_ne q11 t12 (by decide)) 0 1 2 3 _ _ _ _, bel_set4 hbw (show p ≤ W2.heap.size by omega) 0 1 2 3 _ _ _ _⟩
      | exact ⟨_, rfl, rfl, OW.new wa _ _, hpw.keep (bel_a wa _), q11.alloc _, hbw.alloc (show p ≤ wa.heap.size by have := hpw.1.lt; omega) _⟩)
  case rest =>
    obtain ⟨b12, rfl, rfl, q12, hp3, q11, hb3⟩ := hcut
    have HM3 := Lib.hid hp3
    have HB3 := Lib.hid hb3
    have HQ11 := Lib.hid q11
    clear c0 c1 c2 c3 c4 c5 c6 c7 c8 c9 c10 c11 y0 y1 HM2 Q11 HB2 HSVa HSVb HM1 HSV0 HSV1 HMV HB1 l11 lp
    clear q12 hp3 q11 hb3
    go_wp2_with fail
    go_ret
    exact ⟨rfl, HM3.out, HB3.out⟩

end Go.Proofs.Yteeohndgkfilaaa
