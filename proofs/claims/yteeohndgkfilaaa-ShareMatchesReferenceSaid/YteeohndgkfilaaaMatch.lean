/-
  THE LAW ShareMatchesReference, walked.
-/
import Derived.Test.YteeohndgkfilaaaOnce
import Derived.Test.YteeohndgkfilaaaRack
namespace Go.Proofs.Yteeohndgkfilaaa
open Go.RowKit
set_option linter.unusedVariables false
attribute [local go_sem ↓] Go.wp_at_zero Go.wp_at_succ

theorem SV.agg {W : World} {v : Value} {h nx : Int} {O : List (Int × Int)} {I : List Int} (x : SV W v h nx O I) : ∃ A n c B m d, v = .agg #[.int .i64 h, .int .i64 nx, .slice A n c, .slice B m d] ∧ SV W (.agg #[.int .i64 h, .int .i64 nx, .slice A n c, .slice B m d]) h nx O I := by
  obtain ⟨A, c, B, d, rfl, r⟩ := x
  exact ⟨A, _, c, B, _, d, rfl, A, c, B, d, rfl, r⟩
/-- Send and the reference's: one answer -/
theorem send_d (h nx : Int) (O : List (Int × Int)) (I : List Int) (a : Int) : ∃ h1 nx1 O1 I1 t0 t1 er1, (O1.length ≤ 1000 ∧ I1.length ≤ 1000) ∧
    (∀ (v : Value) (w : World), SV w v h nx O I → Calls Try.prog 11 #[v, .int .i64 a] w fun e w' => ∃ A n c B m d, e = .returned (.tuple #[.agg #[.int .i64 h1, .int .i64 nx1, .slice A n c, .slice B m d], .agg #[.int .i64 t0, .int .i64 t1], .int .i64 er1]) ∧ SV w' (.agg #[.int .i64 h1, .int .i64 nx1, .slice A n c, .slice B m d]) h1 nx1 O1 I1 ∧ Below w.heap.size w w') ∧
    (∀ (v : Value) (w : World), SV w v h nx O I → Calls Try.prog 12 #[v, .int .i64 a] w fun e w' => ∃ A n c B m d, e = .returned (.tuple #[.agg #[.int .i64 h1, .int .i64 nx1, .slice A n c, .slice B m d], .agg #[.int .i64 t0, .int .i64 t1], .int .i64 er1]) ∧ SV w' (.agg #[.int .i64 h1, .int .i64 nx1, .slice A n c, .slice B m d]) h1 nx1 O1 I1 ∧ Below w.heap.size w w') := by
  by_cases he : sE h nx O I a = 0
  · have hv := sE0 he
    have hl := hv.1.2.1
    refine ⟨h - a, nx + 1, O ++ [(nx, a)], I, nx, a, 0, ⟨by simp; omega, by omega⟩, fun v w hs => ?_, fun v w hs => ?_⟩
    · refine (send_all v h nx O I a w hs).mono ?_
      rintro e w' ⟨⟨v', t, er, rfl, h1, h2⟩, hb⟩
      rcases h2 with ⟨rfl, h3, rfl⟩ | ⟨h3, _⟩
      · obtain ⟨A, n, c, B, m, d, rfl, r⟩ := h3.sv.agg
        exact ⟨A, n, c, B, m, d, rfl, r, hb⟩
      · exact absurd (h1.trans he) h3
    · refine (rsend_all v h nx O I a w hs).mono ?_
      rintro e w' ⟨⟨v', t, er, rfl, h1, h2⟩, hb⟩
      rcases h2 with ⟨rfl, h3, rfl⟩ | ⟨h3, _⟩
      · obtain ⟨A, n, c, B, m, d, rfl, r⟩ := h3.agg
        exact ⟨A, n, c, B, m, d, rfl, r, hb⟩
      · exact absurd (h1.trans he) h3
  · refine ⟨0, 0, [], [], 0, 0, sE h nx O I a, ⟨by simp, by simp⟩, fun v w hs => ?_, fun v w hs => ?_⟩
    · refine (send_all v h nx O I a w hs).mono ?_
      rintro e w' ⟨⟨v', t, er, rfl, h1, h2⟩, hb⟩
      rcases h2 with ⟨h0, _⟩ | ⟨_, rfl, rfl⟩
      · exact absurd (h1.symm.trans h0) he
      · exact ⟨none, 0, 0, none, 0, 0, by rw [← h1]; rfl, sv_lit _ _ _, hb⟩
    · refine (rsend_all v h nx O I a w hs).mono ?_
      rintro e w' ⟨⟨v', t, er, rfl, h1, h2⟩, hb⟩
      rcases h2 with ⟨h0, _⟩ | ⟨_, rfl, rfl⟩
      · exact absurd (h1.symm.trans h0) he
      · exact ⟨none, 0, 0, none, 0, 0, by rw [← h1]; rfl, sv_lit _ _ _, hb⟩
theorem recv_d (h nx : Int) (O : List (Int × Int)) (I : List Int) (x y : Int) : ∃ h1 nx1 O1 I1 er1, (O1.length ≤ 1000 ∧ I1.length ≤ 1000) ∧
    (∀ (v : Value) (w : World), SV w v h nx O I → Calls Try.prog 13 #[v, .agg #[.int .i64 x, .int .i64 y]] w fun e w' => ∃ A n c B m d, e = .returned (.tuple #[.agg #[.int .i64 h1, .int .i64 nx1, .slice A n c, .slice B m d], .int .i64 er1]) ∧ SV w' (.agg #[.int .i64 h1, .int .i64 nx1, .slice A n c, .slice B m d]) h1 nx1 O1 I1 ∧ Below w.heap.size w w') ∧
    (∀ (v : Value) (w : World), SV w v h nx O I → Calls Try.prog 14 #[v, .agg #[.int .i64 x, .int .i64 y]] w fun e w' => ∃ A n c B m d, e = .returned (.tuple #[.agg #[.int .i64 h1, .int .i64 nx1, .slice A n c, .slice B m d], .int .i64 er1]) ∧ SV w' (.agg #[.int .i64 h1, .int .i64 nx1, .slice A n c, .slice B m d]) h1 nx1 O1 I1 ∧ Below w.heap.size w w') := by
  by_cases he : rE h nx O I x y = 0
  · have hv := rE0 he
    have hl := hv.1.2.1
    refine ⟨h + y, nx, O, insO x I, 0, ⟨by omega, by rw [insO_len]; omega⟩, fun v w hs => ?_, fun v w hs => ?_⟩
    · refine (recv_all v h nx O I x y w hs).mono ?_
      rintro e w' ⟨⟨v', er, rfl, h1, h2⟩, hb⟩
      rcases h2 with ⟨rfl, h3⟩ | ⟨h3, _⟩
      · obtain ⟨A, n, c, B, m, d, rfl, r⟩ := h3.sv.agg
        exact ⟨A, n, c, B, m, d, rfl, r, hb⟩
      · exact absurd (h1.trans he) h3
    · refine (rrecv_all v h nx O I x y w hs).mono ?_
      rintro e w' ⟨⟨v', er, rfl, h1, h2⟩, hb⟩
      rcases h2 with ⟨rfl, h3⟩ | ⟨h3, _⟩
      · obtain ⟨A, n, c, B, m, d, rfl, r⟩ := h3.agg
        exact ⟨A, n, c, B, m, d, rfl, r, hb⟩
      · exact absurd (h1.trans he) h3
  · refine ⟨0, 0, [], [], rE h nx O I x y, ⟨by simp, by simp⟩, fun v w hs => ?_, fun v w hs => ?_⟩
    · refine (recv_all v h nx O I x y w hs).mono ?_
      rintro e w' ⟨⟨v', er, rfl, h1, h2⟩, hb⟩
      rcases h2 with ⟨h0, _⟩ | ⟨_, rfl⟩
      · exact absurd (h1.symm.trans h0) he
      · exact ⟨none, 0, 0, none, 0, 0, by rw [← h1]; rfl, sv_lit _ _ _, hb⟩
    · refine (rrecv_all v h nx O I x y w hs).mono ?_
      rintro e w' ⟨⟨v', er, rfl, h1, h2⟩, hb⟩
      rcases h2 with ⟨h0, _⟩ | ⟨_, rfl⟩
      · exact absurd (h1.symm.trans h0) he
      · exact ⟨none, 0, 0, none, 0, 0, by rw [← h1]; rfl, sv_lit _ _ _, hb⟩
theorem ack_d (h nx : Int) (O : List (Int × Int)) (I : List Int) (x : Int) : ∃ h1 nx1 O1 I1 er1, (O1.length ≤ 1000 ∧ I1.length ≤ 1000) ∧
    (∀ (v : Value) (w : World), SV w v h nx O I → Calls Try.prog 15 #[v, .int .i64 x] w fun e w' => ∃ A n c B m d, e = .returned (.tuple #[.agg #[.int .i64 h1, .int .i64 nx1, .slice A n c, .slice B m d], .int .i64 er1]) ∧ SV w' (.agg #[.int .i64 h1, .int .i64 nx1, .slice A n c, .slice B m d]) h1 nx1 O1 I1 ∧ Below w.heap.size w w') ∧
    (∀ (v : Value) (w : World), SV w v h nx O I → Calls Try.prog 16 #[v, .int .i64 x] w fun e w' => ∃ A n c B m d, e = .returned (.tuple #[.agg #[.int .i64 h1, .int .i64 nx1, .slice A n c, .slice B m d], .int .i64 er1]) ∧ SV w' (.agg #[.int .i64 h1, .int .i64 nx1, .slice A n c, .slice B m d]) h1 nx1 O1 I1 ∧ Below w.heap.size w w') := by
  by_cases he : aE h nx O I x = 0
  · have hv := aE0 he
    have hl := hv.1.2.1
    refine ⟨h, nx, wo x O, I, 0, ⟨by have := wo_len x O; omega, by omega⟩, fun v w hs => ?_, fun v w hs => ?_⟩
    · refine (ack_all v h nx O I x w hs).mono ?_
      rintro e w' ⟨⟨v', er, rfl, h1, h2⟩, hb⟩
      rcases h2 with ⟨rfl, h3⟩ | ⟨h3, _⟩
      · obtain ⟨A, n, c, B, m, d, rfl, r⟩ := h3.sv.agg
        exact ⟨A, n, c, B, m, d, rfl, r, hb⟩
      · exact absurd (h1.trans he) h3
    · refine (rack_all v h nx O I x w hs).mono ?_
      rintro e w' ⟨⟨v', er, rfl, h1, h2⟩, hb⟩
      rcases h2 with ⟨rfl, h3⟩ | ⟨h3, _⟩
      · obtain ⟨A, n, c, B, m, d, rfl, r⟩ := h3.agg
        exact ⟨A, n, c, B, m, d, rfl, r, hb⟩
      · exact absurd (h1.trans he) h3
  · refine ⟨0, 0, [], [], aE h nx O I x, ⟨by simp, by simp⟩, fun v w hs => ?_, fun v w hs => ?_⟩
    · refine (ack_all v h nx O I x w hs).mono ?_
      rintro e w' ⟨⟨v', er, rfl, h1, h2⟩, hb⟩
      rcases h2 with ⟨h0, _⟩ | ⟨_, rfl⟩
      · exact absurd (h1.symm.trans h0) he
      · exact ⟨none, 0, 0, none, 0, 0, by rw [← h1]; rfl, sv_lit _ _ _, hb⟩
    · refine (rack_all v h nx O I x w hs).mono ?_
      rintro e w' ⟨⟨v', er, rfl, h1, h2⟩, hb⟩
      rcases h2 with ⟨h0, _⟩ | ⟨_, rfl⟩
      · exact absurd (h1.symm.trans h0) he
      · exact ⟨none, 0, 0, none, 0, 0, by rw [← h1]; rfl, sv_lit _ _ _, hb⟩

set_option maxRecDepth 100000 in
set_option maxHeartbeats 4000000 in
theorem match_no (v : Value) (h nx : Int) (O : List (Int × Int)) (I : List Int) (a x y q : Int) (w : World) (hs : SV w v h nx O I) (hf : fewB O I = false) :
    Calls Try.prog 3 #[v, .int .i64 a, .agg #[.int .i64 x, .int .i64 y], .int .i64 q] w fun e w' => e = .returned (.bool true) ∧ Below w.heap.size w w' := by
  have HS := Lib.hid hs
  obtain ⟨A, c, B, d, rfl, _⟩ := hs
  generalize hn : O.length = n at *
  generalize hm : I.length = m at *
  have HB3 : Hid (∀ o1 o2 : Obj, Below w.heap.size w ((w.alloc o1).alloc o2)) := Lib.hid fun o1 o2 => bel_alloc (bel_a w o1) o2
  have HP : Hid (∀ o2 : Obj, OW ((w.alloc (.cells #[.int .i64 h, .int .i64 nx, .slice A n c, .slice B m d] 25)).alloc o2) w.heap.size 25 [.int .i64 h, .int .i64 nx, .slice A n c, .slice B m d]) := Lib.hid fun o2 => (OW.new w 25 [.int .i64 h, .int .i64 nx, .slice A n c, .slice B m d]).alloc o2
  have HP6 : Hid (∀ o1 : Obj, OW ((w.alloc o1).alloc (.cells #[.int .i64 x, .int .i64 y] 27)) (w.heap.size + 1) 27 [.int .i64 x, .int .i64 y]) := Lib.hid fun o1 => OW.new1 w o1 27 [.int .i64 x, .int .i64 y]
  have HF := Lib.hid hf
  clear hf
  go_enter Try.func3, Try.ntmps3
  go_wp2_with (first
    | (go_at_call 9; with_reducible refine (head_any _).mono ?_; rintro e w1 ⟨rfl, g1⟩
       have H1 := Lib.hid (bel_step (HB3.out _ _) g1)
       have P1 := Lib.hid ((HP.out _).keep g1)
       have P6 := Lib.hid ((HP6.out _).keep g1)
       obtain ⟨c0, c1, c2, c3⟩ := cell4 P1.out)
    | (go_at_call 10; with_reducible refine (few_sv _ h nx O I _ (HS.out.keep H1.out) false HF.out).mono ?_; rintro e w2 ⟨rfl, g2⟩
       have HB := Lib.hid (bel_step H1.out g2)
       have O4 := Lib.hid (P1.out.keep g2)
       have O6 := Lib.hid (P6.out.keep g2)))
  go_ret
  exact ⟨rfl, HB.out⟩

set_option maxRecDepth 100000 in
set_option maxHeartbeats 16000000 in
theorem match_ok (v : Value) (h nx : Int) (O : List (Int × Int)) (I : List Int) (a x y q : Int) (w : World) (hs : SV w v h nx O I) (hf : fewB O I = true) :
    Calls Try.prog 3 #[v, .int .i64 a, .agg #[.int .i64 x, .int .i64 y], .int .i64 q] w fun e w' => e = .returned (.bool true) ∧ Below w.heap.size w w' := by
  obtain ⟨h1, nx1, O1, I1, t0, t1, er1, l1, cs⟩ := send_d h nx O I a
  obtain ⟨h2, nx2, O2, I2, er2, l2, cr⟩ := recv_d h nx O I x y
  obtain ⟨h3, nx3, O3, I3, er3, l3, ca⟩ := ack_d h nx O I q
  have CS := Lib.hid cs
  have CR := Lib.hid cr
  have CA := Lib.hid ca
  have L1 := Lib.hid l1
  have L2 := Lib.hid l2
  have L3 := Lib.hid l3
  clear cs cr ca l1 l2 l3
  have HS := Lib.hid hs
  obtain ⟨A, c, B, d, rfl, _⟩ := hs
  generalize hn : O.length = n at *
  generalize hm : I.length = m at *
  have HB3 : Hid (∀ o1 o2 : Obj, Below w.heap.size w ((w.alloc o1).alloc o2)) := Lib.hid fun o1 o2 => bel_alloc (bel_a w o1) o2
  have HP : Hid (∀ o2 : Obj, OW ((w.alloc (.cells #[.int .i64 h, .int .i64 nx, .slice A n c, .slice B m d] 25)).alloc o2) w.heap.size 25 [.int .i64 h, .int .i64 nx, .slice A n c, .slice B m d]) := Lib.hid fun o2 => (OW.new w 25 [.int .i64 h, .int .i64 nx, .slice A n c, .slice B m d]).alloc o2
  have HP6 : Hid (∀ o1 : Obj, OW ((w.alloc o1).alloc (.cells #[.int .i64 x, .int .i64 y] 27)) (w.heap.size + 1) 27 [.int .i64 x, .int .i64 y]) := Lib.hid fun o1 => OW.new1 w o1 27 [.int .i64 x, .int .i64 y]
  have HF := Lib.hid hf
  clear hf
  go_enter Try.func3, Try.ntmps3
  go_upto_region 4 with (first
    | (go_at_call 9; with_reducible refine (head_any _).mono ?_; rintro e w1 ⟨rfl, g1⟩
       have H1 := Lib.hid (bel_step (HB3.out _ _) g1)
       have P1 := Lib.hid ((HP.out _).keep g1)
       have P6 := Lib.hid ((HP6.out _).keep g1)
       obtain ⟨c0, c1, c2, c3⟩ := cell4 P1.out)
    | (go_at_call 10; with_reducible refine (few_sv _ h nx O I _ (HS.out.keep H1.out) true HF.out).mono ?_; rintro e w2 ⟨rfl, g2⟩
       have HB := Lib.hid (bel_step H1.out g2)
       have O4 := Lib.hid (P1.out.keep g2)
       have O6 := Lib.hid (P6.out.keep g2)))
  clear c0 c1 c2 c3 g1 g2 P1 P6 H1 HP HP6 HB3
  replace HS := Lib.hid (HS.out.keep HB.out)
  obtain ⟨b6, eB⟩ : ∃ b, w.heap.size + 1 = b := ⟨_, rfl⟩
  rw [eB] at O6 ⊢
  clear eB
  obtain ⟨b4, eB⟩ : ∃ b, w.heap.size = b := ⟨_, rfl⟩
  rw [eB] at O4
  have eB' := Lib.hid eB
  first | rw [eB] | skip
  clear eB
  obtain ⟨j0, j1, j2, j3⟩ := cell4 O4.out
  go_upto_region 5 with (first
    | (go_at_call 11; with_reducible refine (CS.out.1 _ _ HS.out).mono ?_; rintro e wa ⟨A1, n1, c1, B1, m1, d1, rfl, sv1, hw⟩))
  clear j0 j1 j2 j3
  have P10 := Lib.hid ((OW.new wa 25 [.int .i64 h1, .int .i64 nx1, .slice A1 n1 c1, .slice B1 m1 d1]).alloc (.cells #[.int .i64 t0, .int .i64 t1] 27))
  have P11 := Lib.hid (OW.new1 wa (.cells #[.int .i64 h1, .int .i64 nx1, .slice A1 n1 c1, .slice B1 m1 d1] 25) 27 [.int .i64 t0, .int .i64 t1])
  replace hw := bel_step hw (bel_alloc (bel_a wa (.cells #[.int .i64 h1, .int .i64 nx1, .slice A1 n1 c1, .slice B1 m1 d1] 25)) (.cells #[.int .i64 t0, .int .i64 t1] 27))
  have Hsv1 := Lib.hid (sv1.keep (bel_alloc (bel_a wa (.cells #[.int .i64 h1, .int .i64 nx1, .slice A1 n1 c1, .slice B1 m1 d1] 25)) (.cells #[.int .i64 t0, .int .i64 t1] 27)))
  clear sv1
  replace O4 := Lib.hid (O4.out.keep hw)
  replace O6 := Lib.hid (O6.out.keep hw)
  replace HS := Lib.hid (HS.out.keep hw)
  replace HB := Lib.hid (bel_step HB.out hw)
  clear hw
  obtain ⟨W1, eW⟩ : ∃ W, (wa.alloc (.cells #[.int .i64 h1, .int .i64 nx1, .slice A1 n1 c1, .slice B1 m1 d1] 25)).alloc (.cells #[.int .i64 t0, .int .i64 t1] 27) = W := ⟨_, rfl⟩
  rw [eW] at O4 O6 HS P10 P11 Hsv1 HB ⊢
  clear eW
  obtain ⟨b11, eB⟩ : ∃ b, wa.heap.size + 1 = b := ⟨_, rfl⟩
  rw [eB] at P11 ⊢
  clear eB
  obtain ⟨b10, eB⟩ : ∃ b, wa.heap.size = b := ⟨_, rfl⟩
  rw [eB] at P10 ⊢
  clear eB
  obtain ⟨j0, j1, j2, j3⟩ := cell4 O4.out
  go_upto_region 6 with (first
    | (go_at_call 12; with_reducible refine (CS.out.2 _ _ HS.out).mono ?_; rintro e wb ⟨A2, n2, c2, B2, m2, d2, rfl, sv2, hw⟩))
  clear j0 j1 j2 j3
  have P13 := Lib.hid ((OW.new wb 25 [.int .i64 h1, .int .i64 nx1, .slice A2 n2 c2, .slice B2 m2 d2]).alloc (.cells #[.int .i64 t0, .int .i64 t1] 27))
  have P14 := Lib.hid (OW.new1 wb (.cells #[.int .i64 h1, .int .i64 nx1, .slice A2 n2 c2, .slice B2 m2 d2] 25) 27 [.int .i64 t0, .int .i64 t1])
  replace hw := bel_step hw (bel_alloc (bel_a wb (.cells #[.int .i64 h1, .int .i64 nx1, .slice A2 n2 c2, .slice B2 m2 d2] 25)) (.cells #[.int .i64 t0, .int .i64 t1] 27))
  have Hsv2 := Lib.hid (sv2.keep (bel_alloc (bel_a wb (.cells #[.int .i64 h1, .int .i64 nx1, .slice A2 n2 c2, .slice B2 m2 d2] 25)) (.cells #[.int .i64 t0, .int .i64 t1] 27)))
  clear sv2
  replace O4 := Lib.hid (O4.out.keep hw)
  replace O6 := Lib.hid (O6.out.keep hw)
  replace HS := Lib.hid (HS.out.keep hw)
  replace P10 := Lib.hid (P10.out.keep hw)
  replace P11 := Lib.hid (P11.out.keep hw)
  replace Hsv1 := Lib.hid (Hsv1.out.keep hw)
  replace HB := Lib.hid (bel_step HB.out hw)
  clear hw
  obtain ⟨W2, eW⟩ : ∃ W, (wb.alloc (.cells #[.int .i64 h1, .int .i64 nx1, .slice A2 n2 c2, .slice B2 m2 d2] 25)).alloc (.cells #[.int .i64 t0, .int .i64 t1] 27) = W := ⟨_, rfl⟩
  rw [eW] at O4 O6 HS P10 P11 Hsv1 P13 P14 Hsv2 HB ⊢
  clear eW
  obtain ⟨b14, eB⟩ : ∃ b, wb.heap.size + 1 = b := ⟨_, rfl⟩
  rw [eB] at P14 ⊢
  clear eB
  obtain ⟨b13, eB⟩ : ∃ b, wb.heap.size = b := ⟨_, rfl⟩
  rw [eB] at P13 ⊢
  clear eB
  obtain ⟨j0, j1, j2, j3⟩ := cell4 O4.out
  obtain ⟨i0, i1⟩ := cell2 O6.out
  go_upto_region 7 with (first
    | (go_at_call 13; with_reducible refine (CR.out.1 _ _ HS.out).mono ?_; rintro e wc ⟨A3, n3, c3, B3, m3, d3, rfl, sv3, hw⟩))
  clear j0 j1 j2 j3 i0 i1
  have P16 := Lib.hid (OW.new wc 25 [.int .i64 h2, .int .i64 nx2, .slice A3 n3 c3, .slice B3 m3 d3])
  replace hw := bel_step hw (bel_a wc (.cells #[.int .i64 h2, .int .i64 nx2, .slice A3 n3 c3, .slice B3 m3 d3] 25))
  have Hsv3 := Lib.hid (sv3.keep (bel_a wc (.cells #[.int .i64 h2, .int .i64 nx2, .slice A3 n3 c3, .slice B3 m3 d3] 25)))
  clear sv3
  replace O4 := Lib.hid (O4.out.keep hw)
  replace O6 := Lib.hid (O6.out.keep hw)
  replace HS := Lib.hid (HS.out.keep hw)
  replace P10 := Lib.hid (P10.out.keep hw)
  replace P11 := Lib.hid (P11.out.keep hw)
  replace Hsv1 := Lib.hid (Hsv1.out.keep hw)
  replace P13 := Lib.hid (P13.out.keep hw)
  replace P14 := Lib.hid (P14.out.keep hw)
  replace Hsv2 := Lib.hid (Hsv2.out.keep hw)
  replace HB := Lib.hid (bel_step HB.out hw)
  clear hw
  obtain ⟨W3, eW⟩ : ∃ W, wc.alloc (.cells #[.int .i64 h2, .int .i64 nx2, .slice A3 n3 c3, .slice B3 m3 d3] 25) = W := ⟨_, rfl⟩
  rw [eW] at O4 O6 HS P10 P11 Hsv1 P13 P14 Hsv2 P16 Hsv3 HB ⊢
  clear eW
  obtain ⟨b16, eB⟩ : ∃ b, wc.heap.size = b := ⟨_, rfl⟩
  rw [eB] at P16 ⊢
  clear eB
  obtain ⟨j0, j1, j2, j3⟩ := cell4 O4.out
  obtain ⟨i0, i1⟩ := cell2 O6.out
  go_upto_region 8 with (first
    | (go_at_call 14; with_reducible refine (CR.out.2 _ _ HS.out).mono ?_; rintro e wd ⟨A4, n4, c4, B4, m4, d4, rfl, sv4, hw⟩))
  clear j0 j1 j2 j3 i0 i1
  have P18 := Lib.hid (OW.new wd 25 [.int .i64 h2, .int .i64 nx2, .slice A4 n4 c4, .slice B4 m4 d4])
  replace hw := bel_step hw (bel_a wd (.cells #[.int .i64 h2, .int .i64 nx2, .slice A4 n4 c4, .slice B4 m4 d4] 25))
  have Hsv4 := Lib.hid (sv4.keep (bel_a wd (.cells #[.int .i64 h2, .int .i64 nx2, .slice A4 n4 c4, .slice B4 m4 d4] 25)))
  clear sv4
  replace O4 := Lib.hid (O4.out.keep hw)
  replace O6 := Lib.hid (O6.out.keep hw)
  replace HS := Lib.hid (HS.out.keep hw)
  replace P10 := Lib.hid (P10.out.keep hw)
  replace P11 := Lib.hid (P11.out.keep hw)
  replace Hsv1 := Lib.hid (Hsv1.out.keep hw)
  replace P13 := Lib.hid (P13.out.keep hw)
  replace P14 := Lib.hid (P14.out.keep hw)
  replace Hsv2 := Lib.hid (Hsv2.out.keep hw)
  replace P16 := Lib.hid (P16.out.keep hw)
  replace Hsv3 := Lib.hid (Hsv3.out.keep hw)
  replace HB := Lib.hid (bel_step HB.out hw)
  clear hw
  obtain ⟨W4, eW⟩ : ∃ W, wd.alloc (.cells #[.int .i64 h2, .int .i64 nx2, .slice A4 n4 c4, .slice B4 m4 d4] 25) = W := ⟨_, rfl⟩
  rw [eW] at O4 O6 HS P10 P11 Hsv1 P13 P14 Hsv2 P16 Hsv3 P18 Hsv4 HB ⊢
  clear eW
  obtain ⟨b18, eB⟩ : ∃ b, wd.heap.size = b := ⟨_, rfl⟩
  rw [eB] at P18 ⊢
  clear eB
  obtain ⟨j0, j1, j2, j3⟩ := cell4 O4.out
  go_upto_region 9 with (first
    | (go_at_call 15; with_reducible refine (CA.out.1 _ _ HS.out).mono ?_; rintro e we ⟨A5, n5, c5, B5, m5, d5, rfl, sv5, hw⟩))
  clear j0 j1 j2 j3
  have P20 := Lib.hid (OW.new we 25 [.int .i64 h3, .int .i64 nx3, .slice A5 n5 c5, .slice B5 m5 d5])
  replace hw := bel_step hw (bel_a we (.cells #[.int .i64 h3, .int .i64 nx3, .slice A5 n5 c5, .slice B5 m5 d5] 25))
  have Hsv5 := Lib.hid (sv5.keep (bel_a we (.cells #[.int .i64 h3, .int .i64 nx3, .slice A5 n5 c5, .slice B5 m5 d5] 25)))
  clear sv5
  replace O4 := Lib.hid (O4.out.keep hw)
  replace O6 := Lib.hid (O6.out.keep hw)
  replace HS := Lib.hid (HS.out.keep hw)
  replace P10 := Lib.hid (P10.out.keep hw)
  replace P11 := Lib.hid (P11.out.keep hw)
  replace Hsv1 := Lib.hid (Hsv1.out.keep hw)
  replace P13 := Lib.hid (P13.out.keep hw)
  replace P14 := Lib.hid (P14.out.keep hw)
  replace Hsv2 := Lib.hid (Hsv2.out.keep hw)
  replace P16 := Lib.hid (P16.out.keep hw)
  replace Hsv3 := Lib.hid (Hsv3.out.keep hw)
  replace P18 := Lib.hid (P18.out.keep hw)
  replace Hsv4 := Lib.hid (Hsv4.out.keep hw)
  replace HB := Lib.hid (bel_step HB.out hw)
  clear hw
  obtain ⟨W5, eW⟩ : ∃ W, we.alloc (.cells #[.int .i64 h3, .int .i64 nx3, .slice A5 n5 c5, .slice B5 m5 d5] 25) = W := ⟨_, rfl⟩
  rw [eW] at O4 O6 HS P10 P11 Hsv1 P13 P14 Hsv2 P16 Hsv3 P18 Hsv4 P20 Hsv5 HB ⊢
  clear eW
  obtain ⟨b20, eB⟩ : ∃ b, we.heap.size = b := ⟨_, rfl⟩
  rw [eB] at P20 ⊢
  clear eB
  obtain ⟨j0, j1, j2, j3⟩ := cell4 O4.out
  go_upto_region 10 with (first
    | (go_at_call 16; with_reducible refine (CA.out.2 _ _ HS.out).mono ?_; rintro e wf ⟨A6, n6, c6, B6, m6, d6, rfl, sv6, hw⟩))
  clear j0 j1 j2 j3
  have P22 := Lib.hid (OW.new wf 25 [.int .i64 h3, .int .i64 nx3, .slice A6 n6 c6, .slice B6 m6 d6])
  replace hw := bel_step hw (bel_a wf (.cells #[.int .i64 h3, .int .i64 nx3, .slice A6 n6 c6, .slice B6 m6 d6] 25))
  have Hsv6 := Lib.hid (sv6.keep (bel_a wf (.cells #[.int .i64 h3, .int .i64 nx3, .slice A6 n6 c6, .slice B6 m6 d6] 25)))
  clear sv6
  replace O4 := Lib.hid (O4.out.keep hw)
  replace O6 := Lib.hid (O6.out.keep hw)
  replace HS := Lib.hid (HS.out.keep hw)
  replace P10 := Lib.hid (P10.out.keep hw)
  replace P11 := Lib.hid (P11.out.keep hw)
  replace Hsv1 := Lib.hid (Hsv1.out.keep hw)
  replace P13 := Lib.hid (P13.out.keep hw)
  replace P14 := Lib.hid (P14.out.keep hw)
  replace Hsv2 := Lib.hid (Hsv2.out.keep hw)
  replace P16 := Lib.hid (P16.out.keep hw)
  replace Hsv3 := Lib.hid (Hsv3.out.keep hw)
  replace P18 := Lib.hid (P18.out.keep hw)
  replace Hsv4 := Lib.hid (Hsv4.out.keep hw)
  replace P20 := Lib.hid (P20.out.keep hw)
  replace Hsv5 := Lib.hid (Hsv5.out.keep hw)
  replace HB := Lib.hid (bel_step HB.out hw)
  clear hw
  obtain ⟨W6, eW⟩ : ∃ W, wf.alloc (.cells #[.int .i64 h3, .int .i64 nx3, .slice A6 n6 c6, .slice B6 m6 d6] 25) = W := ⟨_, rfl⟩
  rw [eW] at O4 O6 HS P10 P11 Hsv1 P13 P14 Hsv2 P16 Hsv3 P18 Hsv4 P20 Hsv5 P22 Hsv6 HB ⊢
  clear eW
  obtain ⟨b22, eB⟩ : ∃ b, wf.heap.size = b := ⟨_, rfl⟩
  rw [eB] at P22 ⊢
  clear eB
  have C1 : Hid (∀ W : World, Below W6.heap.size W6 W → Calls Try.prog 17 #[.agg #[.int .i64 h1, .int .i64 nx1, .slice A1 n1 c1, .slice B1 m1 d1], .agg #[.int .i64 h1, .int .i64 nx1, .slice A2 n2 c2, .slice B2 m2 d2]] W fun e w2 => e = .returned (.bool true) ∧ Below W6.heap.size W6 w2) := Lib.hid fun W hW => (same_yes _ _ h1 nx1 O1 I1 W (Hsv1.out.keep hW) (Hsv2.out.keep hW) L1.out.1 L1.out.2).mono fun e w2 hh => ⟨hh.1, bel_step hW hh.2⟩
  have C2 : Hid (∀ W : World, Below W6.heap.size W6 W → Calls Try.prog 17 #[.agg #[.int .i64 h2, .int .i64 nx2, .slice A3 n3 c3, .slice B3 m3 d3], .agg #[.int .i64 h2, .int .i64 nx2, .slice A4 n4 c4, .slice B4 m4 d4]] W fun e w2 => e = .returned (.bool true) ∧ Below W6.heap.size W6 w2) := Lib.hid fun W hW => (same_yes _ _ h2 nx2 O2 I2 W (Hsv3.out.keep hW) (Hsv4.out.keep hW) L2.out.1 L2.out.2).mono fun e w2 hh => ⟨hh.1, bel_step hW hh.2⟩
  have C3 : Hid (∀ W : World, Below W6.heap.size W6 W → Calls Try.prog 17 #[.agg #[.int .i64 h3, .int .i64 nx3, .slice A5 n5 c5, .slice B5 m5 d5], .agg #[.int .i64 h3, .int .i64 nx3, .slice A6 n6 c6, .slice B6 m6 d6]] W fun e w2 => e = .returned (.bool true) ∧ Below W6.heap.size W6 w2) := Lib.hid fun W hW => (same_yes _ _ h3 nx3 O3 I3 W (Hsv5.out.keep hW) (Hsv6.out.keep hW) L3.out.1 L3.out.2).mono fun e w2 hh => ⟨hh.1, bel_step hW hh.2⟩
  have C4 : Hid (∀ W : World, Below W6.heap.size W6 W → Calls Try.prog 18 #[.agg #[.int .i64 h, .int .i64 nx, .slice A n c, .slice B m d]] W fun e w2 => e = .returned (.bool (vB h nx O I)) ∧ Below W6.heap.size W6 w2) := Lib.hid fun W hW => (val_sv _ h nx O I W (HS.out.keep hW) _ rfl).mono fun e w2 hh => ⟨hh.1, bel_step hW hh.2⟩
  have C5 : Hid (∀ W : World, Below W6.heap.size W6 W → Calls Try.prog 19 #[.agg #[.int .i64 h, .int .i64 nx, .slice A n c, .slice B m d]] W fun e w2 => e = .returned (.bool (vB h nx O I)) ∧ Below W6.heap.size W6 w2) := Lib.hid fun W hW => (rval_sv _ h nx O I W (HS.out.keep hW) _ rfl).mono fun e w2 hh => ⟨hh.1, bel_step hW hh.2⟩
  clear Hsv1 Hsv2 Hsv3 Hsv4 Hsv5 Hsv6 HS
  generalize vB h nx O I = vb at *
  refine wp_region_cls (fun w9 => Below W6.heap.size W6 w9) (by kernel_rfl) (by kernel_rfl) (below_drew (Below.refl _ _)) ?_
  repeat (first
    | go_big_quiet_skip
    | (go_big_quiet_want; first
      | (go_big_quiet_op; go_big_quiet_on)
      | (refine quiet_of_run (.agg #[.int .i64 h1, .int .i64 nx1, .slice A1 n1 c1, .slice B1 m1 d1]) ?_ ?_; (focus (intro w9 h9; obtain ⟨k0, k1, k2, k3⟩ := cell4 (P10.out.keep h9); go_simp; done)); go_simp; go_big_quiet_on)
      | (refine quiet_of_run (.agg #[.int .i64 h1, .int .i64 nx1, .slice A2 n2 c2, .slice B2 m2 d2]) ?_ ?_; (focus (intro w9 h9; obtain ⟨k0, k1, k2, k3⟩ := cell4 (P13.out.keep h9); go_simp; done)); go_simp; go_big_quiet_on)
      | (refine quiet_of_run (.agg #[.int .i64 h2, .int .i64 nx2, .slice A3 n3 c3, .slice B3 m3 d3]) ?_ ?_; (focus (intro w9 h9; obtain ⟨k0, k1, k2, k3⟩ := cell4 (P16.out.keep h9); go_simp; done)); go_simp; go_big_quiet_on)
      | (refine quiet_of_run (.agg #[.int .i64 h2, .int .i64 nx2, .slice A4 n4 c4, .slice B4 m4 d4]) ?_ ?_; (focus (intro w9 h9; obtain ⟨k0, k1, k2, k3⟩ := cell4 (P18.out.keep h9); go_simp; done)); go_simp; go_big_quiet_on)
      | (refine quiet_of_run (.agg #[.int .i64 h3, .int .i64 nx3, .slice A5 n5 c5, .slice B5 m5 d5]) ?_ ?_; (focus (intro w9 h9; obtain ⟨k0, k1, k2, k3⟩ := cell4 (P20.out.keep h9); go_simp; done)); go_simp; go_big_quiet_on)
      | (refine quiet_of_run (.agg #[.int .i64 h3, .int .i64 nx3, .slice A6 n6 c6, .slice B6 m6 d6]) ?_ ?_; (focus (intro w9 h9; obtain ⟨k0, k1, k2, k3⟩ := cell4 (P22.out.keep h9); go_simp; done)); go_simp; go_big_quiet_on)
      | (refine quiet_of_run (.agg #[.int .i64 h, .int .i64 nx, .slice A n c, .slice B m d]) ?_ ?_; (focus (intro w9 h9; obtain ⟨k0, k1, k2, k3⟩ := cell4 (O4.out.keep h9); go_simp; done)); go_simp; go_big_quiet_on)
      | (refine quiet_of_run (.agg #[.int .i64 t0, .int .i64 t1]) ?_ ?_; (focus (intro w9 h9; obtain ⟨k0, k1⟩ := cell2 (P11.out.keep h9); go_simp; done)); go_simp; go_big_quiet_on)
      | (refine quiet_of_run (.agg #[.int .i64 t0, .int .i64 t1]) ?_ ?_; (focus (intro w9 h9; obtain ⟨k0, k1⟩ := cell2 (P14.out.keep h9); go_simp; done)); go_simp; go_big_quiet_on)
      | (refine quiet_of_run (.bool true) ?_ ?_; (focus (intro w9 h9; go_simp; done)); go_simp; go_big_quiet_on)
      | (refine quiet_of_call 17 #[.agg #[.int .i64 h1, .int .i64 nx1, .slice A1 n1 c1, .slice B1 m1 d1], .agg #[.int .i64 h1, .int .i64 nx1, .slice A2 n2 c2, .slice B2 m2 d2]] _ ?_ C1.out ?_; (focus (intro w9 h9; go_simp; done)); go_simp; go_big_quiet_on)
      | (refine quiet_of_call 17 #[.agg #[.int .i64 h2, .int .i64 nx2, .slice A3 n3 c3, .slice B3 m3 d3], .agg #[.int .i64 h2, .int .i64 nx2, .slice A4 n4 c4, .slice B4 m4 d4]] _ ?_ C2.out ?_; (focus (intro w9 h9; go_simp; done)); go_simp; go_big_quiet_on)
      | (refine quiet_of_call 17 #[.agg #[.int .i64 h3, .int .i64 nx3, .slice A5 n5 c5, .slice B5 m5 d5], .agg #[.int .i64 h3, .int .i64 nx3, .slice A6 n6 c6, .slice B6 m6 d6]] _ ?_ C3.out ?_; (focus (intro w9 h9; go_simp; done)); go_simp; go_big_quiet_on)
      | (refine quiet_of_call 18 #[.agg #[.int .i64 h, .int .i64 nx, .slice A n c, .slice B m d]] _ ?_ C4.out ?_; (focus (intro w9 h9; go_simp; done)); go_simp; go_big_quiet_on)
      | (refine quiet_of_call 19 #[.agg #[.int .i64 h, .int .i64 nx, .slice A n c, .slice B m d]] _ ?_ C5.out ?_; (focus (intro w9 h9; go_simp; done)); go_simp; go_big_quiet_on)))
  refine wpQuiet_nil ?_
  intro w9 hbx
  have HBX9 := Lib.hid hbx
  clear hbx
  go_wp2_with fail
  go_ret
  exact ⟨rfl, bel_step HB.out HBX9.out⟩

theorem match_all (v : Value) (h nx : Int) (O : List (Int × Int)) (I : List Int) (a x y q : Int) (w : World) (hs : SV w v h nx O I) :
    Calls Try.prog 3 #[v, .int .i64 a, .agg #[.int .i64 x, .int .i64 y], .int .i64 q] w fun e w' => e = .returned (.bool true) ∧ Below w.heap.size w w' := by
  cases hf : fewB O I
  · exact match_no v h nx O I a x y q w hs hf
  · exact match_ok v h nx O I a x y q w hs hf
end Go.Proofs.Yteeohndgkfilaaa
