/-
  THE LAW ShareOrder, walked.
-/
import Derived.Test.YteeohndgkfilaaaOnce
import Derived.Test.YteeohndgkfilaaaUni
namespace Go.Proofs.Yteeohndgkfilaaa
open Go.RowKit
set_option linter.unusedVariables false
attribute [local go_sem ↓] Go.wp_at_zero Go.wp_at_succ

theorem recv_v (v : Value) (h nx : Int) (O : List (Int × Int)) (I : List Int) (x y : Int) (w : World) (hs : SV w v h nx O I) :
    Calls Try.prog 13 #[v, .agg #[.int .i64 x, .int .i64 y]] w fun e w' => ∃ h' nx' A' n' B' m' er O' I', e = .returned (.tuple #[.agg #[.int .i64 h', .int .i64 nx', .slice A' n' n', .slice B' m' m'], .int .i64 er]) ∧ SC w' h' nx' A' n' B' m' O' I' ∧
      (rE h nx O I x y = er ∧ ((er = 0 ∧ h' = h + y ∧ nx' = nx ∧ O' = O ∧ I' = insO x I) ∨ (er ≠ 0 ∧ h' = 0 ∧ nx' = 0 ∧ O' = [] ∧ I' = []))) ∧ Below w.heap.size w w' := by
  refine (recv_all _ h nx O I x y w hs).mono ?_
  rintro e w' ⟨⟨v', er, rfl, h1, h2⟩, hb⟩
  rcases h2 with ⟨h0, h3⟩ | ⟨h3, rfl⟩
  · obtain ⟨u0, u1, u2, u3, rfl, hs'⟩ := h3.sc
    exact ⟨_, _, u0, u1, u2, u3, er, _, _, rfl, hs', ⟨h1.symm, .inl ⟨h0, rfl, rfl, rfl, rfl⟩⟩, hb⟩
  · exact ⟨0, 0, none, 0, none, 0, er, [], [], rfl, SN_lit w' 0 0, ⟨h1.symm, .inr ⟨h3, rfl, rfl, rfl, rfl⟩⟩, hb⟩
theorem send_v (v : Value) (h nx : Int) (O : List (Int × Int)) (I : List Int) (a : Int) (w : World) (hs : SV w v h nx O I) :
    Calls Try.prog 11 #[v, .int .i64 a] w fun e w' => ∃ h' nx' A' n' B' m' er O' I' t0 t1, e = .returned (.tuple #[.agg #[.int .i64 h', .int .i64 nx', .slice A' n' n', .slice B' m' m'], .agg #[.int .i64 t0, .int .i64 t1], .int .i64 er]) ∧ SC w' h' nx' A' n' B' m' O' I' ∧
      (sE h nx O I a = er ∧ ((er = 0 ∧ h' = h - a ∧ nx' = nx + 1 ∧ O' = O ++ [(nx, a)] ∧ I' = I ∧ t0 = nx ∧ t1 = a) ∨ (er ≠ 0 ∧ h' = 0 ∧ nx' = 0 ∧ O' = [] ∧ I' = [] ∧ t0 = 0 ∧ t1 = 0))) ∧ Below w.heap.size w w' := by
  refine (send_all _ h nx O I a w hs).mono ?_
  rintro e w' ⟨⟨v', t, er, rfl, h1, h2⟩, hb⟩
  rcases h2 with ⟨h0, h3, rfl⟩ | ⟨h3, rfl, rfl⟩
  · obtain ⟨u0, u1, u2, u3, rfl, hs'⟩ := h3.sc
    exact ⟨_, _, u0, u1, u2, u3, er, _, _, nx, a, rfl, hs', ⟨h1.symm, .inl ⟨h0, rfl, rfl, rfl, rfl, rfl, rfl⟩⟩, hb⟩
  · exact ⟨0, 0, none, 0, none, 0, er, [], [], 0, 0, rfl, SN_lit w' 0 0, ⟨h1.symm, .inr ⟨h3, rfl, rfl, rfl, rfl, rfl, rfl⟩⟩, hb⟩
theorem send_ok0 (v : Value) (h nx : Int) (O : List (Int × Int)) (I : List Int) (a : Int) (w : World) (hs : SV w v h nx O I) (he : sE h nx O I a = 0) :
    Calls Try.prog 11 #[v, .int .i64 a] w fun e w' => ∃ A' n' B' m', e = .returned (.tuple #[.agg #[.int .i64 (h - a), .int .i64 (nx + 1), .slice A' n' n', .slice B' m' m'], .agg #[.int .i64 nx, .int .i64 a], .int .i64 0]) ∧ SC w' (h - a) (nx + 1) A' n' B' m' (O ++ [(nx, a)]) I ∧ Below w.heap.size w w' := by
  refine (send_all v h nx O I a w hs).mono ?_
  rintro e w' ⟨⟨v', t, er, rfl, h1, h2⟩, hb⟩
  rcases h2 with ⟨rfl, h3, rfl⟩ | ⟨h3, _⟩
  · obtain ⟨u0, u1, u2, u3, rfl, hs'⟩ := h3.sc
    exact ⟨u0, u1, u2, u3, rfl, hs', hb⟩
  · exact absurd (h1.trans he) h3
theorem insO_comm {x z : Int} (hne : x ≠ z) : ∀ (l : List Int), insO z (insO x l) = insO x (insO z l) := by
  intro l
  induction l with
  | nil =>
    simp only [insO]
    by_cases h1 : z < x
    · rw [if_pos h1, if_neg (by omega)]
    · rw [if_neg h1, if_pos (by omega)]
  | cons u l ih =>
    by_cases h1 : x < u
    · by_cases h2 : z < u
      · by_cases h3 : z < x
        · simp [insO, h1, h2, h3, show ¬ x < z by omega]
        · simp [insO, h1, h2, h3, show x < z by omega]
      · simp [insO, h1, h2, show ¬ z < x by omega]
    · by_cases h2 : z < u
      · simp [insO, h1, h2, show ¬ x < z by omega]
      · simp [insO, h1, h2, ih]
theorem order_plain {h nx x y x2 y2 : Int} {O : List (Int × Int)} {I : List Int} (e1 : rE h nx O I x y = 0) (e2 : rE (h + y) nx O (insO x I) x2 y2 = 0) :
    rE h nx O I x2 y2 = 0 ∧ rE (h + y2) nx O (insO x2 I) x y = 0 ∧ insO x2 (insO x I) = insO x (insO x2 I) ∧ O.length ≤ 1000 ∧ (insO x (insO x2 I)).length ≤ 1000 := by
  obtain ⟨v1, t1, n1, l1, r1⟩ := rE0 e1
  obtain ⟨v2, t2, n2, l2, r2⟩ := rE0 e2
  have q1 := vT_iff.1 t1
  have q2 := vT_iff.1 t2
  simp only [] at q1 q2
  rw [mem_insO] at n2
  rw [insO_len] at l2
  have hne : x ≠ x2 := fun e => n2 (.inl e.symm)
  have hs := vS_iff.1 v1
  have e3 : rE h nx O I x2 y2 = 0 := rE_of v1 t2 (fun hm => n2 (.inr hm)) l1 (by omega)
  refine ⟨e3, rE_of (rE_vS e3) t1 (fun hm => ?_) (by rw [insO_len]; omega) (by omega), insO_comm hne I, by omega, by rw [insO_len, insO_len]; omega⟩
  rcases mem_insO.1 hm with e | e
  · exact hne e
  · exact n1 e
theorem order_plain2 {h nx x y a : Int} {O : List (Int × Int)} {I : List Int} (e1 : rE h nx O I x y = 0) (e2 : sE h nx O I a = 0) :
    rE (h - a) (nx + 1) (O ++ [(nx, a)]) I x y = 0 ∧ sE (h + y) nx O (insO x I) a = 0 ∧ (O ++ [(nx, a)]).length ≤ 1000 ∧ (insO x I).length ≤ 1000 := by
  obtain ⟨v1, t1, n1, l1, r1⟩ := rE0 e1
  obtain ⟨v2, a2, h2, l2, n2⟩ := sE0 e2
  have q1 := vT_iff.1 t1
  simp only [] at q1
  have hs := vS_iff.1 v1
  exact ⟨rE_of (sE_vS e2) t1 n1 l1 (by omega), sE_of (rE_vS e1) a2 (by omega) l2 n2, by simp; omega, by rw [insO_len]; omega⟩

set_option maxRecDepth 100000 in
set_option maxHeartbeats 4000000 in
theorem order_no (v : Value) (h nx : Int) (O : List (Int × Int)) (I : List Int) (x y x2 y2 a : Int) (w : World) (hs : SV w v h nx O I) (hno : fewB O I = false ∨ vB h nx O I = false) :
    Calls Try.prog 6 #[v, .agg #[.int .i64 x, .int .i64 y], .agg #[.int .i64 x2, .int .i64 y2], .int .u8 a] w fun e w' => e = .returned (.bool true) ∧ Below w.heap.size w w' := by
  have HS := Lib.hid hs
  obtain ⟨A, c, B, d, rfl, _⟩ := hs
  generalize hn : O.length = n at *
  generalize hm : I.length = m at *
  have HB3 : Hid (∀ o1 o2 o3 : Obj, Below w.heap.size w (((w.alloc o1).alloc o2).alloc o3)) := Lib.hid fun o1 o2 o3 => bel_alloc (bel_alloc (bel_a w o1) o2) o3
  have HP : Hid (∀ o2 o3 : Obj, OW (((w.alloc (.cells #[.int .i64 h, .int .i64 nx, .slice A n c, .slice B m d] 25)).alloc o2).alloc o3) w.heap.size 25 [.int .i64 h, .int .i64 nx, .slice A n c, .slice B m d]) := Lib.hid fun o2 o3 => ((OW.new w 25 [.int .i64 h, .int .i64 nx, .slice A n c, .slice B m d]).alloc o2).alloc o3
  cases hf : fewB O I
  · have HF := Lib.hid hf
    clear hno hf
    go_enter Try.func6, Try.ntmps6
    go_wp2_with (first
      | (go_at_call 9; with_reducible refine (head_any _).mono ?_; rintro e w1 ⟨rfl, h1⟩
         have H1 := Lib.hid (bel_step (HB3.out _ _ _) h1)
         obtain ⟨c0, c1, c2, c3⟩ := cell4 ((HP.out _ _).keep h1))
      | (go_at_call 10; with_reducible refine (few_sv _ h nx O I _ (HS.out.keep H1.out) false HF.out).mono ?_; rintro e w2 ⟨rfl, h2⟩))
    go_ret
    exact ⟨rfl, bel_step H1.out h2⟩
  · have HF := Lib.hid hf
    have hv : vB h nx O I = false := by
      rcases hno with e | e
      · rw [hf] at e; cases e
      · exact e
    have HV := Lib.hid hv
    clear hno hf hv
    go_enter Try.func6, Try.ntmps6
    go_wp2_with (first
      | (go_at_call 9; with_reducible refine (head_any _).mono ?_; rintro e w1 ⟨rfl, h1⟩
         have H1 := Lib.hid (bel_step (HB3.out _ _ _) h1)
         have P1 := Lib.hid ((HP.out _ _).keep h1)
         obtain ⟨c0, c1, c2, c3⟩ := cell4 P1.out)
      | (go_at_call 10; with_reducible refine (few_sv _ h nx O I _ (HS.out.keep H1.out) true HF.out).mono ?_; rintro e w2 ⟨rfl, h2⟩
         have H2 := Lib.hid (bel_step H1.out h2)
         obtain ⟨d0, d1, d2, d3⟩ := cell4 (P1.out.keep h2))
      | (go_at_call 19; with_reducible refine (rval_sv _ h nx O I _ (HS.out.keep H2.out) false HV.out).mono ?_; rintro e w3 ⟨rfl, h3⟩))
    go_ret
    exact ⟨rfl, bel_step H2.out h3⟩

set_option maxRecDepth 100000 in
set_option maxHeartbeats 8000000 in
theorem order_ok (v : Value) (h nx : Int) (O : List (Int × Int)) (I : List Int) (x y x2 y2 a : Int) (w : World) (hs : SV w v h nx O I) (hf : fewB O I = true) (hv : vB h nx O I = true) (ha : 0 ≤ a ∧ a ≤ 255) :
    Calls Try.prog 6 #[v, .agg #[.int .i64 x, .int .i64 y], .agg #[.int .i64 x2, .int .i64 y2], .int .u8 a] w fun e w' => e = .returned (.bool true) ∧ Below w.heap.size w w' := by
  have HS := Lib.hid hs
  obtain ⟨A, c, B, d, rfl, _⟩ := hs
  generalize hn : O.length = n at *
  generalize hm : I.length = m at *
  have HB3 : Hid (∀ o1 o2 o3 : Obj, Below w.heap.size w (((w.alloc o1).alloc o2).alloc o3)) := Lib.hid fun o1 o2 o3 => bel_alloc (bel_alloc (bel_a w o1) o2) o3
  have HP : Hid (∀ o2 o3 : Obj, OW (((w.alloc (.cells #[.int .i64 h, .int .i64 nx, .slice A n c, .slice B m d] 25)).alloc o2).alloc o3) w.heap.size 25 [.int .i64 h, .int .i64 nx, .slice A n c, .slice B m d]) := Lib.hid fun o2 o3 => ((OW.new w 25 [.int .i64 h, .int .i64 nx, .slice A n c, .slice B m d]).alloc o2).alloc o3
  have HP6 : Hid (∀ o1 o3 : Obj, OW (((w.alloc o1).alloc (.cells #[.int .i64 x, .int .i64 y] 27)).alloc o3) (w.heap.size + 1) 27 [.int .i64 x, .int .i64 y]) := Lib.hid fun o1 o3 => (OW.new1 w o1 27 [.int .i64 x, .int .i64 y]).alloc o3
  have HP9 : Hid (∀ o1 o2 : Obj, OW (((w.alloc o1).alloc o2).alloc (.cells #[.int .i64 x2, .int .i64 y2] 27)) (w.heap.size + 1 + 1) 27 [.int .i64 x2, .int .i64 y2]) := Lib.hid fun o1 o2 => OW.new2 w o1 o2 27 [.int .i64 x2, .int .i64 y2]
  have HF := Lib.hid hf
  have HV := Lib.hid hv
  clear hf hv
  go_enter Try.func6, Try.ntmps6
  go_upto_region 4 with (first
    | (go_at_call 9; with_reducible refine (head_any _).mono ?_; rintro e w1 ⟨rfl, h1⟩
       have H1 := Lib.hid (bel_step (HB3.out _ _ _) h1)
       have P1 := Lib.hid ((HP.out _ _).keep h1)
       have P6 := Lib.hid ((HP6.out _ _).keep h1)
       have P9 := Lib.hid ((HP9.out _ _).keep h1)
       obtain ⟨c0, c1, c2, c3⟩ := cell4 P1.out)
    | (go_at_call 10; with_reducible refine (few_sv _ h nx O I _ (HS.out.keep H1.out) true HF.out).mono ?_; rintro e w2 ⟨rfl, h2⟩
       have H2 := Lib.hid (bel_step H1.out h2)
       have P2 := Lib.hid (P1.out.keep h2)
       have Q6 := Lib.hid (P6.out.keep h2)
       have Q9 := Lib.hid (P9.out.keep h2)
       obtain ⟨d0, d1, d2, d3⟩ := cell4 P2.out)
    | (go_at_call 19; with_reducible refine (rval_sv _ h nx O I _ (HS.out.keep H2.out) true HV.out).mono ?_; rintro e w3 ⟨rfl, h3⟩
       have HB := Lib.hid (bel_step H2.out h3)
       have O5 := Lib.hid (Q6.out.keep h3)
       have O6 := Lib.hid (Q9.out.keep h3)
       have O4 := Lib.hid (P2.out.keep h3)))
  clear c0 c1 c2 c3 d0 d1 d2 d3 h1 h2 h3 P1 P2 P6 P9 Q6 Q9 H1 H2 HP HP6 HP9 HB3
  replace HS := Lib.hid (HS.out.keep HB.out)
  obtain ⟨b6, eB⟩ : ∃ b, w.heap.size + 1 + 1 = b := ⟨_, rfl⟩
  rw [eB] at O6 ⊢
  clear eB
  obtain ⟨b5, eB⟩ : ∃ b, w.heap.size + 1 = b := ⟨_, rfl⟩
  rw [eB] at O5 ⊢
  clear eB
  obtain ⟨b4, eB⟩ : ∃ b, w.heap.size = b := ⟨_, rfl⟩
  rw [eB] at O4
  have eB' := Lib.hid eB
  first | rw [eB] | skip
  clear eB
  obtain ⟨j0, j1, j2, j3⟩ := cell4 O4.out
  obtain ⟨i0, i1⟩ := cell2 O5.out
  go_upto_region 5 with (first
    | (go_at_call 13; with_reducible refine (recv_v _ h nx O I x y _ HS.out).mono ?_; rintro e wa ⟨h1, nx1, A1, n1, B1, m1, er1, O1, I1, rfl, sc1, e1, hw⟩))
  clear j0 j1 j2 j3 i0 i1
  have P10 := Lib.hid (OW.new wa 25 [.int .i64 h1, .int .i64 nx1, .slice A1 n1 n1, .slice B1 m1 m1])
  replace hw := bel_step hw (bel_a wa (.cells #[.int .i64 h1, .int .i64 nx1, .slice A1 n1 n1, .slice B1 m1 m1] 25))
  have Hsc1 := Lib.hid (sc1.keep (bel_a wa (.cells #[.int .i64 h1, .int .i64 nx1, .slice A1 n1 n1, .slice B1 m1 m1] 25)))
  clear sc1
  have He1 := Lib.hid e1
  clear e1
  replace O4 := Lib.hid (O4.out.keep hw)
  replace O5 := Lib.hid (O5.out.keep hw)
  replace O6 := Lib.hid (O6.out.keep hw)
  replace HS := Lib.hid (HS.out.keep hw)
  replace HB := Lib.hid (bel_step HB.out hw)
  clear hw
  obtain ⟨W1, eW⟩ : ∃ W, wa.alloc (.cells #[.int .i64 h1, .int .i64 nx1, .slice A1 n1 n1, .slice B1 m1 m1] 25) = W := ⟨_, rfl⟩
  rw [eW] at O4 O5 O6 HS P10 Hsc1 HB ⊢
  clear eW
  obtain ⟨b10, eB⟩ : ∃ b, wa.heap.size = b := ⟨_, rfl⟩
  rw [eB] at P10 ⊢
  clear eB
  obtain ⟨j0, j1, j2, j3⟩ := cell4 P10.out
  obtain ⟨i0, i1⟩ := cell2 O6.out
  go_upto_region 6 with (first
    | (go_at_call 13; with_reducible refine (recv_u h1 nx1 _ _ _ _ O1 I1 x2 y2 _ Hsc1.out).mono ?_; rintro e wb ⟨h2, nx2, A2, n2, B2, m2, er2, O2, I2, rfl, sc2, e2, hw⟩))
  clear j0 j1 j2 j3 i0 i1
  have P12 := Lib.hid (OW.new wb 25 [.int .i64 h2, .int .i64 nx2, .slice A2 n2 n2, .slice B2 m2 m2])
  replace hw := bel_step hw (bel_a wb (.cells #[.int .i64 h2, .int .i64 nx2, .slice A2 n2 n2, .slice B2 m2 m2] 25))
  have Hsc2 := Lib.hid (sc2.keep (bel_a wb (.cells #[.int .i64 h2, .int .i64 nx2, .slice A2 n2 n2, .slice B2 m2 m2] 25)))
  clear sc2
  have He2 := Lib.hid e2
  clear e2
  replace O4 := Lib.hid (O4.out.keep hw)
  replace O5 := Lib.hid (O5.out.keep hw)
  replace O6 := Lib.hid (O6.out.keep hw)
  replace HS := Lib.hid (HS.out.keep hw)
  replace P10 := Lib.hid (P10.out.keep hw)
  replace Hsc1 := Lib.hid (Hsc1.out.keep hw)
  replace HB := Lib.hid (bel_step HB.out hw)
  clear hw
  obtain ⟨W2, eW⟩ : ∃ W, wb.alloc (.cells #[.int .i64 h2, .int .i64 nx2, .slice A2 n2 n2, .slice B2 m2 m2] 25) = W := ⟨_, rfl⟩
  rw [eW] at O4 O5 O6 HS P10 Hsc1 P12 Hsc2 HB ⊢
  clear eW
  obtain ⟨b12, eB⟩ : ∃ b, wb.heap.size = b := ⟨_, rfl⟩
  rw [eB] at P12 ⊢
  clear eB
  by_cases z1 : er1 = 0
  rotate_left
  · have hz : (er1 != 0) = true := by simpa using z1
    go_wp2_with fail
    go_ret
    exact ⟨rfl, HB.out⟩
  by_cases z2 : er2 = 0
  rotate_left
  · have hz : (er2 != 0) = true := by simpa using z2
    subst z1
    go_wp2_with fail
    go_ret
    exact ⟨rfl, HB.out⟩
  subst z1 z2
  obtain ⟨e1, ⟨_, q1, q2, q3, q4⟩ | ⟨z, _⟩⟩ := He1.out
  rotate_left
  · exact absurd rfl z
  obtain rfl := q1.symm
  obtain rfl := q2.symm
  obtain rfl := q3.symm
  obtain rfl := q4.symm
  obtain ⟨e2, ⟨_, q1, q2, q3, q4⟩ | ⟨z, _⟩⟩ := He2.out
  rotate_left
  · exact absurd rfl z
  obtain rfl := q1.symm
  obtain rfl := q2.symm
  obtain rfl := q3.symm
  obtain rfl := q4.symm
  have E := Lib.hid (order_plain e1 e2)
  have EE1 := Lib.hid e1
  clear e1 e2 He1 He2
  obtain ⟨j0, j1, j2, j3⟩ := cell4 O4.out
  obtain ⟨i0, i1⟩ := cell2 O6.out
  go_upto_region 9 with (first
    | (go_at_call 13; with_reducible refine (recv_ok0 _ h nx O I x2 y2 _ HS.out E.out.1).mono ?_; rintro e wc ⟨A3, n3, B3, m3, rfl, sc3, hw⟩))
  clear j0 j1 j2 j3 i0 i1
  have P14 := Lib.hid (OW.new wc 25 [.int .i64 (h + y2), .int .i64 nx, .slice A3 n3 n3, .slice B3 m3 m3])
  replace hw := bel_step hw (bel_a wc (.cells #[.int .i64 (h + y2), .int .i64 nx, .slice A3 n3 n3, .slice B3 m3 m3] 25))
  have Hsc3 := Lib.hid (sc3.keep (bel_a wc (.cells #[.int .i64 (h + y2), .int .i64 nx, .slice A3 n3 n3, .slice B3 m3 m3] 25)))
  clear sc3
  replace O4 := Lib.hid (O4.out.keep hw)
  replace O5 := Lib.hid (O5.out.keep hw)
  replace O6 := Lib.hid (O6.out.keep hw)
  replace HS := Lib.hid (HS.out.keep hw)
  replace P10 := Lib.hid (P10.out.keep hw)
  replace Hsc1 := Lib.hid (Hsc1.out.keep hw)
  replace P12 := Lib.hid (P12.out.keep hw)
  replace Hsc2 := Lib.hid (Hsc2.out.keep hw)
  replace HB := Lib.hid (bel_step HB.out hw)
  clear hw
  obtain ⟨W3, eW⟩ : ∃ W, wc.alloc (.cells #[.int .i64 (h + y2), .int .i64 nx, .slice A3 n3 n3, .slice B3 m3 m3] 25) = W := ⟨_, rfl⟩
  rw [eW] at O4 O5 O6 HS P10 Hsc1 P12 Hsc2 P14 Hsc3 HB ⊢
  clear eW
  obtain ⟨b14, eB⟩ : ∃ b, wc.heap.size = b := ⟨_, rfl⟩
  rw [eB] at P14 ⊢
  clear eB
  obtain ⟨j0, j1, j2, j3⟩ := cell4 P14.out
  obtain ⟨i0, i1⟩ := cell2 O5.out
  go_upto_region 10 with (first
    | (go_at_call 13; with_reducible refine (recv_ok0 _ (h + y2) nx O (insO x2 I) x y _ Hsc3.out.sv E.out.2.1).mono ?_; rintro e wd ⟨A4, n4, B4, m4, rfl, sc4, hw⟩))
  clear j0 j1 j2 j3 i0 i1
  have P16 := Lib.hid (OW.new wd 25 [.int .i64 (h + y2 + y), .int .i64 nx, .slice A4 n4 n4, .slice B4 m4 m4])
  replace hw := bel_step hw (bel_a wd (.cells #[.int .i64 (h + y2 + y), .int .i64 nx, .slice A4 n4 n4, .slice B4 m4 m4] 25))
  have Hsc4 := Lib.hid (sc4.keep (bel_a wd (.cells #[.int .i64 (h + y2 + y), .int .i64 nx, .slice A4 n4 n4, .slice B4 m4 m4] 25)))
  clear sc4
  replace O4 := Lib.hid (O4.out.keep hw)
  replace O5 := Lib.hid (O5.out.keep hw)
  replace O6 := Lib.hid (O6.out.keep hw)
  replace HS := Lib.hid (HS.out.keep hw)
  replace P10 := Lib.hid (P10.out.keep hw)
  replace Hsc1 := Lib.hid (Hsc1.out.keep hw)
  replace P12 := Lib.hid (P12.out.keep hw)
  replace Hsc2 := Lib.hid (Hsc2.out.keep hw)
  replace P14 := Lib.hid (P14.out.keep hw)
  replace Hsc3 := Lib.hid (Hsc3.out.keep hw)
  replace HB := Lib.hid (bel_step HB.out hw)
  clear hw
  obtain ⟨W4, eW⟩ : ∃ W, wd.alloc (.cells #[.int .i64 (h + y2 + y), .int .i64 nx, .slice A4 n4 n4, .slice B4 m4 m4] 25) = W := ⟨_, rfl⟩
  rw [eW] at O4 O5 O6 HS P10 Hsc1 P12 Hsc2 P14 Hsc3 P16 Hsc4 HB ⊢
  clear eW
  obtain ⟨b16, eB⟩ : ∃ b, wd.heap.size = b := ⟨_, rfl⟩
  rw [eB] at P16 ⊢
  clear eB
  have SS : Hid (SV W4 (.agg #[.int .i64 (h + y + y2), .int .i64 nx, .slice A2 n2 n2, .slice B2 m2 m2]) (h + y2 + y) nx O (insO x (insO x2 I))) := by
    have := Hsc2.out.sv
    rw [E.out.2.2.1] at this
    show SV _ _ _ _ _ _
    rw [show h + y2 + y = h + y + y2 by omega]
    exact this
  obtain ⟨j0, j1, j2, j3⟩ := cell4 P12.out
  obtain ⟨k0, k1, k2, k3⟩ := cell4 P16.out
  go_upto_region 13 with (first
    | (go_at_call 17; with_reducible refine (same_yes _ _ (h + y2 + y) nx O (insO x (insO x2 I)) _ SS.out Hsc4.out.sv (E.out.2.2.2.1) (E.out.2.2.2.2)).mono ?_; rintro e we ⟨rfl, hw⟩))
  clear j0 j1 j2 j3 k0 k1 k2 k3
  replace O4 := Lib.hid (O4.out.keep hw)
  replace O5 := Lib.hid (O5.out.keep hw)
  replace O6 := Lib.hid (O6.out.keep hw)
  replace HS := Lib.hid (HS.out.keep hw)
  replace P10 := Lib.hid (P10.out.keep hw)
  replace Hsc1 := Lib.hid (Hsc1.out.keep hw)
  replace P12 := Lib.hid (P12.out.keep hw)
  replace Hsc2 := Lib.hid (Hsc2.out.keep hw)
  replace P14 := Lib.hid (P14.out.keep hw)
  replace Hsc3 := Lib.hid (Hsc3.out.keep hw)
  replace P16 := Lib.hid (P16.out.keep hw)
  replace Hsc4 := Lib.hid (Hsc4.out.keep hw)
  replace HB := Lib.hid (bel_step HB.out hw)
  clear hw
  clear SS Hsc2 Hsc3 Hsc4 P12 P14 P16
  obtain ⟨j0, j1, j2, j3⟩ := cell4 O4.out
  go_upto_region 14 with (first
    | (go_at_call 11; with_reducible refine (send_v _ h nx O I (1 + a) _ HS.out).mono ?_; rintro e wf ⟨h5, nx5, A5, n5, B5, m5, er5, OL5, I5, t0, t1, rfl, sc5, e5, hw⟩))
  clear j0 j1 j2 j3
  have P19 := Lib.hid ((OW.new wf 25 [.int .i64 h5, .int .i64 nx5, .slice A5 n5 n5, .slice B5 m5 m5]).alloc (.cells #[.int .i64 t0, .int .i64 t1] 27))
  have P20 := Lib.hid (OW.new1 wf (.cells #[.int .i64 h5, .int .i64 nx5, .slice A5 n5 n5, .slice B5 m5 m5] 25) 27 [.int .i64 t0, .int .i64 t1])
  replace hw := bel_step hw (bel_alloc (bel_a wf (.cells #[.int .i64 h5, .int .i64 nx5, .slice A5 n5 n5, .slice B5 m5 m5] 25)) (.cells #[.int .i64 t0, .int .i64 t1] 27))
  have Hsc5 := Lib.hid (sc5.keep (bel_alloc (bel_a wf (.cells #[.int .i64 h5, .int .i64 nx5, .slice A5 n5 n5, .slice B5 m5 m5] 25)) (.cells #[.int .i64 t0, .int .i64 t1] 27)))
  clear sc5
  have He5 := Lib.hid e5
  clear e5
  replace O4 := Lib.hid (O4.out.keep hw)
  replace O5 := Lib.hid (O5.out.keep hw)
  replace O6 := Lib.hid (O6.out.keep hw)
  replace HS := Lib.hid (HS.out.keep hw)
  replace P10 := Lib.hid (P10.out.keep hw)
  replace Hsc1 := Lib.hid (Hsc1.out.keep hw)
  replace HB := Lib.hid (bel_step HB.out hw)
  clear hw
  obtain ⟨W5, eW⟩ : ∃ W, (wf.alloc (.cells #[.int .i64 h5, .int .i64 nx5, .slice A5 n5 n5, .slice B5 m5 m5] 25)).alloc (.cells #[.int .i64 t0, .int .i64 t1] 27) = W := ⟨_, rfl⟩
  rw [eW] at O4 O5 O6 HS P10 Hsc1 P19 P20 Hsc5 HB ⊢
  clear eW
  obtain ⟨b20, eB⟩ : ∃ b, wf.heap.size + 1 = b := ⟨_, rfl⟩
  rw [eB] at P20 ⊢
  clear eB
  obtain ⟨b19, eB⟩ : ∃ b, wf.heap.size = b := ⟨_, rfl⟩
  rw [eB] at P19 ⊢
  clear eB
  by_cases z5 : er5 = 0
  rotate_left
  · have hz : (er5 != 0) = true := by simpa using z5
    go_wp2_with fail
    go_ret
    exact ⟨rfl, HB.out⟩
  subst z5
  obtain ⟨e5, ⟨_, q1, q2, q3, q4, q5, q6⟩ | ⟨z, _⟩⟩ := He5.out
  rotate_left
  · exact absurd rfl z
  obtain rfl := q1.symm
  obtain rfl := q2.symm
  obtain rfl := q3.symm
  obtain rfl := q4.symm
  obtain rfl := q5.symm
  obtain rfl := q6.symm
  have F := Lib.hid (order_plain2 EE1.out e5)
  clear e5 He5
  obtain ⟨j0, j1, j2, j3⟩ := cell4 P19.out
  obtain ⟨i0, i1⟩ := cell2 O5.out
  go_upto_region 17 with (first
    | (go_at_call 13; with_reducible refine (recv_ok0 _ (h - (1 + a)) (nx + 1) (O ++ [(nx, 1 + a)]) I x y _ Hsc5.out.sv F.out.1).mono ?_; rintro e wg ⟨A6, n6, B6, m6, rfl, sc6, hw⟩))
  clear j0 j1 j2 j3 i0 i1
  have P22 := Lib.hid (OW.new wg 25 [.int .i64 (h - (1 + a) + y), .int .i64 (nx + 1), .slice A6 n6 n6, .slice B6 m6 m6])
  replace hw := bel_step hw (bel_a wg (.cells #[.int .i64 (h - (1 + a) + y), .int .i64 (nx + 1), .slice A6 n6 n6, .slice B6 m6 m6] 25))
  have Hsc6 := Lib.hid (sc6.keep (bel_a wg (.cells #[.int .i64 (h - (1 + a) + y), .int .i64 (nx + 1), .slice A6 n6 n6, .slice B6 m6 m6] 25)))
  clear sc6
  replace O4 := Lib.hid (O4.out.keep hw)
  replace O5 := Lib.hid (O5.out.keep hw)
  replace O6 := Lib.hid (O6.out.keep hw)
  replace HS := Lib.hid (HS.out.keep hw)
  replace P10 := Lib.hid (P10.out.keep hw)
  replace Hsc1 := Lib.hid (Hsc1.out.keep hw)
  replace P19 := Lib.hid (P19.out.keep hw)
  replace P20 := Lib.hid (P20.out.keep hw)
  replace Hsc5 := Lib.hid (Hsc5.out.keep hw)
  replace HB := Lib.hid (bel_step HB.out hw)
  clear hw
  obtain ⟨W6, eW⟩ : ∃ W, wg.alloc (.cells #[.int .i64 (h - (1 + a) + y), .int .i64 (nx + 1), .slice A6 n6 n6, .slice B6 m6 m6] 25) = W := ⟨_, rfl⟩
  rw [eW] at O4 O5 O6 HS P10 Hsc1 P19 P20 Hsc5 P22 Hsc6 HB ⊢
  clear eW
  obtain ⟨b22, eB⟩ : ∃ b, wg.heap.size = b := ⟨_, rfl⟩
  rw [eB] at P22 ⊢
  clear eB
  obtain ⟨j0, j1, j2, j3⟩ := cell4 P10.out
  go_upto_region 18 with (first
    | (go_at_call 11; with_reducible refine (send_ok0 _ (h + y) nx O (insO x I) (1 + a) _ Hsc1.out.sv F.out.2.1).mono ?_; rintro e wh ⟨A7, n7, B7, m7, rfl, sc7, hw⟩))
  clear j0 j1 j2 j3
  have P24 := Lib.hid ((OW.new wh 25 [.int .i64 (h + y - (1 + a)), .int .i64 (nx + 1), .slice A7 n7 n7, .slice B7 m7 m7]).alloc (.cells #[.int .i64 nx, .int .i64 (1 + a)] 27))
  have P25 := Lib.hid (OW.new1 wh (.cells #[.int .i64 (h + y - (1 + a)), .int .i64 (nx + 1), .slice A7 n7 n7, .slice B7 m7 m7] 25) 27 [.int .i64 nx, .int .i64 (1 + a)])
  replace hw := bel_step hw (bel_alloc (bel_a wh (.cells #[.int .i64 (h + y - (1 + a)), .int .i64 (nx + 1), .slice A7 n7 n7, .slice B7 m7 m7] 25)) (.cells #[.int .i64 nx, .int .i64 (1 + a)] 27))
  have Hsc7 := Lib.hid (sc7.keep (bel_alloc (bel_a wh (.cells #[.int .i64 (h + y - (1 + a)), .int .i64 (nx + 1), .slice A7 n7 n7, .slice B7 m7 m7] 25)) (.cells #[.int .i64 nx, .int .i64 (1 + a)] 27)))
  clear sc7
  replace O4 := Lib.hid (O4.out.keep hw)
  replace O5 := Lib.hid (O5.out.keep hw)
  replace O6 := Lib.hid (O6.out.keep hw)
  replace HS := Lib.hid (HS.out.keep hw)
  replace P10 := Lib.hid (P10.out.keep hw)
  replace Hsc1 := Lib.hid (Hsc1.out.keep hw)
  replace P19 := Lib.hid (P19.out.keep hw)
  replace P20 := Lib.hid (P20.out.keep hw)
  replace Hsc5 := Lib.hid (Hsc5.out.keep hw)
  replace P22 := Lib.hid (P22.out.keep hw)
  replace Hsc6 := Lib.hid (Hsc6.out.keep hw)
  replace HB := Lib.hid (bel_step HB.out hw)
  clear hw
  obtain ⟨W7, eW⟩ : ∃ W, (wh.alloc (.cells #[.int .i64 (h + y - (1 + a)), .int .i64 (nx + 1), .slice A7 n7 n7, .slice B7 m7 m7] 25)).alloc (.cells #[.int .i64 nx, .int .i64 (1 + a)] 27) = W := ⟨_, rfl⟩
  rw [eW] at O4 O5 O6 HS P10 Hsc1 P19 P20 Hsc5 P22 Hsc6 P24 P25 Hsc7 HB ⊢
  clear eW
  obtain ⟨b25, eB⟩ : ∃ b, wh.heap.size + 1 = b := ⟨_, rfl⟩
  rw [eB] at P25 ⊢
  clear eB
  obtain ⟨b24, eB⟩ : ∃ b, wh.heap.size = b := ⟨_, rfl⟩
  rw [eB] at P24 ⊢
  clear eB
  have SS : Hid (SV W7 (.agg #[.int .i64 (h - (1 + a) + y), .int .i64 (nx + 1), .slice A6 n6 n6, .slice B6 m6 m6]) (h + y - (1 + a)) (nx + 1) (O ++ [(nx, 1 + a)]) (insO x I)) := by
    show SV _ _ _ _ _ _
    rw [show h + y - (1 + a) = h - (1 + a) + y by omega]
    exact Hsc6.out.sv
  obtain ⟨j0, j1, j2, j3⟩ := cell4 P22.out
  obtain ⟨k0, k1, k2, k3⟩ := cell4 P24.out
  obtain ⟨i0, i1⟩ := cell2 P20.out
  obtain ⟨l0, l1⟩ := cell2 P25.out
  go_wp2_with (first
    | (go_at_call 17; with_reducible refine (same_yes _ _ (h + y - (1 + a)) (nx + 1) (O ++ [(nx, 1 + a)]) (insO x I) _ SS.out Hsc7.out.sv F.out.2.2.1 F.out.2.2.2).mono ?_; rintro e wi ⟨rfl, hw⟩))
  clear j0 j1 j2 j3 k0 k1 k2 k3 i0 i1 l0 l1
  replace O4 := Lib.hid (O4.out.keep hw)
  replace O5 := Lib.hid (O5.out.keep hw)
  replace O6 := Lib.hid (O6.out.keep hw)
  replace HS := Lib.hid (HS.out.keep hw)
  replace P10 := Lib.hid (P10.out.keep hw)
  replace Hsc1 := Lib.hid (Hsc1.out.keep hw)
  replace P19 := Lib.hid (P19.out.keep hw)
  replace P20 := Lib.hid (P20.out.keep hw)
  replace Hsc5 := Lib.hid (Hsc5.out.keep hw)
  replace P22 := Lib.hid (P22.out.keep hw)
  replace Hsc6 := Lib.hid (Hsc6.out.keep hw)
  replace P24 := Lib.hid (P24.out.keep hw)
  replace P25 := Lib.hid (P25.out.keep hw)
  replace Hsc7 := Lib.hid (Hsc7.out.keep hw)
  replace HB := Lib.hid (bel_step HB.out hw)
  clear hw
  go_ret
  exact ⟨rfl, HB.out⟩

theorem order_all (v : Value) (h nx : Int) (O : List (Int × Int)) (I : List Int) (x y x2 y2 a : Int) (w : World) (hs : SV w v h nx O I) (h0 : 0 ≤ a) (h1 : a ≤ 255) :
    Calls Try.prog 6 #[v, .agg #[.int .i64 x, .int .i64 y], .agg #[.int .i64 x2, .int .i64 y2], .int .u8 a] w fun e w' => e = .returned (.bool true) ∧ Below w.heap.size w w' := by
  cases hf : fewB O I
  · exact order_no v h nx O I x y x2 y2 a w hs (.inl hf)
  · cases hv : vB h nx O I
    · exact order_no v h nx O I x y x2 y2 a w hs (.inr hv)
    · exact order_ok v h nx O I x y x2 y2 a w hs hf hv ⟨h0, h1⟩
end Go.Proofs.Yteeohndgkfilaaa
