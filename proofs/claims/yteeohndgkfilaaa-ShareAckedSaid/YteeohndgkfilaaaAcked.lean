/-
  THE LAW ShareAcked, walked.
-/
import Derived.Test.YteeohndgkfilaaaOnce
import Derived.Test.YteeohndgkfilaaaOwn
namespace Go.Proofs.Yteeohndgkfilaaa
open Go.RowKit
set_option linter.unusedVariables false
attribute [local go_sem ↓] Go.wp_at_zero Go.wp_at_succ

set_option maxRecDepth 100000 in
set_option maxHeartbeats 4000000 in
theorem acked_no (v : Value) (h nx : Int) (O : List (Int × Int)) (I : List Int) (q : Int) (w : World) (hs : SV w v h nx O I) (hno : fewB O I = false ∨ vB h nx O I = false) :
    Calls Try.prog 8 #[v, .int .i64 q] w fun e w' => e = .returned (.bool true) ∧ Below w.heap.size w w' := by
  have HS := Lib.hid hs
  obtain ⟨A, c, B, d, rfl, _⟩ := hs
  generalize hn : O.length = n at *
  generalize hm : I.length = m at *
  have HB3 : Hid (∀ o1 : Obj, Below w.heap.size w (w.alloc o1)) := Lib.hid fun o1 => bel_a w o1
  have HP : Hid (OW (w.alloc (.cells #[.int .i64 h, .int .i64 nx, .slice A n c, .slice B m d] 25)) w.heap.size 25 [.int .i64 h, .int .i64 nx, .slice A n c, .slice B m d]) := Lib.hid (OW.new w 25 [.int .i64 h, .int .i64 nx, .slice A n c, .slice B m d])
  cases hf : fewB O I
  · have HF := Lib.hid hf
    clear hno hf
    go_enter Try.func8, Try.ntmps8
    go_wp2_with (first
      | (go_at_call 9; with_reducible refine (head_any _).mono ?_; rintro e w1 ⟨rfl, h1⟩
         have H1 := Lib.hid (bel_step (HB3.out _) h1)
         obtain ⟨c0, c1, c2, c3⟩ := cell4 (HP.out.keep h1))
      | (go_at_call 10; with_reducible refine (few_sv _ h nx O I _ (HS.out.keep H1.out) false HF.out).mono ?_; rintro e w2 ⟨rfl, h2⟩))
    go_ret
    exact ⟨rfl, bel_step H1.out h2⟩
  · have HF := Lib.hid hf
    have hv : vB h nx O I = false := by
      rcases hno with e | e
      · rw [hf] at e; cases e
      · exact e
    have HV := Lib.hid hv
    clear hno hf hv
    go_enter Try.func8, Try.ntmps8
    go_wp2_with (first
      | (go_at_call 9; with_reducible refine (head_any _).mono ?_; rintro e w1 ⟨rfl, h1⟩
         have H1 := Lib.hid (bel_step (HB3.out _) h1)
         have P1 := Lib.hid (HP.out.keep h1)
         obtain ⟨c0, c1, c2, c3⟩ := cell4 P1.out)
      | (go_at_call 10; with_reducible refine (few_sv _ h nx O I _ (HS.out.keep H1.out) true HF.out).mono ?_; rintro e w2 ⟨rfl, h2⟩
         have H2 := Lib.hid (bel_step H1.out h2)
         obtain ⟨d0, d1, d2, d3⟩ := cell4 (P1.out.keep h2))
      | (go_at_call 19; with_reducible refine (rval_sv _ h nx O I _ (HS.out.keep H2.out) false HV.out).mono ?_; rintro e w3 ⟨rfl, h3⟩))
    go_ret
    exact ⟨rfl, bel_step H2.out h3⟩

set_option maxRecDepth 100000 in
set_option maxHeartbeats 8000000 in
theorem acked_ok (v : Value) (h nx : Int) (O : List (Int × Int)) (I : List Int) (q : Int) (w : World) (hs : SV w v h nx O I) (hf : fewB O I = true) (hv : vB h nx O I = true) :
    Calls Try.prog 8 #[v, .int .i64 q] w fun e w' => e = .returned (.bool true) ∧ Below w.heap.size w w' := by
  have HS := Lib.hid hs
  have hvs := vS_iff.1 (vB_iff.1 hv)
  have h64 := hvs.2.1
  have HVS := Lib.hid (vB_iff.1 hv)
  obtain ⟨A, c, B, d, rfl, hRO, hRI, hAn, hBn, hc, hd⟩ := hs
  have HRO := Lib.hid hRO
  have HRI := Lib.hid hRI
  clear hRO hRI hvs
  generalize hn : O.length = n at *
  generalize hm : I.length = m at *
  have HN := Lib.hid hn
  have HM := Lib.hid hm
  have HAN := Lib.hid hAn
  have HBN := Lib.hid hBn
  obtain ⟨i0, hi, hz0, hz1, hz2⟩ := info_parts infoTr
  have HI := Lib.hid hi
  have HZ0 := Lib.hid hz0
  have HZ1 := Lib.hid hz1
  have HZ2 := Lib.hid hz2
  have HB3 : Hid (∀ o1 : Obj, Below w.heap.size w (w.alloc o1)) := Lib.hid fun o1 => bel_a w o1
  have HP : Hid (OW (w.alloc (.cells #[.int .i64 h, .int .i64 nx, .slice A n c, .slice B m d] 25)) w.heap.size 25 [.int .i64 h, .int .i64 nx, .slice A n c, .slice B m d]) := Lib.hid (OW.new w 25 [.int .i64 h, .int .i64 nx, .slice A n c, .slice B m d])
  have HF := Lib.hid hf
  have HV := Lib.hid hv
  clear hf hv hn hm hAn hBn hi hz0 hz1 hz2
  go_enter Try.func8, Try.ntmps8
  go_upto_region 5 with (first
    | (go_at_call 9; with_reducible refine (head_any _).mono ?_; rintro e w1 ⟨rfl, g1⟩
       have H1 := Lib.hid (bel_step (HB3.out _) g1)
       have P1 := Lib.hid (HP.out.keep g1)
       obtain ⟨c0, c1, c2, c3⟩ := cell4 P1.out)
    | (go_at_call 10; with_reducible refine (few_sv _ h nx O I _ (HS.out.keep H1.out) true HF.out).mono ?_; rintro e w2 ⟨rfl, g2⟩
       have H2 := Lib.hid (bel_step H1.out g2)
       have P2 := Lib.hid (P1.out.keep g2)
       obtain ⟨d0, d1, d2, d3⟩ := cell4 P2.out)
    | (go_at_call 19; with_reducible refine (rval_sv _ h nx O I _ (HS.out.keep H2.out) true HV.out).mono ?_; rintro e w3 ⟨rfl, g3⟩
       have H3 := Lib.hid (bel_step H2.out g3)
       have P3 := Lib.hid (P2.out.keep g3)
       obtain ⟨f0, f1, f2, f3⟩ := cell4 P3.out)
    | (go_at_call 15; with_reducible refine (ack_v _ h nx O I q _ (HS.out.keep H3.out)).mono ?_; rintro e wa ⟨h1, nx1, A1, n1, B1, m1, er, O1, I1, rfl, sc1, e1, hw⟩))
  clear c0 c1 c2 c3 d0 d1 d2 d3 f0 f1 f2 f3
  have P4 := Lib.hid ((P3.out.keep hw).alloc (.cells #[.int .i64 h1, .int .i64 nx1, .slice A1 n1 n1, .slice B1 m1 m1] 25))
  have P5 := Lib.hid (OW.new wa 25 [.int .i64 h1, .int .i64 nx1, .slice A1 n1 n1, .slice B1 m1 m1])
  have SC1 := Lib.hid (sc1.keep (bel_a wa (.cells #[.int .i64 h1, .int .i64 nx1, .slice A1 n1 n1, .slice B1 m1 m1] 25)))
  have HB := Lib.hid (bel_alloc (bel_step H3.out hw) (.cells #[.int .i64 h1, .int .i64 nx1, .slice A1 n1 n1, .slice B1 m1 m1] 25))
  obtain ⟨W1, eW⟩ : ∃ W, wa.alloc (.cells #[.int .i64 h1, .int .i64 nx1, .slice A1 n1 n1, .slice B1 m1 m1] 25) = W := ⟨_, rfl⟩
  rw [eW] at P4 P5 SC1 HB ⊢
  clear eW sc1 hw g1 g2 g3 P1 P2 P3 H1 H2 H3 HP HB3
  obtain ⟨b6, eB⟩ : ∃ b, wa.heap.size = b := ⟨_, rfl⟩
  rw [eB] at P5 ⊢
  clear eB
  have E1 := Lib.hid e1
  clear e1
  obtain ⟨b2, eB⟩ : ∃ b, w.heap.size = b := ⟨_, rfl⟩
  have EB2 := Lib.hid eB
  rw [eB] at P4
  first | rw [eB] | skip
  clear eB
  have y2 := P4.out.at (j := 2) rfl
  go_wp2_with fail
  clear y2
  go_loopw [8, 30] (fun v i wr => ∃ k : Nat, k ≤ n ∧ i = .int .i64 k ∧ wr.ownsRow W1.heap.size 27 2 v (wo q (O.take k)).length (cT (wo q (O.take k))) ∧ Below W1.heap.size W1 wr) (fun _ i _ => n - (intOf i).toNat)
  case atStart => exact ⟨0, Nat.zero_le _, rfl, World.ownsRow_nil _ _ _ _, Below.refl _ _⟩
  case round =>
    obtain ⟨k, hk, rfl, how, hbw⟩ := hrel
    obtain ⟨A9, c9, hv9, hc9, hn9⟩ := own_form how
    have hl9 := wo_len q (O.take k)
    have HOW := Lib.hid how
    have HBW := Lib.hid hbw
    have hbs := hbw.size
    have hk9 : (O.take k).length ≤ k := by simp; omega
    have HL9 : Hid ((wo q (O.take k)).length = (wo q (O.take k)).length) := Lib.hid rfl
    obtain ⟨s, hs9⟩ : ∃ s, (wo q (O.take k)).length = s := ⟨_, rfl⟩
    rw [hs9] at hv9 hc9 HOW hl9 hn9
    subst hv9
    have HS9 := Lib.hid hs9
    clear how hbw HL9 hs9
    by_cases hlt : k < n
    · obtain ⟨b, o, rfl, hb, x0, x1⟩ := (HRO.out.keep (bel_step HB.out HBW.out)).t (i := k) (by have := HN.out; omega)
      have j0 : (0 : Int) ≤ (k : Int) := by omega
      have j1 : (k : Int) < (n : Int) := by omega
      have HT := Lib.hid (take_snoc2 (l := O) (k := k) (by have := HN.out; omega))
      have HE : Hid ((at2 O k) = ((at2 O k).1, (at2 O k).2)) := Lib.hid rfl
      generalize hp1 : (at2 O k).1 = p1 at *
      generalize hp2 : (at2 O k).2 = p2 at *
      clear hp1 hp2
      have HN1 := Lib.hid (OW.new wr 27 [.int .i64 p1, .int .i64 p2])
      have HOW1 := Lib.hid (HOW.out.alloc (.cells #[.int .i64 p1, .int .i64 p2] 27))
      have HBW1 := Lib.hid (bel_alloc HBW.out (.cells #[.int .i64 p1, .int .i64 p2] 27))
      go_upto_region 9 with (fail)
      obtain ⟨wx, ewx⟩ : ∃ wx, wr.alloc (.cells #[.int .i64 p1, .int .i64 p2] 27) = wx := ⟨_, rfl⟩
      rw [ewx] at HN1 HOW1 HBW1 ⊢
      clear ewx
      obtain ⟨bx, eB⟩ : ∃ b, wr.heap.size = b := ⟨_, rfl⟩
      rw [eB] at HN1 ⊢
      clear eB x0 x1
      obtain ⟨x0, x1⟩ := cell2 HN1.out
      have hbs1 := HBW1.out.size
      by_cases he : p1 = q
      · have e3 : (p1 != q) = false := by simpa using he
        have HW : Hid (wo q (O.take (k + 1)) = wo q (O.take k)) := Lib.hid (by rw [HT.out, wo_app, HE.out, he]; simp [wo])
        clear he
        go_wp2_with fail
        go_roundw
        case rel => exact ⟨k + 1, by omega, by go_num, by rw [HW.out, HS9.out]; exact HOW1.out, HBW1.out⟩
        case measure => simp [intOf] <;> omega
      · have e3 : (p1 != q) = true := by simpa using he
        have HW : Hid (wo q (O.take (k + 1)) = wo q (O.take k) ++ [(p1, p2)]) := Lib.hid (by rw [HT.out, wo_app, HE.out]; simp [wo, he])
        clear he
        go_wp2_with (at_builtin; refine wpList_append_lies _ rfl (.tmp 38) (.tmp 40) 22 rfl W1.heap.size 27 i0 _ 2 16 Try.underlying22 HI.out HZ0.out HZ1.out HZ2.out rfl (by omega) (.slice A9 s c9) s _ rfl (HOW1.out.alloc _) ⟨wx.heap.size, 0, none⟩ 1 1 [.int .i64 p1, .int .i64 p2] rfl rfl (World.news_of_block (heap_alloc_new wx _)) (one2 _ _) (by omega) (by unfold maxLen; omega) (by omega) (by simp; omega) (wx.heap.size + 1) (by simp) ?_; intro gg cap1 wB hown1 hgrow1 hat1 hlt1; rw [cT_snoc, ← HW.out] at hown1)
        have hbB : Below W1.heap.size W1 wB := (bel_alloc HBW1.out _).grown hgrow1 (bel_alloc HBW1.out _).size (own_ge HOW1.out)
        go_roundw
        case rel => exact ⟨k + 1, by omega, by go_num, by rw [HW.out, List.length_append, HS9.out, ← HW.out]; exact hown1, hbB⟩
        case measure => simp [intOf] <;> omega
    · obtain rfl : k = n := by omega
      have HTK : Hid (O.take k = O) := Lib.hid (by rw [← HN.out]; exact List.take_length)
      have P4' := Lib.hid (P4.out.keep HBW.out)
      obtain ⟨y0, y1, y2, y3⟩ := cell4 P4'.out
      have P5' := Lib.hid (P5.out.keep HBW.out)
      obtain ⟨z0, z1, z2, z3⟩ := cell4 P5'.out
      have SC2 := Lib.hid (SC1.out.keep HBW.out)
      by_cases hin : hasT q O
      · have hsn : s < k := by
          have := wo_less hin
          rw [← HTK.out] at this
          rw [HTK.out] at this
          have e := HS9.out
          rw [HTK.out] at e
          have := HN.out
          omega
        have e9 : ((s : Int) == (k : Int)) = false := by simp; omega
        obtain ⟨ea, hor⟩ := E1.out
        have e0 := aE_of (HVS.out) hin
        rw [e0] at ea
        subst ea
        rcases hor with ⟨_, q1, q2, q3, q4⟩ | ⟨z, _⟩
        rotate_left
        · exact absurd rfl z
        obtain rfl := q1.symm
        obtain rfl := q2.symm
        obtain rfl := q3.symm
        obtain rfl := q4.symm
        have VX : Hid (vB h nx (wo q O) I = true) := Lib.hid (vB_iff.2 (vS_ack HVS.out))
        have LW : Hid ((wo q O).length ≤ 1000 ∧ I.length ≤ 1000) := Lib.hid ⟨by have := wo_len q O; have := HN.out; omega, by have := HM.out; omega⟩
        have SL : Hid (SV wr (.agg #[.int .i64 h, .int .i64 nx, .slice A9 s c9, .slice B m d]) h nx (wo q O) I) := Lib.hid (by
          have r := own_rl HOW.out
          rw [HTK.out] at r
          have e := HS9.out
          rw [HTK.out] at e
          subst e
          have := HM.out
          subst this
          exact ⟨A9, c9, B, d, rfl, r, HRI.out.keep (bel_step HB.out HBW.out), hn9, HBN.out, hc9, hd⟩)
        clear hin e0
        go_wp2_with (first
          | (go_at_call 18; with_reducible refine (val_sv _ h nx (wo q O) I _ SC2.out.sv true VX.out).mono ?_; rintro e w6 ⟨rfl, g6⟩
             have H6 := Lib.hid g6
             obtain ⟨c0, c1, c2, c3⟩ := cell4 (P4'.out.keep g6)
             obtain ⟨d0, d1, d2, d3⟩ := cell4 (P5'.out.keep g6))
          | (go_at_call 17; with_reducible refine (same_yes _ _ h nx (wo q O) I _ (SC2.out.sv.keep H6.out) (SL.out.keep H6.out) LW.out.1 LW.out.2).mono ?_; rintro e w7 ⟨rfl, g7⟩))
        go_ret
        exact ⟨rfl, bel_step (bel_step (bel_step HB.out HBW.out) H6.out) g7⟩
      · have hsn : s = k := by
          have e := HS9.out
          rw [HTK.out, wo_full hin] at e
          have := HN.out
          omega
        have e9 : ((s : Int) == (k : Int)) = true := by simp; omega
        obtain ⟨ea, hor⟩ := E1.out
        have e0 := aE_no (HVS.out) hin
        rw [e0] at ea
        subst ea
        rcases hor with ⟨z, _⟩ | ⟨_, q1, q2, q3, q4⟩
        · cases z
        obtain rfl := q1.symm
        obtain rfl := q2.symm
        obtain rfl := q3.symm
        obtain rfl := q4.symm
        clear hin e0 hsn
        go_wp2_with (first
          | (go_at_call 17; with_reducible refine (same_yes _ _ 0 0 [] [] _ SC2.out.sv (sv_lit _ _ _) (by simp) (by simp)).mono ?_; rintro e w7 ⟨rfl, g7⟩))
        go_ret
        exact ⟨rfl, bel_step (bel_step HB.out HBW.out) g7⟩

theorem acked_all (v : Value) (h nx : Int) (O : List (Int × Int)) (I : List Int) (q : Int) (w : World) (hs : SV w v h nx O I) :
    Calls Try.prog 8 #[v, .int .i64 q] w fun e w' => e = .returned (.bool true) ∧ Below w.heap.size w w' := by
  cases hf : fewB O I
  · exact acked_no v h nx O I q w hs (.inl hf)
  · cases hv : vB h nx O I
    · exact acked_no v h nx O I q w hs (.inr hv)
    · exact acked_ok v h nx O I q w hs hf hv
end Go.Proofs.Yteeohndgkfilaaa
