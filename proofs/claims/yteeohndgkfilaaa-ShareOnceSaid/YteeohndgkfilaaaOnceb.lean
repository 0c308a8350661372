/-
  THE LAW ShareOnce, walked: where the transfer is received.
-/
import Derived.Test.YteeohndgkfilaaaOnce
import Derived.Test.YteeohndgkfilaaaUni
namespace Go.Proofs.Yteeohndgkfilaaa
open Go.RowKit
set_option linter.unusedVariables false
attribute [local go_sem ↓] Go.wp_at_zero Go.wp_at_succ

/-- what holds of x behind each step -/
def OnceS (w0 : World) (b12 b6 b9 : Nat) (x y x2 y2 : Int) (W : World) : Prop := ∃ h nx A n B m O I, OW W b12 25 [.int .i64 h, .int .i64 nx, .slice A n n, .slice B m m] ∧ SC W h nx A n B m O I ∧ (vS h nx O I ∧ x ∈ I) ∧ OW W b6 27 [.int .i64 x, .int .i64 y] ∧ OW W b9 27 [.int .i64 x2, .int .i64 y2] ∧ Below w0.heap.size w0 W

set_option maxRecDepth 100000 in
set_option maxHeartbeats 4000000 in
theorem once_ok (v : Value) (h nx : Int) (O : List (Int × Int)) (I : List Int) (x y a q x2 y2 : Int) (w : World) (hs : SV w v h nx O I) (hf : fewB O I = true) (hv : vB h nx O I = true) (hr : rE h nx O I x y = 0) :
    Calls Try.prog 5 #[v, .agg #[.int .i64 x, .int .i64 y], .int .i64 a, .int .i64 q, .agg #[.int .i64 x2, .int .i64 y2]] w fun e w' => e = .returned (.bool true) ∧ Below w.heap.size w w' := by
  have HS := Lib.hid hs
  obtain ⟨A, c, B, d, rfl, _⟩ := hs
  generalize hn : O.length = n at *
  generalize hm : I.length = m at *
  have HB3 : Hid (∀ o1 o2 o3 : Obj, Below w.heap.size w (((w.alloc o1).alloc o2).alloc o3)) := Lib.hid fun o1 o2 o3 => bel_alloc (bel_alloc (bel_a w o1) o2) o3
  have HP : Hid (∀ o2 o3 : Obj, OW (((w.alloc (.cells #[.int .i64 h, .int .i64 nx, .slice A n c, .slice B m d] 25)).alloc o2).alloc o3) w.heap.size 25 [.int .i64 h, .int .i64 nx, .slice A n c, .slice B m d]) := Lib.hid fun o2 o3 => ((OW.new w 25 [.int .i64 h, .int .i64 nx, .slice A n c, .slice B m d]).alloc o2).alloc o3
  have HP6 : Hid (∀ o1 o3 : Obj, OW (((w.alloc o1).alloc (.cells #[.int .i64 x, .int .i64 y] 27)).alloc o3) (w.heap.size + 1) 27 [.int .i64 x, .int .i64 y]) := Lib.hid fun o1 o3 => (OW.new1 w o1 27 [.int .i64 x, .int .i64 y]).alloc o3
  have HP9 : Hid (∀ o1 o2 : Obj, OW (((w.alloc o1).alloc o2).alloc (.cells #[.int .i64 x2, .int .i64 y2] 27)) (w.heap.size + 1 + 1) 27 [.int .i64 x2, .int .i64 y2]) := Lib.hid fun o1 o2 => OW.new2 w o1 o2 27 [.int .i64 x2, .int .i64 y2]
  have HF := Lib.hid hf
  have HV := Lib.hid hv
  have HR := Lib.hid hr
  have HT := Lib.hid (rE0 hr).2.1
  clear hf hv hr
  go_enter Try.func5, Try.ntmps5
  go_upto_region 7 with (first
    | (go_at_call 9; with_reducible refine (head_any _).mono ?_; rintro e w1 ⟨rfl, h1⟩
       have H1 := Lib.hid (bel_step (HB3.out _ _ _) h1)
       have P1 := Lib.hid ((HP.out _ _).keep h1)
       have P6 := Lib.hid ((HP6.out _ _).keep h1)
       have P9 := Lib.hid ((HP9.out _ _).keep h1)
       obtain ⟨c0, c1, c2, c3⟩ := cell4 P1.out)
    | (go_at_call 10; with_reducible refine (few_sv _ h nx O I _ (HS.out.keep H1.out) true HF.out).mono ?_; rintro e w2 ⟨rfl, h2⟩
       have H2 := Lib.hid (bel_step H1.out h2)
       have P2 := Lib.hid (P1.out.keep h2)
       have Q6 := Lib.hid (P6.out.keep h2)
       have Q9 := Lib.hid (P9.out.keep h2)
       obtain ⟨d0, d1, d2, d3⟩ := cell4 P2.out)
    | (go_at_call 19; with_reducible refine (rval_sv _ h nx O I _ (HS.out.keep H2.out) true HV.out).mono ?_; rintro e w3 ⟨rfl, h3⟩
       have H3 := Lib.hid (bel_step H2.out h3)
       have R6 := Lib.hid (Q6.out.keep h3)
       have R9 := Lib.hid (Q9.out.keep h3)
       obtain ⟨g0, g1, g2, g3⟩ := cell4 (P2.out.keep h3)
       obtain ⟨f0, f1⟩ := cell2 R6.out)
    | (go_at_call 13; with_reducible refine (recv_ok0 _ h nx O I x y _ (HS.out.keep H3.out) HR.out).mono ?_; rintro e w4 ⟨A4, n4, B4, m4, rfl, hs4, h4⟩
       have H4 := Lib.hid (bel_step H3.out h4)
       have S6 := Lib.hid (R6.out.keep h4)
       have S9 := Lib.hid (R9.out.keep h4)
       have HS4 := Lib.hid hs4))
  have hS : OnceS w w4.heap.size (w.heap.size + 1) (w.heap.size + 1 + 1) x y x2 y2 (w4.alloc (.cells #[.int .i64 (h + y), .int .i64 nx, .slice A4 n4 n4, .slice B4 m4 m4] 25)) := ⟨_, _, A4, n4, B4, m4, _, _, OW.new w4 _ [.int .i64 (h + y), .int .i64 nx, .slice A4 n4 n4, .slice B4 m4 m4], HS4.out.keep (bel_a _ _), ⟨rE_vS HR.out, mem_insO.2 (.inl rfl)⟩, S6.out.alloc _, S9.out.alloc _, bel_alloc H4.out _⟩
  have hb12 : w.heap.size + 2 < w4.heap.size := S9.out.lt
  obtain ⟨b12, e12⟩ : ∃ b, w4.heap.size = b := ⟨_, rfl⟩
  obtain ⟨b6, e6⟩ : ∃ b, w.heap.size + 1 = b := ⟨_, rfl⟩
  obtain ⟨b9, e9⟩ : ∃ b, w.heap.size + 1 + 1 = b := ⟨_, rfl⟩
  obtain ⟨WA, eA⟩ : ∃ W, w4.alloc (.cells #[.int .i64 (h + y), .int .i64 nx, .slice A4 n4 n4, .slice B4 m4 m4] 25) = W := ⟨_, rfl⟩
  rw [eA, e12, e9, e6] at hS
  rw [eA, e12, e9, e6]
  rw [e12] at hb12
  have hl : w.heap.size ≤ b12 ∧ b12 ≠ b6 ∧ b12 ≠ b9 := by omega
  clear eA e12 e6 e9 hb12 H1 P1 P6 P9 c0 c1 c2 c3 h1 H2 P2 Q6 Q9 d0 d1 d2 d3 h2 H3 R6 R9 g0 g1 g2 g3 f0 f1 h3 H4 S6 S9 HS4 hs4 h4
  have HL := Lib.hid hl
  clear hl
  obtain ⟨k, nk, Ak, mk, Bk, lk, Ok, Ik, o12, s12, hx, o6, o9, hbel⟩ := hS
  have O12 := Lib.hid o12
  have S12 := Lib.hid s12
  have HX := Lib.hid hx
  have O6 := Lib.hid o6
  have O9 := Lib.hid o9
  have HB := Lib.hid hbel
  obtain ⟨j0, j1, j2, j3⟩ := cell4 o12
  clear o12 s12 hx o6 o9 hbel
  go_upto_if 55 with (first
    | (go_at_call 11; with_reducible refine (send_u k nk _ _ _ _ Ok Ik a _ S12.out).mono ?_; rintro e w5 ⟨k5, nk5, A5, n5, B5, m5, er, O5, I5, t0, t1, rfl, hs5, he5, h5⟩
       have HS5 := Lib.hid hs5
       have HE5 := Lib.hid he5
       have H5 := Lib.hid h5
       clear hs5 he5 h5))
  clear j0 j1 j2 j3
  obtain ⟨b14, e14⟩ : ∃ b, w5.heap.size = b := ⟨_, rfl⟩
  have O14 := Lib.hid ((OW.new w5 25 [.int .i64 k5, .int .i64 nk5, .slice A5 n5 n5, .slice B5 m5 m5]).alloc (.cells #[.int .i64 t0, .int .i64 t1] 27))
  have HK := Lib.hid (bel_step H5.out (bel_alloc (bel_a w5 (.cells #[.int .i64 k5, .int .i64 nk5, .slice A5 n5 n5, .slice B5 m5 m5] 25)) (.cells #[.int .i64 t0, .int .i64 t1] 27)))
  have HS14 := Lib.hid (HS5.out.keep (bel_alloc (bel_a w5 (.cells #[.int .i64 k5, .int .i64 nk5, .slice A5 n5 n5, .slice B5 m5 m5] 25)) (.cells #[.int .i64 t0, .int .i64 t1] 27)))
  obtain ⟨WC, eC⟩ : ∃ W, (w5.alloc (.cells #[.int .i64 k5, .int .i64 nk5, .slice A5 n5 n5, .slice B5 m5 m5] 25)).alloc (.cells #[.int .i64 t0, .int .i64 t1] 27) = W := ⟨_, rfl⟩
  rw [eC, e14] at O14
  rw [eC] at HK HS14
  rw [eC, e14]
  clear eC e14
  have C12 := Lib.hid (O12.out.keep HK.out)
  have C6 := Lib.hid (O6.out.keep HK.out)
  have C9 := Lib.hid (O9.out.keep HK.out)
  have CB := Lib.hid (bel_step HB.out HK.out)
  have CS := Lib.hid (S12.out.keep HK.out)
  go_cut [12] (fun p wx => p = .pointer (some ⟨b12, 0, none⟩) ∧ OnceS w b12 b6 b9 x y x2 y2 wx)
  case first =>
    by_cases h0 : er = 0
    · subst h0
      obtain ⟨c0, c1, c2, c3⟩ := cell4 O14.out
      obtain ⟨d0, d1, d2, d3⟩ := cell4 C12.out
      have t0 := C12.out.thaw 0
      have t1 := C12.out.thaw 1
      have t2 := C12.out.thaw 2
      have t3 := C12.out.thaw 3
      go_wp2_with fail
      go_meet
      have hl := HL.out
      have hsc := HS14.out.far4 C12.out (by decide) (by decide) 0 1 2 3 (.int .i64 k5) (.int .i64 nk5) (.slice A5 n5 n5) (.slice B5 m5 m5)
      refine ⟨rfl, _, _, _, _, _, _, _, _, C12.out.set4 _ _ _ _, hsc, ?_, C6.out.far4 hl.2.1 _ _ _ _ _ _ _ _, C9.out.far4 hl.2.2 _ _ _ _ _ _ _ _, bel_set4 CB.out hl.1 _ _ _ _ _ _ _ _⟩
      obtain ⟨e5, ⟨_, rfl, rfl, rfl, rfl, _⟩ | ⟨h', _⟩⟩ := HE5.out
      · exact ⟨sE_vS e5, HX.out.2⟩
      · exact absurd rfl h'
    · have hb0 : (er == 0) = false := by simpa using h0
      go_wp2_with fail
      go_meet
      exact ⟨rfl, _, _, _, _, _, _, _, _, C12.out, CS.out, HX.out, C6.out, C9.out, CB.out⟩
  case rest =>
    obtain ⟨rfl, hS⟩ := hcut
    clear O12 S12 HX O6 O9 HB HS5 HE5 H5 O14 HK HS14 C12 C6 C9 CB CS
    obtain ⟨k, nk, Ak, mk, Bk, lk, Ok, Ik, o12, s12, hx, o6, o9, hbel⟩ := hS
    have O12 := Lib.hid o12
    have S12 := Lib.hid s12
    have HX := Lib.hid hx
    have O6 := Lib.hid o6
    have O9 := Lib.hid o9
    have HB := Lib.hid hbel
    obtain ⟨j0, j1, j2, j3⟩ := cell4 o12
    clear o12 s12 hx o6 o9 hbel
    go_upto_if 64 with (first
      | (go_at_call 15; with_reducible refine (ack_u k nk _ _ _ _ Ok Ik q _ S12.out).mono ?_; rintro e w5 ⟨k5, nk5, A5, n5, B5, m5, er, O5, I5, rfl, hs5, he5, h5⟩
         have HS5 := Lib.hid hs5
         have HE5 := Lib.hid he5
         have H5 := Lib.hid h5
         clear hs5 he5 h5))
    clear j0 j1 j2 j3
    obtain ⟨b14, e14⟩ : ∃ b, w5.heap.size = b := ⟨_, rfl⟩
    have O14 := Lib.hid ((OW.new w5 25 [.int .i64 k5, .int .i64 nk5, .slice A5 n5 n5, .slice B5 m5 m5]))
    have HK := Lib.hid (bel_step H5.out (bel_a w5 (.cells #[.int .i64 k5, .int .i64 nk5, .slice A5 n5 n5, .slice B5 m5 m5] 25)))
    have HS14 := Lib.hid (HS5.out.keep (bel_a w5 (.cells #[.int .i64 k5, .int .i64 nk5, .slice A5 n5 n5, .slice B5 m5 m5] 25)))
    obtain ⟨WC, eC⟩ : ∃ W, w5.alloc (.cells #[.int .i64 k5, .int .i64 nk5, .slice A5 n5 n5, .slice B5 m5 m5] 25) = W := ⟨_, rfl⟩
    rw [eC, e14] at O14
    rw [eC] at HK HS14
    rw [eC, e14]
    clear eC e14
    have C12 := Lib.hid (O12.out.keep HK.out)
    have C6 := Lib.hid (O6.out.keep HK.out)
    have C9 := Lib.hid (O9.out.keep HK.out)
    have CB := Lib.hid (bel_step HB.out HK.out)
    have CS := Lib.hid (S12.out.keep HK.out)
    go_cut [12] (fun p wx => p = .pointer (some ⟨b12, 0, none⟩) ∧ OnceS w b12 b6 b9 x y x2 y2 wx)
    case first =>
      by_cases h0 : er = 0
      · subst h0
        obtain ⟨c0, c1, c2, c3⟩ := cell4 O14.out
        obtain ⟨d0, d1, d2, d3⟩ := cell4 C12.out
        have t0 := C12.out.thaw 0
        have t1 := C12.out.thaw 1
        have t2 := C12.out.thaw 2
        have t3 := C12.out.thaw 3
        go_wp2_with fail
        go_meet
        have hl := HL.out
        have hsc := HS14.out.far4 C12.out (by decide) (by decide) 0 1 2 3 (.int .i64 k5) (.int .i64 nk5) (.slice A5 n5 n5) (.slice B5 m5 m5)
        refine ⟨rfl, _, _, _, _, _, _, _, _, C12.out.set4 _ _ _ _, hsc, ?_, C6.out.far4 hl.2.1 _ _ _ _ _ _ _ _, C9.out.far4 hl.2.2 _ _ _ _ _ _ _ _, bel_set4 CB.out hl.1 _ _ _ _ _ _ _ _⟩
        obtain ⟨e5, ⟨_, rfl, rfl, rfl, rfl⟩ | ⟨h', _⟩⟩ := HE5.out
        · exact ⟨vS_ack HX.out.1, HX.out.2⟩
        · exact absurd rfl h'
      · have hb0 : (er == 0) = false := by simpa using h0
        go_wp2_with fail
        go_meet
        exact ⟨rfl, _, _, _, _, _, _, _, _, C12.out, CS.out, HX.out, C6.out, C9.out, CB.out⟩
    case rest =>
      obtain ⟨rfl, hS⟩ := hcut
      clear O12 S12 HX O6 O9 HB HS5 HE5 H5 O14 HK HS14 C12 C6 C9 CB CS
      obtain ⟨k, nk, Ak, mk, Bk, lk, Ok, Ik, o12, s12, hx, o6, o9, hbel⟩ := hS
      have O12 := Lib.hid o12
      have S12 := Lib.hid s12
      have HX := Lib.hid hx
      have O6 := Lib.hid o6
      have O9 := Lib.hid o9
      have HB := Lib.hid hbel
      obtain ⟨j0, j1, j2, j3⟩ := cell4 o12
      obtain ⟨i0, i1⟩ := cell2 o9
      clear o12 s12 hx o6 o9 hbel
      go_upto_if 73 with (first
        | (go_at_call 13; with_reducible refine (recv_u k nk _ _ _ _ Ok Ik x2 y2 _ S12.out).mono ?_; rintro e w5 ⟨k5, nk5, A5, n5, B5, m5, er, O5, I5, rfl, hs5, he5, h5⟩
           have HS5 := Lib.hid hs5
           have HE5 := Lib.hid he5
           have H5 := Lib.hid h5
           clear hs5 he5 h5))
      clear j0 j1 j2 j3
      obtain ⟨b14, e14⟩ : ∃ b, w5.heap.size = b := ⟨_, rfl⟩
      have O14 := Lib.hid ((OW.new w5 25 [.int .i64 k5, .int .i64 nk5, .slice A5 n5 n5, .slice B5 m5 m5]))
      have HK := Lib.hid (bel_step H5.out (bel_a w5 (.cells #[.int .i64 k5, .int .i64 nk5, .slice A5 n5 n5, .slice B5 m5 m5] 25)))
      have HS14 := Lib.hid (HS5.out.keep (bel_a w5 (.cells #[.int .i64 k5, .int .i64 nk5, .slice A5 n5 n5, .slice B5 m5 m5] 25)))
      obtain ⟨WC, eC⟩ : ∃ W, w5.alloc (.cells #[.int .i64 k5, .int .i64 nk5, .slice A5 n5 n5, .slice B5 m5 m5] 25) = W := ⟨_, rfl⟩
      rw [eC, e14] at O14
      rw [eC] at HK HS14
      rw [eC, e14]
      clear eC e14
      have C12 := Lib.hid (O12.out.keep HK.out)
      have C6 := Lib.hid (O6.out.keep HK.out)
      have C9 := Lib.hid (O9.out.keep HK.out)
      have CB := Lib.hid (bel_step HB.out HK.out)
      have CS := Lib.hid (S12.out.keep HK.out)
      go_cut [12] (fun p wx => p = .pointer (some ⟨b12, 0, none⟩) ∧ OnceS w b12 b6 b9 x y x2 y2 wx)
      case first =>
        by_cases h0 : er = 0
        · subst h0
          obtain ⟨c0, c1, c2, c3⟩ := cell4 O14.out
          obtain ⟨d0, d1, d2, d3⟩ := cell4 C12.out
          have t0 := C12.out.thaw 0
          have t1 := C12.out.thaw 1
          have t2 := C12.out.thaw 2
          have t3 := C12.out.thaw 3
          go_wp2_with fail
          go_meet
          have hl := HL.out
          have hsc := HS14.out.far4 C12.out (by decide) (by decide) 0 1 2 3 (.int .i64 k5) (.int .i64 nk5) (.slice A5 n5 n5) (.slice B5 m5 m5)
          refine ⟨rfl, _, _, _, _, _, _, _, _, C12.out.set4 _ _ _ _, hsc, ?_, C6.out.far4 hl.2.1 _ _ _ _ _ _ _ _, C9.out.far4 hl.2.2 _ _ _ _ _ _ _ _, bel_set4 CB.out hl.1 _ _ _ _ _ _ _ _⟩
          obtain ⟨e5, ⟨_, rfl, rfl, rfl, rfl⟩ | ⟨h', _⟩⟩ := HE5.out
          · exact ⟨rE_vS e5, mem_insO.2 (.inr HX.out.2)⟩
          · exact absurd rfl h'
        · have hb0 : (er == 0) = false := by simpa using h0
          go_wp2_with fail
          go_meet
          exact ⟨rfl, _, _, _, _, _, _, _, _, C12.out, CS.out, HX.out, C6.out, C9.out, CB.out⟩
      case rest =>
        obtain ⟨rfl, hS⟩ := hcut
        clear O12 S12 HX O6 O9 HB HS5 HE5 H5 O14 HK HS14 C12 C6 C9 CB CS
        obtain ⟨k, nk, Ak, mk, Bk, lk, Ok, Ik, o12, s12, hx, o6, o9, hbel⟩ := hS
        have S12 := Lib.hid s12
        have HB := Lib.hid hbel
        have HE := Lib.hid (rE_twice hx.1 HT.out hx.2)
        obtain ⟨j0, j1, j2, j3⟩ := cell4 o12
        obtain ⟨i0, i1⟩ := cell2 o6
        clear o12 s12 hx o6 o9 hbel
        go_wp2_with (first
          | (go_at_call 13; with_reducible refine (recv_x _ k nk Ok Ik x y _ 5 S12.out.sv HE.out (by decide)).mono ?_; rintro e w5 ⟨rfl, h5⟩))
        go_ret
        exact ⟨rfl, bel_alloc (bel_step HB.out h5) _⟩

/-- the whole law -/
theorem once_all (v : Value) (h nx : Int) (O : List (Int × Int)) (I : List Int) (x y a q x2 y2 : Int) (w : World) (hs : SV w v h nx O I) :
    Calls Try.prog 5 #[v, .agg #[.int .i64 x, .int .i64 y], .int .i64 a, .int .i64 q, .agg #[.int .i64 x2, .int .i64 y2]] w fun e w' => e = .returned (.bool true) ∧ Below w.heap.size w w' := by
  cases hf : fewB O I
  · exact once_no v h nx O I x y a q x2 y2 w hs (.inl hf)
  · cases hv : vB h nx O I
    · exact once_no v h nx O I x y a q x2 y2 w hs (.inr hv)
    · by_cases hr : rE h nx O I x y = 0
      · exact once_ok v h nx O I x y a q x2 y2 w hs hf hv hr
      · exact once_ref v h nx O I x y a q x2 y2 w hs hf hv hr
end Go.Proofs.Yteeohndgkfilaaa
