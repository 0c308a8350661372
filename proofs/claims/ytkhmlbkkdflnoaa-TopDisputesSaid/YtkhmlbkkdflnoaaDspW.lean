/-
  THE WALK over TopDisputes.
-/
import Derived.Test.YtkhmlbkkdflnoaaDsp
import Derived.Test.YtkhmlbkkdflnoaaWalks
import Derived.Test.YtkhmlbkkdflnoaaApnd
namespace Go.Proofs.Ytkhmlbkkdflnoaa.Ch
open Go.RowKit
open Mt (TK)
set_option linter.unusedVariables false
set_option linter.unusedSimpArgs false
attribute [local go_sem ↓] Go.wp_at_zero Go.wp_at_succ

theorem bv_w64 (n : Int) : bv (wrap64 n) = bv n := by rw [← IntWalk.i64_left]; exact bv_i64 n
set_option maxRecDepth 100000 in
set_option maxHeartbeats 8000000 in
theorem disp_all (seed : Int) (A : Option Addr) (n c : Nat) (f g : Nat → Int) (wh it at_ by_ : Nat) (w : World)
    (hT : TK w A n f g) (hn : n ≤ 9223372036854775807) (hwh : wh ≤ 255) (hit : it ≤ 255) (hat : at_ ≤ 255) (hby : by_ ≤ 255) :
    Calls Try.prog 5 #[.int .u64 seed, .slice A n c, .int .u8 (wh : Int), .int .u8 (it : Int), .int .u8 (at_ : Int), .int .u8 (by_ : Int)] w fun x w' => x = .returned (.bool true) ∧ Below w.heap.size w w' := by
  have HT := Lib.hid hT
  clear hT
  obtain ⟨r0, hr, hr0, hr1, hr2⟩ := info_parts infoRd
  have HJ := Lib.hid hr
  have HY0 := Lib.hid hr0
  have HY1 := Lib.hid hr1
  have HY2 := Lib.hid hr2
  go_enter Try.func5, Try.ntmps5
  go_upto_region 2 with (first
    | (go_at_call 14; with_reducible refine (Rc.settled_ok _).mono ?_; rintro x1 w1 ⟨rfl, h1⟩))
  have H1 := Lib.hid h1
  clear h1
  by_cases hbig : 59 < n
  · go_wp2_with fail
    all_goals (try (exfalso; omega))
    go_ret
    exact ⟨rfl, H1.out⟩
  by_cases hz : by_ = 0
  · subst hz
    go_wp2_with fail
    all_goals (try (exfalso; omega))
    go_ret
    exact ⟨rfl, H1.out⟩
  have hmk : ∀ W : World, (Instr.makeSlice 29 (.int .i64 0) (.int .i64 ((n : Int) + 1))).run Try.prog W = .ok (.slice (some ⟨W.heap.size, 0, none⟩) 0 (n + 1)) (W.alloc (.cells (madeCells (rdV0).cells ((n + 1) * 5)) 58)) := fun W => by
    have := run_make_rowN (P := Try.prog) 29 58 r0 _ Try.underlying29 hr hr0 .i64 .i64 0 (n + 1) (by omega) (by rw [hr2]; omega) (by omega) W
    rw [hr1] at this
    exact this
  obtain ⟨mc, hmc⟩ : ∃ mc, madeCells (rdV0).cells ((n + 1) * 5) = mc := ⟨_, rfl⟩
  have HMC : Hid (mc.size = (n + 1) * 5) := Lib.hid (by rw [← hmc]; simp [madeCells])
  rw [hmc] at hmk
  clear hmc hr hr0 hr1 hr2
  have hb1 : 1 ≤ by_ ∧ by_ ≤ 255 := by omega
  have hn2 : n ≤ 59 := by omega
  clear hz hbig hn
  go_upto_region 5 with (first
    | (go_at_call 15; with_reducible refine (chain_ok seed A n c f g _ (HT.out.keep H1.out) hn2).mono ?_; rintro x2 w2 ⟨b2, cap2, rfl, hr2, hc2, hg2, hb2⟩))
  all_goals (try (exfalso; omega))
  have H2 := Lib.hid (bel_step H1.out hb2)
  have HR2 := Lib.hid hr2
  clear hr2 hb2 hg2
  obtain ⟨k, hk⟩ : ∃ k, wh % (n + 1) = k := ⟨_, rfl⟩
  have hkn : k < n + 1 := by rw [← hk]; exact Nat.mod_lt _ (by omega)
  have u1 : IntKind.i64.wrap (wh : Int) = (wh : Int) := IntWalk.i64_in _ (by omega)
  have u2 : (wh : Int).tmod ((n : Int) + 1) = (k : Int) := by
    rw [Int.tmod_eq_emod_of_nonneg (by omega), ← hk]
    norm_cast
  have u3 : IntKind.i64.wrap (k : Int) = (k : Int) := IntWalk.i64_in _ (by omega)
  clear hk
  go_upto_region 8 with (fail)
  all_goals (try (exfalso; omega))
  clear u1 u2 u3
  have HR3 := Lib.hid (HR2.out.keep (bel_a w2 (.cells mc 58)))
  go_upto_region 9 with (at_builtin; refine wpList_append_lies _ rfl (.tmp 52) (.tmp 53) 29 rfl w2.heap.size 58 r0 _ 5 40 Try.underlying29 HJ.out HY0.out HY1.out HY2.out rfl (by omega) (.slice (some ⟨w2.heap.size, 0, none⟩) 0 (n + 1)) 0 [] rfl (own_at0 (heap_alloc_new w2 _) (Nat.le_refl _) (by unfold maxLen; omega) HMC.out) ⟨b2, 0, none⟩ (n + 1) cap2 (rds (rws seed 1 (cum f) (cum g) n) (n + 1)) rfl (rds_len _ _) (RG_news HR3.out) (rds_one _ _) (by omega) (by unfold maxLen; omega) (by omega) (by simp) (w2.heap.size + 1) (by simp) ?_; intro g3 cap3 w3 hown3 hgrow3 hat3 hlt3)
  rw [Nat.zero_add, List.nil_append] at hown3
  have hb3 : Below w2.heap.size w2 w3 := (bel_a w2 _).grown hgrow3 (bel_a w2 _).size (row_ge (Nat.le_refl _))
  have H3 := Lib.hid (bel_step H2.out hb3)
  have HR4 := Lib.hid (HR2.out.keep hb3)
  have HOW := Lib.hid hown3
  have hs23 := H2.out.size
  have hg3 := (hown3.lt g3 rfl).1
  have HB23 := Lib.hid hb3
  clear hown3 hgrow3 hat3 hb3 HR3
  obtain ⟨s, hs⟩ : ∃ s, at_ % 8 = s := ⟨_, rfl⟩
  have hs7 : s ≤ 7 := by omega
  have u1 : IntKind.u64.wrap (by_ : Int) = (by_ : Int) := IntWalk.u64_in _ (by omega)
  have u2 : (at_ : Int).tmod 8 = (s : Int) := by
    rw [Int.tmod_eq_emod_of_nonneg (by omega), ← hs]
    norm_cast
  have u3 : IntKind.u8.wrap (s : Int) = (s : Int) := IntWalk.u8_in _ (by omega)
  have u4 : IntKind.u8.wrap (8 * (s : Int)) = 8 * (s : Int) := IntWalk.u8_in _ (by omega)
  obtain ⟨j, hj⟩ : ∃ j, it % 5 = j := ⟨_, rfl⟩
  have hj4 : j ≤ 4 := by omega
  have u5 : (it : Int).tmod 5 = (j : Int) := by
    rw [Int.tmod_eq_emod_of_nonneg (by omega), ← hj]
    norm_cast
  have u6 : IntKind.u8.wrap (j : Int) = (j : Int) := IntWalk.u8_in _ (by omega)
  clear hs hj
  go_upto_region 10 with (fail)
  all_goals (try (exfalso; omega))
  clear u1 u2 u3 u4
  obtain ⟨Z, hZ⟩ : ∃ Z, IntKind.u64.wrap ((by_ : Int) * 2 ^ (8 * s)) = Z := ⟨_, rfl⟩
  have hbz : bv Z = BitVec.ofNat 64 (by_ * 2 ^ (8 * s)) := by
    rw [← hZ, bv_u64]
    have : ((by_ : Int) * 2 ^ (8 * s)) = ((by_ * 2 ^ (8 * s) : Nat) : Int) := by
      rw [Int.natCast_mul, Int.natCast_pow]
      rfl
    rw [this]
    exact BitVec.ofInt_natCast 64 _
  rw [hZ]
  have HZ := Lib.hid hbz
  clear hbz hZ
  have hX := rws_ok (seed := seed) (cum_sq (f := f) (g := g) hn2 (fun i hi => by obtain ⟨_, _, _, _, _, _, h, _⟩ := HT.out i hi; exact h) (fun i hi => by obtain ⟨_, _, _, _, _, _, _, h⟩ := HT.out i hi; exact h)) (by omega) (Nat.le_refl n)
  obtain ⟨X, hXe⟩ : ∃ X, rws seed 1 (cum f) (cum g) n = X := ⟨_, rfl⟩
  rw [hXe] at hX HR2 HR4 HOW
  have HX := Lib.hid hX
  clear hX hXe
  rcases (by omega : j = 0 ∨ j = 1 ∨ j = 2 ∨ j = 3 ∨ j = 4) with rfl | rfl | rfl | rfl | rfl
  · have hv : bv (bits BinOp.xor IntKind.i64 (X k 0) (wrap64 Z)) = bv (X k 0) ^^^ BitVec.ofNat 64 (by_ * 2 ^ (8 * s)) := by rw [bv_xor_i64, bv_w64, HZ.out]
    obtain ⟨v, hve⟩ : ∃ v, (bits BinOp.xor IntKind.i64 (X k 0) (wrap64 Z)) = v := ⟨_, rfl⟩
    rw [hve] at hv
    obtain ⟨hset, hth, hce⟩ := RG_set (v := v) HOW.out hkn (f := 0) (by omega)
    simp only [rcv, Nat.add_zero, if_true, Nat.reduceEqDiff, if_false] at hset hth hce
    have HST := Lib.hid hset
    have HEQ := Lib.hid (setN_eq5 (X := X) (k := k) (f := 0) (by omega) hb1 hs7 hv)
    have HCN := Lib.hid (chk_new (X := X) (f := 0) hkn (by omega) hb1 hs7 HX.out hv)
    clear hset hv
    go_upto_region 21 with (fail)
    all_goals (try (exfalso; omega))
    have HB24 := Lib.hid (HB23.out.setCell (p := ⟨g3, k * 5, none⟩) hg3 (.int .i64 v))
    obtain ⟨w4, hw4⟩ : ∃ w4, w3.setCell ⟨g3, k * 5, none⟩ (.int .i64 v) = w4 := ⟨_, rfl⟩
    rw [hw4] at HST HB24 ⊢
    have HL4 := Lib.hid (HR2.out.keep HB24.out)
    have H4 := Lib.hid (bel_step H2.out HB24.out)
    obtain ⟨Y, hY⟩ : ∃ Y, setN X k 0 v = Y := ⟨_, rfl⟩
    rw [hY] at HST HEQ HCN
    have HYX : Hid (∀ i, i < k → X i = Y i) := Lib.hid fun i hi => by rw [← hY, setN_row (by omega)]
    clear hw4 hY hve hth hce
    go_upto_region 22 with (first
      | (go_at_call 19; with_reducible refine (disp_any _ _ (n + 1) (n + 1) cap2 cap3 X Y w4 (by omega) (by omega) HL4.out HST.out).mono ?_; rintro x6 w6 ⟨rfl, h6⟩
         rw [(dis_at hkn hkn HEQ.out.1 HEQ.out.2).1, (dis_at hkn hkn HEQ.out.1 HEQ.out.2).2]))
    have H6 := Lib.hid (bel_step H4.out h6)
    have HL6 := Lib.hid (HL4.out.keep h6)
    have HC6 := Lib.hid (HST.out.keep h6)
    clear h6
    have HK1 : Hid (∀ W, Below w6.heap.size w6 W → Calls Try.prog 13 #[.int .u64 seed, .slice (some ⟨g3, 0, none⟩) (n + 1) cap3] W fun e w' => e = .returned (.int .i64 (k : Int)) ∧ Below w6.heap.size w6 w') := Lib.hid fun W hW => by
      have h0 := check_any seed (some ⟨g3, 0, none⟩) (n + 1) cap3 Y W (by omega) (HC6.out.keep hW)
      rw [HCN.out.1] at h0
      exact h0.mono fun e w' hh => ⟨hh.1, bel_step hW hh.2⟩
    have HK2 : Hid (∀ W, Below w6.heap.size w6 W → Calls Try.prog 13 #[.int .u64 seed, .slice (some ⟨g3, 0, none⟩) k cap3] W fun e w' => e = .returned (.int .i64 (-1)) ∧ Below w6.heap.size w6 w') := Lib.hid fun W hW => by
      have h0 := check_any seed (some ⟨g3, 0, none⟩) k cap3 Y W (by omega) ((RG.take (k := k) HC6.out (by omega)).keep hW)
      rw [HCN.out.2] at h0
      exact h0.mono fun e w' hh => ⟨hh.1, bel_step hW hh.2⟩
    have HK3 : Hid (∀ W, Below w6.heap.size w6 W → Calls Try.prog 20 #[.slice (some ⟨b2, 0, none⟩) k cap2, .slice (some ⟨g3, 0, none⟩) k cap3] W fun e w' => e = .returned (.bool true) ∧ Below w6.heap.size w6 w') := Lib.hid fun W hW =>
      (same40_yes (some ⟨b2, 0, none⟩) (some ⟨g3, 0, none⟩) k cap2 cap3 Y W (by omega) ((RG.congr (RG.take (k := k) HL6.out (by omega)) HYX.out).keep hW) ((RG.take (k := k) HC6.out (by omega)).keep hW)).mono fun e w' hh => ⟨hh.1, bel_step hW hh.2⟩
    have hcc := own_cap HOW.out
    have kc2 : (k : Int) ≤ (cap2 : Int) := by omega
    have kc3 : (k : Int) ≤ (cap3 : Int) := by omega
    have k0 : (0 : Int) ≤ (k : Int) := by omega
    have kn : (k : Int) ≤ (n : Int) + 1 := by omega
    refine wp_region_cls (fun w9 => Below w6.heap.size w6 w9) (by kernel_rfl) (by kernel_rfl) (below_drewN (Below.refl _ _) 1) ?_
    repeat (first
      | go_big_quiet_skip
      | (go_big_quiet_want; first
        | (go_big_quiet_op; go_big_quiet_on)
        | (refine quiet_of_run (.bool true) ?_ ?_; (focus (intro w9 h9; go_simp; done)); go_simp; go_big_quiet_on)
        | (refine quiet_of_run (.int .i64 (k : Int)) ?_ ?_; (focus (intro w9 h9; go_simp; done)); go_simp; go_big_quiet_on)
        | (refine quiet_of_run (.int .i64 (-1)) ?_ ?_; (focus (intro w9 h9; go_simp; done)); go_simp; go_big_quiet_on)
        | (refine quiet_of_run (.int .i64 0) ?_ ?_; (focus (intro w9 h9; go_simp; done)); go_simp; go_big_quiet_on)
        | (refine quiet_of_run (.int .u64 seed) ?_ ?_; (focus (intro w9 h9; go_simp; done)); go_simp; go_big_quiet_on)
        | (refine quiet_of_run (.slice (some ⟨b2, 0, none⟩) (n + 1) cap2) ?_ ?_; (focus (intro w9 h9; go_simp; done)); go_simp; go_big_quiet_on)
        | (refine quiet_of_run (.slice (some ⟨g3, 0, none⟩) (n + 1) cap3) ?_ ?_; (focus (intro w9 h9; go_simp; done)); go_simp; go_big_quiet_on)
        | (refine quiet_of_run (.slice (some ⟨b2, 0, none⟩) k cap2) ?_ ?_; (focus (intro w9 h9; go_simp; done)); go_simp; go_big_quiet_on)
        | (refine quiet_of_run (.slice (some ⟨g3, 0, none⟩) k cap3) ?_ ?_; (focus (intro w9 h9; go_simp; done)); go_simp; go_big_quiet_on)
        | (refine quiet_of_call 13 #[.int .u64 seed, .slice (some ⟨g3, 0, none⟩) (n + 1) cap3] _ ?_ HK1.out ?_; (focus (intro w9 h9; go_simp; done)); go_simp; go_big_quiet_on)
        | (refine quiet_of_call 13 #[.int .u64 seed, .slice (some ⟨g3, 0, none⟩) k cap3] _ ?_ HK2.out ?_; (focus (intro w9 h9; go_simp; done)); go_simp; go_big_quiet_on)
        | (refine quiet_of_call 20 #[.slice (some ⟨b2, 0, none⟩) k cap2, .slice (some ⟨g3, 0, none⟩) k cap3] _ ?_ HK3.out ?_; (focus (intro w9 h9; go_simp; done)); go_simp; go_big_quiet_on)))
    refine wpQuiet_nil ?_
    intro w7 h7
    go_wp2
    go_ret
    exact ⟨rfl, bel_step H6.out h7⟩
  · have hv : bv (bits BinOp.xor IntKind.i64 (X k 1) (wrap64 Z)) = bv (X k 1) ^^^ BitVec.ofNat 64 (by_ * 2 ^ (8 * s)) := by rw [bv_xor_i64, bv_w64, HZ.out]
    obtain ⟨v, hve⟩ : ∃ v, (bits BinOp.xor IntKind.i64 (X k 1) (wrap64 Z)) = v := ⟨_, rfl⟩
    rw [hve] at hv
    obtain ⟨hset, hth, hce⟩ := RG_set (v := v) HOW.out hkn (f := 1) (by omega)
    simp only [rcv, Nat.add_zero, if_true, Nat.reduceEqDiff, if_false] at hset hth hce
    have HST := Lib.hid hset
    have HEQ := Lib.hid (setN_eq5 (X := X) (k := k) (f := 1) (by omega) hb1 hs7 hv)
    have HCN := Lib.hid (chk_new (X := X) (f := 1) hkn (by omega) hb1 hs7 HX.out hv)
    clear hset hv
    go_upto_region 21 with (fail)
    all_goals (try (exfalso; omega))
    have HB24 := Lib.hid (HB23.out.setCell (p := ⟨g3, k * 5 + 1, none⟩) hg3 (.int .i64 v))
    obtain ⟨w4, hw4⟩ : ∃ w4, w3.setCell ⟨g3, k * 5 + 1, none⟩ (.int .i64 v) = w4 := ⟨_, rfl⟩
    rw [hw4] at HST HB24 ⊢
    have HL4 := Lib.hid (HR2.out.keep HB24.out)
    have H4 := Lib.hid (bel_step H2.out HB24.out)
    obtain ⟨Y, hY⟩ : ∃ Y, setN X k 1 v = Y := ⟨_, rfl⟩
    rw [hY] at HST HEQ HCN
    have HYX : Hid (∀ i, i < k → X i = Y i) := Lib.hid fun i hi => by rw [← hY, setN_row (by omega)]
    clear hw4 hY hve hth hce
    go_upto_region 22 with (first
      | (go_at_call 19; with_reducible refine (disp_any _ _ (n + 1) (n + 1) cap2 cap3 X Y w4 (by omega) (by omega) HL4.out HST.out).mono ?_; rintro x6 w6 ⟨rfl, h6⟩
         rw [(dis_at hkn hkn HEQ.out.1 HEQ.out.2).1, (dis_at hkn hkn HEQ.out.1 HEQ.out.2).2]))
    have H6 := Lib.hid (bel_step H4.out h6)
    have HL6 := Lib.hid (HL4.out.keep h6)
    have HC6 := Lib.hid (HST.out.keep h6)
    clear h6
    have HK1 : Hid (∀ W, Below w6.heap.size w6 W → Calls Try.prog 13 #[.int .u64 seed, .slice (some ⟨g3, 0, none⟩) (n + 1) cap3] W fun e w' => e = .returned (.int .i64 (k : Int)) ∧ Below w6.heap.size w6 w') := Lib.hid fun W hW => by
      have h0 := check_any seed (some ⟨g3, 0, none⟩) (n + 1) cap3 Y W (by omega) (HC6.out.keep hW)
      rw [HCN.out.1] at h0
      exact h0.mono fun e w' hh => ⟨hh.1, bel_step hW hh.2⟩
    have HK2 : Hid (∀ W, Below w6.heap.size w6 W → Calls Try.prog 13 #[.int .u64 seed, .slice (some ⟨g3, 0, none⟩) k cap3] W fun e w' => e = .returned (.int .i64 (-1)) ∧ Below w6.heap.size w6 w') := Lib.hid fun W hW => by
      have h0 := check_any seed (some ⟨g3, 0, none⟩) k cap3 Y W (by omega) ((RG.take (k := k) HC6.out (by omega)).keep hW)
      rw [HCN.out.2] at h0
      exact h0.mono fun e w' hh => ⟨hh.1, bel_step hW hh.2⟩
    have HK3 : Hid (∀ W, Below w6.heap.size w6 W → Calls Try.prog 20 #[.slice (some ⟨b2, 0, none⟩) k cap2, .slice (some ⟨g3, 0, none⟩) k cap3] W fun e w' => e = .returned (.bool true) ∧ Below w6.heap.size w6 w') := Lib.hid fun W hW =>
      (same40_yes (some ⟨b2, 0, none⟩) (some ⟨g3, 0, none⟩) k cap2 cap3 Y W (by omega) ((RG.congr (RG.take (k := k) HL6.out (by omega)) HYX.out).keep hW) ((RG.take (k := k) HC6.out (by omega)).keep hW)).mono fun e w' hh => ⟨hh.1, bel_step hW hh.2⟩
    have hcc := own_cap HOW.out
    have kc2 : (k : Int) ≤ (cap2 : Int) := by omega
    have kc3 : (k : Int) ≤ (cap3 : Int) := by omega
    have k0 : (0 : Int) ≤ (k : Int) := by omega
    have kn : (k : Int) ≤ (n : Int) + 1 := by omega
    refine wp_region_cls (fun w9 => Below w6.heap.size w6 w9) (by kernel_rfl) (by kernel_rfl) (below_drewN (Below.refl _ _) 1) ?_
    repeat (first
      | go_big_quiet_skip
      | (go_big_quiet_want; first
        | (go_big_quiet_op; go_big_quiet_on)
        | (refine quiet_of_run (.bool true) ?_ ?_; (focus (intro w9 h9; go_simp; done)); go_simp; go_big_quiet_on)
        | (refine quiet_of_run (.int .i64 (k : Int)) ?_ ?_; (focus (intro w9 h9; go_simp; done)); go_simp; go_big_quiet_on)
        | (refine quiet_of_run (.int .i64 (-1)) ?_ ?_; (focus (intro w9 h9; go_simp; done)); go_simp; go_big_quiet_on)
        | (refine quiet_of_run (.int .i64 0) ?_ ?_; (focus (intro w9 h9; go_simp; done)); go_simp; go_big_quiet_on)
        | (refine quiet_of_run (.int .u64 seed) ?_ ?_; (focus (intro w9 h9; go_simp; done)); go_simp; go_big_quiet_on)
        | (refine quiet_of_run (.slice (some ⟨b2, 0, none⟩) (n + 1) cap2) ?_ ?_; (focus (intro w9 h9; go_simp; done)); go_simp; go_big_quiet_on)
        | (refine quiet_of_run (.slice (some ⟨g3, 0, none⟩) (n + 1) cap3) ?_ ?_; (focus (intro w9 h9; go_simp; done)); go_simp; go_big_quiet_on)
        | (refine quiet_of_run (.slice (some ⟨b2, 0, none⟩) k cap2) ?_ ?_; (focus (intro w9 h9; go_simp; done)); go_simp; go_big_quiet_on)
        | (refine quiet_of_run (.slice (some ⟨g3, 0, none⟩) k cap3) ?_ ?_; (focus (intro w9 h9; go_simp; done)); go_simp; go_big_quiet_on)
        | (refine quiet_of_call 13 #[.int .u64 seed, .slice (some ⟨g3, 0, none⟩) (n + 1) cap3] _ ?_ HK1.out ?_; (focus (intro w9 h9; go_simp; done)); go_simp; go_big_quiet_on)
        | (refine quiet_of_call 13 #[.int .u64 seed, .slice (some ⟨g3, 0, none⟩) k cap3] _ ?_ HK2.out ?_; (focus (intro w9 h9; go_simp; done)); go_simp; go_big_quiet_on)
        | (refine quiet_of_call 20 #[.slice (some ⟨b2, 0, none⟩) k cap2, .slice (some ⟨g3, 0, none⟩) k cap3] _ ?_ HK3.out ?_; (focus (intro w9 h9; go_simp; done)); go_simp; go_big_quiet_on)))
    refine wpQuiet_nil ?_
    intro w7 h7
    go_wp2
    go_ret
    exact ⟨rfl, bel_step H6.out h7⟩
  · have hv : bv (bits BinOp.xor IntKind.i64 (X k 2) (wrap64 Z)) = bv (X k 2) ^^^ BitVec.ofNat 64 (by_ * 2 ^ (8 * s)) := by rw [bv_xor_i64, bv_w64, HZ.out]
    obtain ⟨v, hve⟩ : ∃ v, (bits BinOp.xor IntKind.i64 (X k 2) (wrap64 Z)) = v := ⟨_, rfl⟩
    rw [hve] at hv
    obtain ⟨hset, hth, hce⟩ := RG_set (v := v) HOW.out hkn (f := 2) (by omega)
    simp only [rcv, Nat.add_zero, if_true, Nat.reduceEqDiff, if_false] at hset hth hce
    have HST := Lib.hid hset
    have HEQ := Lib.hid (setN_eq5 (X := X) (k := k) (f := 2) (by omega) hb1 hs7 hv)
    have HCN := Lib.hid (chk_new (X := X) (f := 2) hkn (by omega) hb1 hs7 HX.out hv)
    clear hset hv
    go_upto_region 21 with (fail)
    all_goals (try (exfalso; omega))
    have HB24 := Lib.hid (HB23.out.setCell (p := ⟨g3, k * 5 + 2, none⟩) hg3 (.int .i64 v))
    obtain ⟨w4, hw4⟩ : ∃ w4, w3.setCell ⟨g3, k * 5 + 2, none⟩ (.int .i64 v) = w4 := ⟨_, rfl⟩
    rw [hw4] at HST HB24 ⊢
    have HL4 := Lib.hid (HR2.out.keep HB24.out)
    have H4 := Lib.hid (bel_step H2.out HB24.out)
    obtain ⟨Y, hY⟩ : ∃ Y, setN X k 2 v = Y := ⟨_, rfl⟩
    rw [hY] at HST HEQ HCN
    have HYX : Hid (∀ i, i < k → X i = Y i) := Lib.hid fun i hi => by rw [← hY, setN_row (by omega)]
    clear hw4 hY hve hth hce
    go_upto_region 22 with (first
      | (go_at_call 19; with_reducible refine (disp_any _ _ (n + 1) (n + 1) cap2 cap3 X Y w4 (by omega) (by omega) HL4.out HST.out).mono ?_; rintro x6 w6 ⟨rfl, h6⟩
         rw [(dis_at hkn hkn HEQ.out.1 HEQ.out.2).1, (dis_at hkn hkn HEQ.out.1 HEQ.out.2).2]))
    have H6 := Lib.hid (bel_step H4.out h6)
    have HL6 := Lib.hid (HL4.out.keep h6)
    have HC6 := Lib.hid (HST.out.keep h6)
    clear h6
    have HK1 : Hid (∀ W, Below w6.heap.size w6 W → Calls Try.prog 13 #[.int .u64 seed, .slice (some ⟨g3, 0, none⟩) (n + 1) cap3] W fun e w' => e = .returned (.int .i64 (k : Int)) ∧ Below w6.heap.size w6 w') := Lib.hid fun W hW => by
      have h0 := check_any seed (some ⟨g3, 0, none⟩) (n + 1) cap3 Y W (by omega) (HC6.out.keep hW)
      rw [HCN.out.1] at h0
      exact h0.mono fun e w' hh => ⟨hh.1, bel_step hW hh.2⟩
    have HK2 : Hid (∀ W, Below w6.heap.size w6 W → Calls Try.prog 13 #[.int .u64 seed, .slice (some ⟨g3, 0, none⟩) k cap3] W fun e w' => e = .returned (.int .i64 (-1)) ∧ Below w6.heap.size w6 w') := Lib.hid fun W hW => by
      have h0 := check_any seed (some ⟨g3, 0, none⟩) k cap3 Y W (by omega) ((RG.take (k := k) HC6.out (by omega)).keep hW)
      rw [HCN.out.2] at h0
      exact h0.mono fun e w' hh => ⟨hh.1, bel_step hW hh.2⟩
    have HK3 : Hid (∀ W, Below w6.heap.size w6 W → Calls Try.prog 20 #[.slice (some ⟨b2, 0, none⟩) k cap2, .slice (some ⟨g3, 0, none⟩) k cap3] W fun e w' => e = .returned (.bool true) ∧ Below w6.heap.size w6 w') := Lib.hid fun W hW =>
      (same40_yes (some ⟨b2, 0, none⟩) (some ⟨g3, 0, none⟩) k cap2 cap3 Y W (by omega) ((RG.congr (RG.take (k := k) HL6.out (by omega)) HYX.out).keep hW) ((RG.take (k := k) HC6.out (by omega)).keep hW)).mono fun e w' hh => ⟨hh.1, bel_step hW hh.2⟩
    have hcc := own_cap HOW.out
    have kc2 : (k : Int) ≤ (cap2 : Int) := by omega
    have kc3 : (k : Int) ≤ (cap3 : Int) := by omega
    have k0 : (0 : Int) ≤ (k : Int) := by omega
    have kn : (k : Int) ≤ (n : Int) + 1 := by omega
    refine wp_region_cls (fun w9 => Below w6.heap.size w6 w9) (by kernel_rfl) (by kernel_rfl) (below_drewN (Below.refl _ _) 1) ?_
    repeat (first
      | go_big_quiet_skip
      | (go_big_quiet_want; first
        | (go_big_quiet_op; go_big_quiet_on)
        | (refine quiet_of_run (.bool true) ?_ ?_; (focus (intro w9 h9; go_simp; done)); go_simp; go_big_quiet_on)
        | (refine quiet_of_run (.int .i64 (k : Int)) ?_ ?_; (focus (intro w9 h9; go_simp; done)); go_simp; go_big_quiet_on)
        | (refine quiet_of_run (.int .i64 (-1)) ?_ ?_; (focus (intro w9 h9; go_simp; done)); go_simp; go_big_quiet_on)
        | (refine quiet_of_run (.int .i64 0) ?_ ?_; (focus (intro w9 h9; go_simp; done)); go_simp; go_big_quiet_on)
        | (refine quiet_of_run (.int .u64 seed) ?_ ?_; (focus (intro w9 h9; go_simp; done)); go_simp; go_big_quiet_on)
        | (refine quiet_of_run (.slice (some ⟨b2, 0, none⟩) (n + 1) cap2) ?_ ?_; (focus (intro w9 h9; go_simp; done)); go_simp; go_big_quiet_on)
        | (refine quiet_of_run (.slice (some ⟨g3, 0, none⟩) (n + 1) cap3) ?_ ?_; (focus (intro w9 h9; go_simp; done)); go_simp; go_big_quiet_on)
        | (refine quiet_of_run (.slice (some ⟨b2, 0, none⟩) k cap2) ?_ ?_; (focus (intro w9 h9; go_simp; done)); go_simp; go_big_quiet_on)
        | (refine quiet_of_run (.slice (some ⟨g3, 0, none⟩) k cap3) ?_ ?_; (focus (intro w9 h9; go_simp; done)); go_simp; go_big_quiet_on)
        | (refine quiet_of_call 13 #[.int .u64 seed, .slice (some ⟨g3, 0, none⟩) (n + 1) cap3] _ ?_ HK1.out ?_; (focus (intro w9 h9; go_simp; done)); go_simp; go_big_quiet_on)
        | (refine quiet_of_call 13 #[.int .u64 seed, .slice (some ⟨g3, 0, none⟩) k cap3] _ ?_ HK2.out ?_; (focus (intro w9 h9; go_simp; done)); go_simp; go_big_quiet_on)
        | (refine quiet_of_call 20 #[.slice (some ⟨b2, 0, none⟩) k cap2, .slice (some ⟨g3, 0, none⟩) k cap3] _ ?_ HK3.out ?_; (focus (intro w9 h9; go_simp; done)); go_simp; go_big_quiet_on)))
    refine wpQuiet_nil ?_
    intro w7 h7
    go_wp2
    go_ret
    exact ⟨rfl, bel_step H6.out h7⟩
  · have hv : bv (bits BinOp.xor IntKind.i64 (X k 3) (wrap64 Z)) = bv (X k 3) ^^^ BitVec.ofNat 64 (by_ * 2 ^ (8 * s)) := by rw [bv_xor_i64, bv_w64, HZ.out]
    obtain ⟨v, hve⟩ : ∃ v, (bits BinOp.xor IntKind.i64 (X k 3) (wrap64 Z)) = v := ⟨_, rfl⟩
    rw [hve] at hv
    obtain ⟨hset, hth, hce⟩ := RG_set (v := v) HOW.out hkn (f := 3) (by omega)
    simp only [rcv, Nat.add_zero, if_true, Nat.reduceEqDiff, if_false] at hset hth hce
    have HST := Lib.hid hset
    have HEQ := Lib.hid (setN_eq5 (X := X) (k := k) (f := 3) (by omega) hb1 hs7 hv)
    have HCN := Lib.hid (chk_new (X := X) (f := 3) hkn (by omega) hb1 hs7 HX.out hv)
    clear hset hv
    go_upto_region 21 with (fail)
    all_goals (try (exfalso; omega))
    have HB24 := Lib.hid (HB23.out.setCell (p := ⟨g3, k * 5 + 3, none⟩) hg3 (.int .i64 v))
    obtain ⟨w4, hw4⟩ : ∃ w4, w3.setCell ⟨g3, k * 5 + 3, none⟩ (.int .i64 v) = w4 := ⟨_, rfl⟩
    rw [hw4] at HST HB24 ⊢
    have HL4 := Lib.hid (HR2.out.keep HB24.out)
    have H4 := Lib.hid (bel_step H2.out HB24.out)
    obtain ⟨Y, hY⟩ : ∃ Y, setN X k 3 v = Y := ⟨_, rfl⟩
    rw [hY] at HST HEQ HCN
    have HYX : Hid (∀ i, i < k → X i = Y i) := Lib.hid fun i hi => by rw [← hY, setN_row (by omega)]
    clear hw4 hY hve hth hce
    go_upto_region 22 with (first
      | (go_at_call 19; with_reducible refine (disp_any _ _ (n + 1) (n + 1) cap2 cap3 X Y w4 (by omega) (by omega) HL4.out HST.out).mono ?_; rintro x6 w6 ⟨rfl, h6⟩
         rw [(dis_at hkn hkn HEQ.out.1 HEQ.out.2).1, (dis_at hkn hkn HEQ.out.1 HEQ.out.2).2]))
    have H6 := Lib.hid (bel_step H4.out h6)
    have HL6 := Lib.hid (HL4.out.keep h6)
    have HC6 := Lib.hid (HST.out.keep h6)
    clear h6
    have HK1 : Hid (∀ W, Below w6.heap.size w6 W → Calls Try.prog 13 #[.int .u64 seed, .slice (some ⟨g3, 0, none⟩) (n + 1) cap3] W fun e w' => e = .returned (.int .i64 (k : Int)) ∧ Below w6.heap.size w6 w') := Lib.hid fun W hW => by
      have h0 := check_any seed (some ⟨g3, 0, none⟩) (n + 1) cap3 Y W (by omega) (HC6.out.keep hW)
      rw [HCN.out.1] at h0
      exact h0.mono fun e w' hh => ⟨hh.1, bel_step hW hh.2⟩
    have HK2 : Hid (∀ W, Below w6.heap.size w6 W → Calls Try.prog 13 #[.int .u64 seed, .slice (some ⟨g3, 0, none⟩) k cap3] W fun e w' => e = .returned (.int .i64 (-1)) ∧ Below w6.heap.size w6 w') := Lib.hid fun W hW => by
      have h0 := check_any seed (some ⟨g3, 0, none⟩) k cap3 Y W (by omega) ((RG.take (k := k) HC6.out (by omega)).keep hW)
      rw [HCN.out.2] at h0
      exact h0.mono fun e w' hh => ⟨hh.1, bel_step hW hh.2⟩
    have HK3 : Hid (∀ W, Below w6.heap.size w6 W → Calls Try.prog 20 #[.slice (some ⟨b2, 0, none⟩) k cap2, .slice (some ⟨g3, 0, none⟩) k cap3] W fun e w' => e = .returned (.bool true) ∧ Below w6.heap.size w6 w') := Lib.hid fun W hW =>
      (same40_yes (some ⟨b2, 0, none⟩) (some ⟨g3, 0, none⟩) k cap2 cap3 Y W (by omega) ((RG.congr (RG.take (k := k) HL6.out (by omega)) HYX.out).keep hW) ((RG.take (k := k) HC6.out (by omega)).keep hW)).mono fun e w' hh => ⟨hh.1, bel_step hW hh.2⟩
    have hcc := own_cap HOW.out
    have kc2 : (k : Int) ≤ (cap2 : Int) := by omega
    have kc3 : (k : Int) ≤ (cap3 : Int) := by omega
    have k0 : (0 : Int) ≤ (k : Int) := by omega
    have kn : (k : Int) ≤ (n : Int) + 1 := by omega
    refine wp_region_cls (fun w9 => Below w6.heap.size w6 w9) (by kernel_rfl) (by kernel_rfl) (below_drewN (Below.refl _ _) 1) ?_
    repeat (first
      | go_big_quiet_skip
      | (go_big_quiet_want; first
        | (go_big_quiet_op; go_big_quiet_on)
        | (refine quiet_of_run (.bool true) ?_ ?_; (focus (intro w9 h9; go_simp; done)); go_simp; go_big_quiet_on)
        | (refine quiet_of_run (.int .i64 (k : Int)) ?_ ?_; (focus (intro w9 h9; go_simp; done)); go_simp; go_big_quiet_on)
        | (refine quiet_of_run (.int .i64 (-1)) ?_ ?_; (focus (intro w9 h9; go_simp; done)); go_simp; go_big_quiet_on)
        | (refine quiet_of_run (.int .i64 0) ?_ ?_; (focus (intro w9 h9; go_simp; done)); go_simp; go_big_quiet_on)
        | (refine quiet_of_run (.int .u64 seed) ?_ ?_; (focus (intro w9 h9; go_simp; done)); go_simp; go_big_quiet_on)
        | (refine quiet_of_run (.slice (some ⟨b2, 0, none⟩) (n + 1) cap2) ?_ ?_; (focus (intro w9 h9; go_simp; done)); go_simp; go_big_quiet_on)
        | (refine quiet_of_run (.slice (some ⟨g3, 0, none⟩) (n + 1) cap3) ?_ ?_; (focus (intro w9 h9; go_simp; done)); go_simp; go_big_quiet_on)
        | (refine quiet_of_run (.slice (some ⟨b2, 0, none⟩) k cap2) ?_ ?_; (focus (intro w9 h9; go_simp; done)); go_simp; go_big_quiet_on)
        | (refine quiet_of_run (.slice (some ⟨g3, 0, none⟩) k cap3) ?_ ?_; (focus (intro w9 h9; go_simp; done)); go_simp; go_big_quiet_on)
        | (refine quiet_of_call 13 #[.int .u64 seed, .slice (some ⟨g3, 0, none⟩) (n + 1) cap3] _ ?_ HK1.out ?_; (focus (intro w9 h9; go_simp; done)); go_simp; go_big_quiet_on)
        | (refine quiet_of_call 13 #[.int .u64 seed, .slice (some ⟨g3, 0, none⟩) k cap3] _ ?_ HK2.out ?_; (focus (intro w9 h9; go_simp; done)); go_simp; go_big_quiet_on)
        | (refine quiet_of_call 20 #[.slice (some ⟨b2, 0, none⟩) k cap2, .slice (some ⟨g3, 0, none⟩) k cap3] _ ?_ HK3.out ?_; (focus (intro w9 h9; go_simp; done)); go_simp; go_big_quiet_on)))
    refine wpQuiet_nil ?_
    intro w7 h7
    go_wp2
    go_ret
    exact ⟨rfl, bel_step H6.out h7⟩
  · have hv : bv (bits BinOp.xor IntKind.u64 (X k 4) Z) = bv (X k 4) ^^^ BitVec.ofNat 64 (by_ * 2 ^ (8 * s)) := by rw [bv_xor_u64, HZ.out]
    obtain ⟨v, hve⟩ : ∃ v, (bits BinOp.xor IntKind.u64 (X k 4) Z) = v := ⟨_, rfl⟩
    rw [hve] at hv
    obtain ⟨hset, hth, hce⟩ := RG_set (v := v) HOW.out hkn (f := 4) (by omega)
    simp only [rcv, Nat.add_zero, if_true, Nat.reduceEqDiff, if_false] at hset hth hce
    have HST := Lib.hid hset
    have HEQ := Lib.hid (setN_eq5 (X := X) (k := k) (f := 4) (by omega) hb1 hs7 hv)
    have HCN := Lib.hid (chk_new (X := X) (f := 4) hkn (by omega) hb1 hs7 HX.out hv)
    clear hset hv
    go_upto_region 21 with (fail)
    all_goals (try (exfalso; omega))
    have HB24 := Lib.hid (HB23.out.setCell (p := ⟨g3, k * 5 + 4, none⟩) hg3 (.int .u64 v))
    obtain ⟨w4, hw4⟩ : ∃ w4, w3.setCell ⟨g3, k * 5 + 4, none⟩ (.int .u64 v) = w4 := ⟨_, rfl⟩
    rw [hw4] at HST HB24 ⊢
    have HL4 := Lib.hid (HR2.out.keep HB24.out)
    have H4 := Lib.hid (bel_step H2.out HB24.out)
    obtain ⟨Y, hY⟩ : ∃ Y, setN X k 4 v = Y := ⟨_, rfl⟩
    rw [hY] at HST HEQ HCN
    have HYX : Hid (∀ i, i < k → X i = Y i) := Lib.hid fun i hi => by rw [← hY, setN_row (by omega)]
    clear hw4 hY hve hth hce
    go_upto_region 22 with (first
      | (go_at_call 19; with_reducible refine (disp_any _ _ (n + 1) (n + 1) cap2 cap3 X Y w4 (by omega) (by omega) HL4.out HST.out).mono ?_; rintro x6 w6 ⟨rfl, h6⟩
         rw [(dis_at hkn hkn HEQ.out.1 HEQ.out.2).1, (dis_at hkn hkn HEQ.out.1 HEQ.out.2).2]))
    have H6 := Lib.hid (bel_step H4.out h6)
    have HL6 := Lib.hid (HL4.out.keep h6)
    have HC6 := Lib.hid (HST.out.keep h6)
    clear h6
    have HK1 : Hid (∀ W, Below w6.heap.size w6 W → Calls Try.prog 13 #[.int .u64 seed, .slice (some ⟨g3, 0, none⟩) (n + 1) cap3] W fun e w' => e = .returned (.int .i64 (k : Int)) ∧ Below w6.heap.size w6 w') := Lib.hid fun W hW => by
      have h0 := check_any seed (some ⟨g3, 0, none⟩) (n + 1) cap3 Y W (by omega) (HC6.out.keep hW)
      rw [HCN.out.1] at h0
      exact h0.mono fun e w' hh => ⟨hh.1, bel_step hW hh.2⟩
    have HK2 : Hid (∀ W, Below w6.heap.size w6 W → Calls Try.prog 13 #[.int .u64 seed, .slice (some ⟨g3, 0, none⟩) k cap3] W fun e w' => e = .returned (.int .i64 (-1)) ∧ Below w6.heap.size w6 w') := Lib.hid fun W hW => by
      have h0 := check_any seed (some ⟨g3, 0, none⟩) k cap3 Y W (by omega) ((RG.take (k := k) HC6.out (by omega)).keep hW)
      rw [HCN.out.2] at h0
      exact h0.mono fun e w' hh => ⟨hh.1, bel_step hW hh.2⟩
    have HK3 : Hid (∀ W, Below w6.heap.size w6 W → Calls Try.prog 20 #[.slice (some ⟨b2, 0, none⟩) k cap2, .slice (some ⟨g3, 0, none⟩) k cap3] W fun e w' => e = .returned (.bool true) ∧ Below w6.heap.size w6 w') := Lib.hid fun W hW =>
      (same40_yes (some ⟨b2, 0, none⟩) (some ⟨g3, 0, none⟩) k cap2 cap3 Y W (by omega) ((RG.congr (RG.take (k := k) HL6.out (by omega)) HYX.out).keep hW) ((RG.take (k := k) HC6.out (by omega)).keep hW)).mono fun e w' hh => ⟨hh.1, bel_step hW hh.2⟩
    have hcc := own_cap HOW.out
    have kc2 : (k : Int) ≤ (cap2 : Int) := by omega
    have kc3 : (k : Int) ≤ (cap3 : Int) := by omega
    have k0 : (0 : Int) ≤ (k : Int) := by omega
    have kn : (k : Int) ≤ (n : Int) + 1 := by omega
    refine wp_region_cls (fun w9 => Below w6.heap.size w6 w9) (by kernel_rfl) (by kernel_rfl) (below_drewN (Below.refl _ _) 1) ?_
    repeat (first
      | go_big_quiet_skip
      | (go_big_quiet_want; first
        | (go_big_quiet_op; go_big_quiet_on)
        | (refine quiet_of_run (.bool true) ?_ ?_; (focus (intro w9 h9; go_simp; done)); go_simp; go_big_quiet_on)
        | (refine quiet_of_run (.int .i64 (k : Int)) ?_ ?_; (focus (intro w9 h9; go_simp; done)); go_simp; go_big_quiet_on)
        | (refine quiet_of_run (.int .i64 (-1)) ?_ ?_; (focus (intro w9 h9; go_simp; done)); go_simp; go_big_quiet_on)
        | (refine quiet_of_run (.int .i64 0) ?_ ?_; (focus (intro w9 h9; go_simp; done)); go_simp; go_big_quiet_on)
        | (refine quiet_of_run (.int .u64 seed) ?_ ?_; (focus (intro w9 h9; go_simp; done)); go_simp; go_big_quiet_on)
        | (refine quiet_of_run (.slice (some ⟨b2, 0, none⟩) (n + 1) cap2) ?_ ?_; (focus (intro w9 h9; go_simp; done)); go_simp; go_big_quiet_on)
        | (refine quiet_of_run (.slice (some ⟨g3, 0, none⟩) (n + 1) cap3) ?_ ?_; (focus (intro w9 h9; go_simp; done)); go_simp; go_big_quiet_on)
        | (refine quiet_of_run (.slice (some ⟨b2, 0, none⟩) k cap2) ?_ ?_; (focus (intro w9 h9; go_simp; done)); go_simp; go_big_quiet_on)
        | (refine quiet_of_run (.slice (some ⟨g3, 0, none⟩) k cap3) ?_ ?_; (focus (intro w9 h9; go_simp; done)); go_simp; go_big_quiet_on)
        | (refine quiet_of_call 13 #[.int .u64 seed, .slice (some ⟨g3, 0, none⟩) (n + 1) cap3] _ ?_ HK1.out ?_; (focus (intro w9 h9; go_simp; done)); go_simp; go_big_quiet_on)
        | (refine quiet_of_call 13 #[.int .u64 seed, .slice (some ⟨g3, 0, none⟩) k cap3] _ ?_ HK2.out ?_; (focus (intro w9 h9; go_simp; done)); go_simp; go_big_quiet_on)
        | (refine quiet_of_call 20 #[.slice (some ⟨b2, 0, none⟩) k cap2, .slice (some ⟨g3, 0, none⟩) k cap3] _ ?_ HK3.out ?_; (focus (intro w9 h9; go_simp; done)); go_simp; go_big_quiet_on)))
    refine wpQuiet_nil ?_
    intro w7 h7
    go_wp2
    go_ret
    exact ⟨rfl, bel_step H6.out h7⟩
end Go.Proofs.Ytkhmlbkkdflnoaa.Ch
