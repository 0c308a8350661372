/-
  THE WALK over TopSplitSettled.
-/
import Derived.Test.YtkhmlbkkdflnoaaSplB
import Derived.Test.YtkhmlbkkdflnoaaOneP
import Derived.Test.YtkhmlbkkdflnoaaSes
namespace Go.Proofs.Ytkhmlbkkdflnoaa.Sp
open Go.RowKit
open Rc (rcL rcs rcL_one RR_own own_below)
open Ch (inB inB_iff)
set_option linter.unusedVariables false
set_option linter.unusedSimpArgs false
attribute [local go_sem ↓] Go.wp_at_zero Go.wp_at_succ

/-- the records of parts -/
def prc (z : Nat → Int) (i j : Nat) : Int := if j = 0 then i + 1 else if j = 3 then i + 1 else if j = 8 then z i else 0
theorem prc_all {z : Nat → Int} {n : Nat} (hz : ∀ i, i < n → 0 ≤ z i ∧ z i ≤ 1000000000) (hn : n ≤ 7) : allR ((n + 1 : Nat) : Int) (prc z) n ∧ ¬ dup (prc z) n ∧ (∀ i, i < n → (Lit.int .i64 (prc z i 0)).wf = true) ∧ ∀ i, i < n → prc z i 4 = 0 ∧ 1 ≤ prc z i 3 ∧ 0 ≤ prc z i 8 := by
  refine ⟨fun i hi => okR_iff.2 ?_, ?_, fun i hi => ?_, fun i hi => ?_⟩
  · have := hz i hi
    simp [prc]
    omega
  · rintro ⟨i, hi, j, hj, h1, h2⟩
    simp [prc] at h2
    omega
  · simp [prc, Lit.wf, IntKind.min, IntKind.max, IntKind.signed, IntKind.bits]
    omega
  · have := hz i hi
    simp [prc]
    omega
theorem prc_get {z : Nat → Int} : ∀ k i, 1 ≤ i → get (prc z) k i = if i ≤ k then -(z (i - 1)) else 0 := by
  intro k
  induction k with
  | zero => intro i hi; rw [if_neg (by omega)]; rfl
  | succ k ih =>
    intro i hi
    simp only [get, mvd]
    rw [ih i hi]
    have e4 : (prc z k 4).toNat = 0 := rfl
    have e3 : (prc z k 3).toNat = k + 1 := by simp [prc]
    have e8 : prc z k 8 = z k := rfl
    rw [e4, e3, e8, if_neg (show ¬ i = 0 by omega)]
    by_cases h : i = k + 1
    · subst h
      rw [if_neg (by omega), if_pos rfl, if_pos (Nat.le_refl _), Nat.add_sub_cancel]
      omega
    · rw [if_neg h]
      by_cases h1 : i ≤ k
      · rw [if_pos h1, if_pos (by omega)]; simp
      · rw [if_neg h1, if_neg (by omega)]; simp
theorem prc_sum {z : Nat → Int} : ∀ k, asum (prc z) k = tot z k := by
  intro k
  induction k with
  | zero => rfl
  | succ k ih => simp only [asum, tot]; rw [ih]; rfl
/-- how many are not 0 -/
def cnt (z : Nat → Int) : Nat → Nat
  | 0 => 0
  | k + 1 => cnt z k + if z k = 0 then 0 else 1
theorem cnt_le (z : Nat → Int) : ∀ k, cnt z k ≤ k := by
  intro k
  induction k with
  | zero => exact Nat.le_refl _
  | succ k ih => simp only [cnt]; split <;> omega
theorem owe_cnt {y z : Nat → Int} : ∀ k, (∀ i, 1 ≤ i → i ≤ k → y i = -(z (i - 1))) → owe y k = cnt z k := by
  intro k
  induction k with
  | zero => intro _; rfl
  | succ k ih =>
    intro h
    simp only [owe, cnt]
    rw [ih fun i h1 h2 => h i h1 (by omega), h (k + 1) (by omega) (Nat.le_refl _), Nat.add_sub_cancel]
    by_cases hz : z k = 0
    · rw [if_pos hz, if_pos (by omega)]
    · rw [if_neg hz, if_neg (by omega)]

/-- the state of the loop over parts -/
def PR0 (w2 : World) (n : Nat) (z : Nat → Int) (v a i : Value) (wr : World) : Prop := ∃ (k c9 : Nat) (A9 : Option Addr), k ≤ n ∧ v = .slice A9 k c9 ∧ a = .int .i64 (cnt z k : Int) ∧ i = .int .i64 (k : Int) ∧ wr.ownsRow w2.heap.size 53 13 (.slice A9 k c9) k (rcs (prc z) k) ∧ Below w2.heap.size w2 wr
set_option maxRecDepth 100000 in
set_option maxHeartbeats 4000000 in
theorem sps_all (am : Int) (A : Option Addr) (n c : Nat) (f : Nat → Int) (w : World) (hR : RZ w A n f) (hn : n ≤ 9223372036854775807) :
    Calls Try.prog 7 #[.int .i64 am, .slice A n c] w fun x w' => x = .returned (.bool true) ∧ Below w.heap.size w w' := by
  have HR := Lib.hid hR
  clear hR
  obtain ⟨r0, hr, hr0, hr1, hr2⟩ := info_parts Rc.infoRec
  have HJ := Lib.hid hr
  have HY0 := Lib.hid hr0
  have HY1 := Lib.hid hr1
  have HY2 := Lib.hid hr2
  clear hr hr0 hr1 hr2
  go_enter Try.func7, Try.ntmps7
  go_upto_region 2 with (first
    | (go_at_call 14; with_reducible refine (Rc.settled_ok _).mono ?_; rintro x1 w1 ⟨rfl, h1⟩))
  have H1 := Lib.hid h1
  clear h1
  by_cases hbig : 7 < n
  · go_wp2_with fail
    all_goals (try (exfalso; omega))
    go_ret
    exact ⟨rfl, H1.out⟩
  by_cases hz : n = 0
  · subst hz
    go_wp2_with fail
    all_goals (try (exfalso; omega))
    go_ret
    exact ⟨rfl, H1.out⟩
  have hn1 : 1 ≤ n ∧ n ≤ 7 := by omega
  clear hbig hz hn
  have e7 : decide (7 < (n : Int)) = false := by simp; omega
  by_cases hv : inB am 0 1000000000 = true ∧ (∀ i, i < n → okw (f i) = true) ∧ 0 < tot f n
  · obtain ⟨ha, hok, hpos⟩ := hv
    have HSP := Lib.hid (split_ok am A n c f w1 hn1 ha (HR.out.keep H1.out) hok hpos)
    have HAM := Lib.hid (inB_iff.1 ha)
    clear ha hok hpos
    go_upto_region 7 with (first
      | (go_at_call 23; with_reducible refine HSP.out.mono ?_; rintro x2 w2 ⟨g, z, rfl, ho2, hz2, ht2, h2⟩))
    all_goals (try (exfalso; omega))
    have H2 := Lib.hid (bel_step H1.out h2)
    have HO2 := Lib.hid ho2
    have HZ2 := Lib.hid hz2
    have HT2 := Lib.hid ht2
    have hzb : ∀ i, i < n → 0 ≤ z i ∧ z i ≤ 1000000000 := fun i hi => by
      have h3 := tot_ge (y := z) n hz2 hi
      have h4 := HAM.out
      have h5 := hz2 i hi
      omega
    have HZB := Lib.hid hzb
    have HPR := Lib.hid (prc_all hzb hn1.2)
    have HHS := Lib.hid ho2.lt
    clear ho2 hz2 ht2 h2 hzb
    go_wp2_with fail
    all_goals (try (exfalso; omega))
    go_loopw [8, 9, 49] (fun v a i wr => PR0 w2 n z v a i wr) (fun _ _ i _ => n - (intOf i).toNat)
    case atStart => exact ⟨0, 0, none, Nat.zero_le _, rfl, rfl, rfl, World.ownsRow_nil _ _ _ _, Below.refl _ _⟩
    case round =>
      obtain ⟨k, c9, A9, hk, rfl, rfl, rfl, hown, hbel⟩ := hrel
      have HOW := Lib.hid hown
      have HBL := Lib.hid hbel
      by_cases hlt : k < n
      · obtain ⟨b, o, e, hb, c0⟩ := (HO2.out.below hbel).rz k hlt
        cases e
        rw [Nat.zero_add] at c0
        have i0 : (0 : Int) ≤ (k : Int) := by omega
        have i1 : (k : Int) < (n : Int) := by omega
        have hsz := hbel.size
        have hcl := cnt_le z k
        clear hown hbel
        obtain ⟨x, hxe⟩ : ∃ x, z k = x := ⟨_, rfl⟩
        have HROW : Hid (rcs (prc z) k ++ [.int .i64 ((k : Int) + 1), .int .i64 0, .int .i64 0, .int .i64 ((k : Int) + 1), .int .i64 0, .int .i64 0, .int .i64 0, .int .i64 0, .int .i64 x, .int .u64 0, .int .u64 0, .int .u64 0, .int .u64 0] = rcs (prc z) (k + 1)) := Lib.hid (by simp [rcs, rcL, prc, hxe])
        rw [hxe] at c0
        by_cases hz0 : x = 0
        · have n0 : (x != 0) = false := by simp [hz0]
          have HCN : Hid (cnt z (k + 1) = cnt z k) := Lib.hid (by simp only [cnt]; rw [hxe, if_pos hz0, Nat.add_zero])
          have u1 : IntKind.i64.wrap (cnt z k + 1) = cnt z k + 1 := IntWalk.i64_in _ (by omega)
          clear hz0 hxe
          go_upto_region 14 with fail
          all_goals (try (exfalso; omega))
          go_wp2_with (at_builtin; refine wpList_append_lies _ rfl (.tmp 54) (.tmp 61) 43 rfl w2.heap.size 53 r0 _ 13 104 Try.underlying43 HJ.out HY0.out HY1.out HY2.out rfl (by omega) (.slice A9 k c9) k _ rfl (HOW.out.alloc _) ⟨wr.heap.size, 0, none⟩ 1 1 [.int .i64 ((k : Int) + 1), .int .i64 0, .int .i64 0, .int .i64 ((k : Int) + 1), .int .i64 0, .int .i64 0, .int .i64 0, .int .i64 0, .int .i64 x, .int .u64 0, .int .u64 0, .int .u64 0, .int .u64 0] rfl rfl (World.news_of_block (heap_alloc_new wr _)) (by simp [Value.oneCell']) (by omega) (by unfold maxLen; omega) (by omega) (by simp; omega) (wr.heap.size + 1) (by simp) ?_; intro g1 cap1 wB hown1 hgrow1 hat1 hlt1; rw [HROW.out] at hown1)
          all_goals (try (exfalso; omega))
          have hbB : Below w2.heap.size w2 wB := (bel_alloc HBL.out _).grown hgrow1 (bel_alloc HBL.out _).size (own_ge HOW.out)
          go_roundw
          case rel =>
            exact ⟨k + 1, cap1, some ⟨g1, 0, none⟩, by omega, rfl, by rw [HCN.out], by go_num, hown1, hbB⟩
          case measure => simp [intOf] <;> omega
        · have n0 : (x != 0) = true := by simp [hz0]
          have HCN : Hid (cnt z (k + 1) = cnt z k + 1) := Lib.hid (by simp only [cnt]; rw [hxe, if_neg hz0])
          have u1 : IntKind.i64.wrap (cnt z k + 1) = cnt z k + 1 := IntWalk.i64_in _ (by omega)
          clear hz0 hxe
          go_upto_region 14 with fail
          all_goals (try (exfalso; omega))
          go_wp2_with (at_builtin; refine wpList_append_lies _ rfl (.tmp 54) (.tmp 61) 43 rfl w2.heap.size 53 r0 _ 13 104 Try.underlying43 HJ.out HY0.out HY1.out HY2.out rfl (by omega) (.slice A9 k c9) k _ rfl (HOW.out.alloc _) ⟨wr.heap.size, 0, none⟩ 1 1 [.int .i64 ((k : Int) + 1), .int .i64 0, .int .i64 0, .int .i64 ((k : Int) + 1), .int .i64 0, .int .i64 0, .int .i64 0, .int .i64 0, .int .i64 x, .int .u64 0, .int .u64 0, .int .u64 0, .int .u64 0] rfl rfl (World.news_of_block (heap_alloc_new wr _)) (by simp [Value.oneCell']) (by omega) (by unfold maxLen; omega) (by omega) (by simp; omega) (wr.heap.size + 1) (by simp) ?_; intro g1 cap1 wB hown1 hgrow1 hat1 hlt1; rw [HROW.out] at hown1)
          all_goals (try (exfalso; omega))
          have hbB : Below w2.heap.size w2 wB := (bel_alloc HBL.out _).grown hgrow1 (bel_alloc HBL.out _).size (own_ge HOW.out)
          go_roundw
          case rel =>
            exact ⟨k + 1, cap1, some ⟨g1, 0, none⟩, by omega, rfl, by rw [HCN.out]; go_num, by go_num, hown1, hbB⟩
          case measure => simp [intOf] <;> omega
      · obtain rfl : n = k := by omega
        have H3 := Lib.hid (bel_step H2.out hbel)
        have HX3 := Lib.hid (RR_own hown)
        have HO3 := Lib.hid (HO2.out.below hbel)
        clear hown hbel
        obtain ⟨w3, hw3⟩ : ∃ w3, wr = w3 := ⟨_, rfl⟩
        rw [hw3] at H3 HX3 HO3 ⊢
        clear hw3
        have hnet := net_ok A9 n c9 (prc z) (n + 1) w3 (by omega) (by omega) HX3.out HPR.out.2.2.1 HPR.out.1 HPR.out.2.1
        rw [show ((n + 1 : Nat) : Int) = 1 + (n : Int) by omega] at hnet
        have HNET := Lib.hid hnet
        have hON := get_one (X := prc z) (m := n + 1) (k := n) (by omega) HPR.out.2.2.2 HPR.out.1
        have hBA := get_bal (X := prc z) (m := n + 1) (k := n) (by omega) (by omega) HPR.out.1
        have hgh : get (prc z) n 0 = am := by rw [(get_host n HPR.out.2.2.2).1, prc_sum]; exact HT2.out
        have HON := Lib.hid hON
        have HBA := Lib.hid hBA
        have HGH := Lib.hid hgh
        clear hnet hON hBA hgh
        have hcl := cnt_le z n
        go_upto_region 19 with (first
          | (go_at_call 17; with_reducible refine HNET.out.mono ?_; rintro x5 w5 ⟨g5, rfl, ho5, h5⟩))
        all_goals (try (exfalso; omega))
        have H5 := Lib.hid (bel_step H3.out h5)
        have HO5 := Lib.hid ho5
        have HP5 := Lib.hid (HO3.out.below h5)
        clear ho5 h5
        go_upto_region 20 with (first
          | (go_at_call 18; refine (pay_any _ (n + 1) (n + 1) (get (prc z) n) _ HO5.out.rz HBA.out).mono ?_; rintro x6 w6 ⟨⟨Tp, A6, c6, rfl, hp6, ha6, hr6, hc6⟩, h6⟩))
        have H6 := Lib.hid (bel_step H5.out h6)
        have HO6 := Lib.hid (HP5.out.below h6)
        have HR6 := Lib.hid hr6
        have HPA := Lib.hid hp6
        have hcnt : (cnt z n : Int) = (Tp : Int) := by
          have h1 := one_count HON.out hp6 ha6
          have h2 := owe_cnt (y := get (prc z) n) (z := z) n fun i h1 h2 => by rw [prc_get n i h1, if_pos h2]
          rw [Nat.add_sub_cancel, h2] at h1
          omega
        obtain ⟨b5, o5, e5, hb5, c5⟩ := (HO5.out.below h6).rz 0 (by omega)
        cases e5
        rw [Nat.zero_add, HGH.out] at c5
        have e8 : ((n : Int) + 1 != 1 + (n : Int)) = false := by simp; omega
        have i9 : (0 : Int) < (n : Int) + 1 := by omega
        rw [hcnt]
        clear hp6 ha6 hr6 h6 hcnt hcl
        go_wp2_with fail
        all_goals (try (exfalso; omega))
        go_loopw [110] (fun i wr => ∃ t : Nat, t ≤ Tp ∧ i = .int .i64 (t : Int) ∧ Below w6.heap.size w6 wr) (fun i _ => Tp - (intOf i).toNat)
        case atStart => exact ⟨0, Nat.zero_le _, rfl, Below.refl _ _⟩
        case round =>
          obtain ⟨t, ht, rfl, hbel⟩ := hrel
          by_cases hlt : t < Tp
          · obtain ⟨b, o, rfl, hb, c0, c1, c2⟩ := (HR6.out.keep hbel) t hlt
            obtain ⟨q1, i, hi, q0, q2, q3⟩ := one_pays HON.out HPA.out.1 hlt
            rw [prc_get n i hi.1, if_pos (by omega)] at q2
            rw [q0] at c0
            rw [q1] at c1
            rw [q2, Int.neg_neg] at c2
            have HO7 := HO6.out.below hbel
            have HBL := Lib.hid hbel
            obtain ⟨cp, _⟩ := HO7.at (show i - 1 < n by omega)
            have i0 : (0 : Int) ≤ (t : Int) := by omega
            have i1 : (t : Int) < (Tp : Int) := by omega
            have ci : Hid (1 ≤ i ∧ i ≤ n) := Lib.hid (by omega)
            clear hbel q0 q1 q2 q3 hi HO7
            go_upto_region 25 with fail
            all_goals (try (exfalso; omega))
            have x0 : (wr.alloc (.cells #[.int .i64 (i : Int), .int .i64 0, .int .i64 (z (i - 1))] 54)).cell? ⟨wr.heap.size, 0, none⟩ = some (.int .i64 (i : Int)) := Mt.cell_new rfl rfl
            have x1 : (wr.alloc (.cells #[.int .i64 (i : Int), .int .i64 0, .int .i64 (z (i - 1))] 54)).cell? ⟨wr.heap.size, 1, none⟩ = some (.int .i64 0) := Mt.cell_new rfl rfl
            have x2 : (wr.alloc (.cells #[.int .i64 (i : Int), .int .i64 0, .int .i64 (z (i - 1))] 54)).cell? ⟨wr.heap.size, 2, none⟩ = some (.int .i64 (z (i - 1))) := Mt.cell_new rfl rfl
            have x3 : (wr.alloc (.cells #[.int .i64 (i : Int), .int .i64 0, .int .i64 (z (i - 1))] 54)).cell? ⟨g, i - 1, none⟩ = some (.int .i64 (z (i - 1))) := old_at cp (bel_alloc (Below.refl _ _) _)
            have HB8 := Lib.hid (bel_alloc HBL.out (.cells #[.int .i64 (i : Int), .int .i64 0, .int .i64 (z (i - 1))] 54))
            obtain ⟨pb, hpb⟩ : ∃ pb, wr.heap.size = pb := ⟨_, rfl⟩
            obtain ⟨w8, hw8⟩ : ∃ w8, wr.alloc (.cells #[.int .i64 (i : Int), .int .i64 0, .int .i64 (z (i - 1))] 54) = w8 := ⟨_, rfl⟩
            rw [hw8] at x0 x1 x2 x3 HB8 ⊢
            rw [hpb] at x0 x1 x2 ⊢
            clear hw8 hpb c0 c1 c2 cp
            have k1 : decide ((i : Int) < 1) = false := by have := ci.out; simp; omega
            have k2 : decide ((n : Int) < (i : Int)) = false := by have := ci.out; simp; omega
            have k3 : IntKind.i64.wrap ((i : Int) - 1) = (i : Int) - 1 := IntWalk.i64_in _ (by have := ci.out; omega)
            have k4 : (0 : Int) ≤ (i : Int) - 1 := by have := ci.out; omega
            have k5 : (1 : Int) ≤ (i : Int) := by have := ci.out; omega
            have k6 : (i : Int) - 1 < (n : Int) := by have := ci.out; omega
            have k7 : ((i : Int) - 1).toNat = i - 1 := by omega
            have k8 : i ≠ 0 := by have := ci.out; omega
            have k9 : ¬ n < i := by have := ci.out; omega
            go_quiet (fail)
            go_wp2_with fail
            all_goals (try (exfalso; omega))
            go_roundw
            case rel => exact ⟨t + 1, by omega, by go_num, below_drewN HB8.out _⟩
            case measure => simp [intOf] <;> omega
          · obtain rfl : Tp = t := by omega
            go_wp2_with fail
            all_goals (try (exfalso; omega))
            go_ret
            exact ⟨rfl, bel_step H6.out hbel⟩
  · have hsp : Calls Try.prog 23 #[.int .i64 am, .slice A n c] w1 fun e w' => e = .returned (.tuple #[.slice none 0 0, .int .i64 1]) ∧ Below w1.heap.size w1 w' := by
      cases ha : inB am 0 1000000000
      · exact split_out am A n c w1 hn1 ha
      · exact split_bad am A n c f w1 hn1 ha (HR.out.keep H1.out) fun h => hv ⟨ha, h⟩
    have HSP := Lib.hid hsp
    clear hsp hv
    go_wp2_with (first
      | (go_at_call 23; with_reducible refine HSP.out.mono ?_; rintro x2 w2 ⟨rfl, h2⟩))
    all_goals (try (exfalso; omega))
    go_ret
    exact ⟨rfl, bel_step H1.out h2⟩
end Go.Proofs.Ytkhmlbkkdflnoaa.Sp
