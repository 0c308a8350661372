/-
  THE WALK over TopBilledOnce.
-/
import Derived.Test.YtkhmlbkkdflnoaaOneP
import Derived.Test.YtkhmlbkkdflnoaaSet
namespace Go.Proofs.Ytkhmlbkkdflnoaa.Rc
open Go.RowKit
open Ch (lkf rws eSum Sq cum)
open Mt (TK)
set_option linter.unusedVariables false
set_option linter.unusedSimpArgs false
attribute [local go_sem ↓] Go.wp_at_zero Go.wp_at_succ

theorem YS_at {K R : Nat → Int} {m p : Int} {nh : Nat} {h : Nat → Int} {L : List (Nat × Nat)} {i : Nat} (hi : i < L.length) : ∃ q ∈ L, YS K R m p nh h L i = rcf K i (homeOf m nh h i) q.1 q.2 (R (q.2 - 1) - R (q.1 - 1)) (amt p (R (q.2 - 1) - R (q.1 - 1))) := by
  refine ⟨L[i], List.getElem_mem hi, ?_⟩
  unfold YS
  rw [List.getElem?_eq_getElem hi]
/-- what is known of the records of sessions -/
theorem YS_facts {K M R : Nat → Int} {m p : Int} {nh n ne : Nat} {h : Nat → Int} {e : Nat → Bool} (hsq : Sq 1 M R n) (hbd : ∀ i, i ≤ n → 0 ≤ R i ∧ R i ≤ 100000) (hn : n ≤ 59) (hm : 2 ≤ m ∧ m ≤ 8) (hp : 0 ≤ p ∧ p ≤ 65535) :
    ∀ i, i < (segs (n + 1) ne e n).length → (YS K R m p nh h (segs (n + 1) ne e n) i 4 = 0 ∧ 1 ≤ YS K R m p nh h (segs (n + 1) ne e n) i 3 ∧ 0 ≤ YS K R m p nh h (segs (n + 1) ne e n) i 8) ∧ YS K R m p nh h (segs (n + 1) ne e n) i 3 < m ∧ YS K R m p nh h (segs (n + 1) ne e n) i 8 ≤ 1000000000 ∧ YS K R m p nh h (segs (n + 1) ne e n) i 0 = i + 1 := by
  intro i hi
  obtain ⟨q, hq, hY⟩ := YS_at (K := K) (R := R) (m := m) (p := p) (nh := nh) (h := h) hi
  obtain ⟨_, _, hb⟩ := segs_bd (n + 1) ne e n
  obtain ⟨b1, b2, b3⟩ := hb q hq
  have hmono := sq_mono hsq (show q.1 - 1 ≤ q.2 - 1 by omega) (by omega)
  have r1 := hbd (q.2 - 1) (by omega)
  have r2 := hbd (q.1 - 1) (by omega)
  have ha := amt_bd hp (en := R (q.2 - 1) - R (q.1 - 1)) (by omega)
  have hh := homeOf_bd (nh := nh) (h := h) hm i
  rw [hY, rcf_lo 4 (by omega), rcf_lo 3 (by omega), rcf_lo 8 (by omega), rcf_lo 0 (by omega)]
  simp only [rc0]
  exact ⟨⟨trivial, hh.1, ha.1⟩, hh.2, ha.2, trivial⟩
theorem YS_all {m : Int} {X : Nat → Nat → Int} {T : Nat} (h : ∀ i, i < T → (X i 4 = 0 ∧ 1 ≤ X i 3 ∧ 0 ≤ X i 8) ∧ X i 3 < m ∧ X i 8 ≤ 1000000000 ∧ X i 0 = i + 1) (hT : T ≤ 64) (hm : 1 ≤ m) : allR m X T ∧ ¬ dup X T ∧ ∀ i, i < T → (Lit.int .i64 (X i 0)).wf = true := by
  refine ⟨fun i hi => okR_iff.2 ?_, ?_, fun i hi => ?_⟩
  · obtain ⟨⟨a, b, c⟩, d, e, f⟩ := h i hi
    omega
  · rintro ⟨i, hi, j, hj, h1, h2⟩
    have x := (h i hi).2.2.2
    have y := (h j (by omega)).2.2.2
    omega
  · have x := (h i hi).2.2.2
    rw [x]
    simp [Lit.wf, IntKind.min, IntKind.max, IntKind.signed, IntKind.bits]
    omega
theorem segs_fst {n ne : Nat} {e : Nat → Bool} (hn : 1 ≤ n) : fsts (segs (n + 1) ne e n) = n + 1 := by
  obtain ⟨s, rfl⟩ : ∃ s, n = s + 1 := ⟨n - 1, by omega⟩
  show fsts (if cutB (s + 1 + 1) ne e (s + 2) = true then _ else _) = _
  rw [if_pos (by simp [cutB]), fsts_snoc]
theorem tot_bdg {X : Nat → Nat → Int} {m : Nat} {k : Nat} (h : allR m X k) (hk : k ≤ 64) (i : Nat) (hi : i ≤ 8) : -600000000000 ≤ tot (get X k) i ∧ tot (get X k) i ≤ 600000000000 := by
  have := tot_bd (y := get X k) (B := 64000000000) i fun j hj => by have := get_bd k h j; omega
  omega
set_option maxRecDepth 100000 in
set_option maxHeartbeats 8000000 in
theorem bill_all (seed : Int) (A : Option Addr) (n c : Nat) (f g : Nat → Int) (Ae : Option Addr) (ne ce : Nat) (e : Nat → Bool) (Ah : Option Addr) (nh ch : Nat) (h : Nat → Int) (nw pr : Int) (K : Nat → Int) (w : World)
    (hT : TK w A n f g) (hE : BO w Ae ne e) (hH : UO w Ah nh h) (hn : n ≤ 9223372036854775807) (hne : ne ≤ 9223372036854775807) (hnh : nh ≤ 9223372036854775807) (hnw : 0 ≤ nw ∧ nw ≤ 255) (hpr : 0 ≤ pr ∧ pr ≤ 65535) :
    Calls Try.prog 4 #[.int .u64 seed, .slice A n c, .slice Ae ne ce, .slice Ah nh ch, .int .u8 nw, .int .u16 pr, .agg #[.int .u64 (K 0), .int .u64 (K 1), .int .u64 (K 2), .int .u64 (K 3)]] w fun x w' => x = .returned (.bool true) ∧ Below w.heap.size w w' := by
  have HT := Lib.hid hT
  have HE := Lib.hid hE
  have HH := Lib.hid hH
  have HB0 : Hid (Below w.heap.size w (w.alloc (.cells #[.int .u64 (K 0), .int .u64 (K 1), .int .u64 (K 2), .int .u64 (K 3)] 40))) := Lib.hid (bel_alloc (Below.refl _ _) _)
  have HKB : Hid ((w.alloc (.cells #[.int .u64 (K 0), .int .u64 (K 1), .int .u64 (K 2), .int .u64 (K 3)] 40)).heap[w.heap.size]? = some (.cells #[.int .u64 (K 0), .int .u64 (K 1), .int .u64 (K 2), .int .u64 (K 3)] 40 (0, 0))) := Lib.hid (heap_alloc_new _ _)
  clear hT hE hH
  obtain ⟨w0, hw0⟩ : ∃ w0, w.alloc (.cells #[.int .u64 (K 0), .int .u64 (K 1), .int .u64 (K 2), .int .u64 (K 3)] 40) = w0 := ⟨_, rfl⟩
  rw [hw0] at HB0 HKB
  go_enter Try.func4, Try.ntmps4
  go_upto_region 2 with (first
    | (go_at_call 14; with_reducible refine (settled_ok _).mono ?_; rintro x1 w1 ⟨rfl, h1⟩))
  have H1 := Lib.hid (bel_step HB0.out h1)
  have hkb : w1.heap[w.heap.size]? = some (.cells #[.int .u64 (K 0), .int .u64 (K 1), .int .u64 (K 2), .int .u64 (K 3)] 40 (0, 0)) := (h1.block _ (Array.getElem?_eq_some_iff.1 HKB.out).1).trans HKB.out
  have HKB1 := Lib.hid hkb
  clear hkb h1 hw0
  by_cases hz : n = 0
  · subst hz
    go_wp2_with fail
    all_goals (try (exfalso; omega))
    go_ret
    exact ⟨rfl, H1.out⟩
  by_cases hbig : 59 < n
  · go_wp2_with fail
    all_goals (try (exfalso; omega))
    go_ret
    exact ⟨rfl, H1.out⟩
  have hn1 : 1 ≤ n ∧ n ≤ 59 := by omega
  clear hz hbig hn
  have u1 : IntKind.i64.wrap nw = nw := IntWalk.i64_in _ (by omega)
  have u2 : nw.tmod 7 = nw % 7 := Int.tmod_eq_emod_of_nonneg hnw.1
  have u3 : IntKind.i64.wrap (nw % 7) = nw % 7 := IntWalk.i64_in _ (by omega)
  have u4 : IntKind.i64.wrap (2 + nw % 7) = 2 + nw % 7 := IntWalk.i64_in _ (by omega)
  have u5 : IntKind.i64.wrap pr = pr := IntWalk.i64_in _ (by omega)
  have hm0 : 2 ≤ 2 + nw % 7 ∧ 2 + nw % 7 ≤ 8 := by omega
  go_upto_region 5 with fail
  all_goals (try (exfalso; omega))
  obtain ⟨mm, hmm⟩ : ∃ mm : Nat, 2 + nw % 7 = (mm : Int) := ⟨(2 + nw % 7).toNat, by omega⟩
  rw [hmm] at hm0 ⊢
  clear u1 u2 u3 u4 hmm
  go_upto_region 6 with (first
    | (go_at_call 15; with_reducible refine (Ch.chain_ok seed A n c f g _ (HT.out.keep H1.out) hn1.2).mono ?_; rintro x2 w2 ⟨b2, cap2, rfl, hr2, hc2, hg2, hb2⟩))
  have H2 := Lib.hid (bel_step H1.out hb2)
  have hkb := (hb2.block _ (Array.getElem?_eq_some_iff.1 HKB1.out).1).trans HKB1.out
  have a0 : w2.cell? ⟨w.heap.size, 0, none⟩ = some (.int .u64 (K 0)) := by rw [cell_of_row _ _ _ _ _ (0, 0) hkb]; rfl
  have a1 : w2.cell? ⟨w.heap.size, 1, none⟩ = some (.int .u64 (K 1)) := by rw [cell_of_row _ _ _ _ _ (0, 0) hkb]; rfl
  have a2 : w2.cell? ⟨w.heap.size, 2, none⟩ = some (.int .u64 (K 2)) := by rw [cell_of_row _ _ _ _ _ (0, 0) hkb]; rfl
  have a3 : w2.cell? ⟨w.heap.size, 3, none⟩ = some (.int .u64 (K 3)) := by rw [cell_of_row _ _ _ _ _ (0, 0) hkb]; rfl
  have hff : ∀ i, i < n → 0 ≤ f i ∧ f i ≤ 255 := fun i hi => by obtain ⟨_, _, _, _, _, _, h, _⟩ := HT.out i hi; exact h
  have hgg : ∀ i, i < n → 0 ≤ g i ∧ g i ≤ 255 := fun i hi => by obtain ⟨_, _, _, _, _, _, _, h⟩ := HT.out i hi; exact h
  have hsq : Sq 1 (cum f) (cum g) n := Ch.cum_sq hn1.2 hff hgg
  have hbd : ∀ i, i ≤ n → 0 ≤ cum g i ∧ cum g i ≤ 100000 := fun i hi => by
    have := Ch.cum_bd hgg i hi
    have : (i : Int) * 255 ≤ 59 * 255 := by omega
    omega
  have HSE := Lib.hid (sessions_ok seed (cum f) (cum g) K n (some ⟨b2, 0, none⟩) cap2 Ae ne ce e Ah nh ch h (mm : Int) pr w2 hsq hbd hn1.2 hr2 (HE.out.keep H2.out) (HH.out.keep H2.out) hm0 hpr hne hnh)
  rw [segs_fst hn1.1, show n + 1 - 1 = n by omega] at HSE
  have hXF := YS_facts (K := K) (nh := nh) (ne := ne) (h := h) (e := e) hsq hbd hn1.2 hm0 hpr
  have hTb := (segs_bd (n + 1) ne e n).2.1
  have hen : Hid (∀ W, RG W (some ⟨b2, 0, none⟩) (n + 1) (rws seed 1 (cum f) (cum g) n) → Calls Try.prog 11 #[.slice (some ⟨b2, 0, none⟩) (n + 1) cap2, .int .i64 1, .int .i64 ((n : Int) + 1)] W fun x w' => x = .returned (.tuple #[.int .i64 (cum g n - cum g 0), .int .i64 0]) ∧ Below W.heap.size W w') := Lib.hid fun W hW => by
    have h0 := Ch.energy_ok (some ⟨b2, 0, none⟩) (n + 1) cap2 _ 1 (n + 1) W (by omega) hW (Ch.okB_of (Ch.rws_ok (seed := seed) hsq (by omega) (Nat.le_refl n))) (by omega) (by omega) (by omega)
    rw [Ch.eSum_rws (by omega) (by omega), show 1 + (n + 1 - 1) - 1 = n by omega, show (1 : Nat) - 1 = 0 by rfl] at h0
    exact h0
  have hsw : -100000 ≤ cum g n - cum g 0 ∧ cum g n - cum g 0 ≤ 100000 := by
    have := hbd n (Nat.le_refl n)
    have := hbd 0 (by omega)
    omega
  obtain ⟨sw, hsweq⟩ : ∃ sw, cum g n - cum g 0 = sw := ⟨_, rfl⟩
  rw [hsweq] at HSE hen hsw
  obtain ⟨T, hTe⟩ : ∃ T, (segs (n + 1) ne e n).length = T := ⟨_, rfl⟩
  obtain ⟨X, hXe⟩ : ∃ X, YS K (cum g) mm pr nh h (segs (n + 1) ne e n) = X := ⟨_, rfl⟩
  rw [hXe, hTe] at HSE hXF
  rw [hTe] at hTb
  have hXA := YS_all hXF (by omega) (by omega)
  have HXF := Lib.hid hXF
  have HXA := Lib.hid hXA
  have HR2 := Lib.hid hr2
  clear hkb hff hgg hsq hbd hXF hXA hsweq hTe hXe hr2 hb2 hg2
  go_upto_region 7 with (first
    | (go_at_call 16; with_reducible refine (HSE.out).mono ?_; rintro x3 w3 ⟨A3, c3, rfl, ho3, h3⟩))
  have HR3 := Lib.hid (HR2.out.keep h3)
  have H3 := Lib.hid (bel_step H2.out h3)
  have HX3 := Lib.hid (RR_own ho3)
  clear a0 a1 a2 a3 ho3 h3
  go_upto_region 10 with (first
    | (go_at_call 11; with_reducible refine (hen.out _ HR3.out).mono ?_; rintro x4 w4 ⟨rfl, h4⟩))
  all_goals (try (exfalso; omega))
  have HX4 := Lib.hid (HX3.out.keep h4)
  have H4 := Lib.hid (bel_step H3.out h4)
  clear h4
  go_upto_region 11 with (first
    | (go_at_call 17; refine (net_ok _ T c3 X mm _ (by omega) (by omega) HX4.out HXA.out.2.2 HXA.out.1 HXA.out.2.1).mono ?_; rintro x5 w5 ⟨g5, rfl, ho5, h5⟩))
  have HX5 := Lib.hid (HX4.out.keep h5)
  have H5 := Lib.hid (bel_step H4.out h5)
  have HO5 := Lib.hid ho5
  have hON := get_one (m := mm) (by omega) (fun i hi => (HXF.out i hi).1) HXA.out.1
  have hBA := get_bal (m := mm) (by omega) (by omega) HXA.out.1
  have hgh := (get_host T fun i hi => (HXF.out i hi).1).1
  have HON := Lib.hid hON
  have HBA := Lib.hid hBA
  have HGH := Lib.hid hgh
  clear ho5 h5 hON hBA hgh
  go_upto_region 12 with (first
    | (go_at_call 18; refine (pay_any _ mm mm (get X T) _ HO5.out.rz HBA.out).mono ?_; rintro x6 w6 ⟨⟨Tp, A6, c6, rfl, hp6, ha6, hr6, hc6⟩, h6⟩))
  have HX6 := Lib.hid (HX5.out.keep h6)
  have H6 := Lib.hid (bel_step H5.out h6)
  have HO6 := Lib.hid (HO5.out.below h6)
  have HP6 := Lib.hid hr6
  have HPA := Lib.hid hp6
  have HSM := Lib.hid (one_sum HON.out hp6 ha6)
  clear hp6 ha6 hr6 h6
  go_wp2_with fail
  all_goals (try (exfalso; omega))
  go_loopw [28, 111] (fun a i wr => ∃ k : Nat, k ≤ T ∧ a = .int .i64 (asum X k) ∧ i = .int .i64 (k : Int) ∧ Below w6.heap.size w6 wr) (fun _ i _ => T - (intOf i).toNat)
  case atStart => exact ⟨0, Nat.zero_le _, rfl, rfl, Below.refl _ _⟩
  case round =>
    obtain ⟨k, hk, rfl, rfl, hbel⟩ := hrel
    by_cases hlt : k < T
    · obtain ⟨b, o, rfl, hb, c0, c1, c2, c3, c4, c5, c6, c7, c8, c9, c10, c11, c12⟩ := (HX6.out.keep hbel).cells hlt
      have HBL := Lib.hid hbel
      have ab := asum_bd (X := X) (k + 1) fun i hi => ⟨(HXF.out i (by omega)).1.2.2, (HXF.out i (by omega)).2.2.1⟩
      have hnx : asum X (k + 1) = asum X k + X k 8 := rfl
      have uw : IntKind.i64.wrap (asum X k + X k 8) = asum X k + X k 8 := IntWalk.i64_in _ (by omega)
      have i0 : (0 : Int) ≤ (k : Int) := by omega
      have i1 : (k : Int) < (T : Int) := by omega
      clear hbel hnx ab
      go_upto_region 18 with fail
      all_goals (try (exfalso; omega))
      have x8 : (wr.alloc (.cells #[.int .i64 (X k 0), .int .i64 (X k 1), .int .i64 (X k 2), .int .i64 (X k 3), .int .i64 (X k 4), .int .i64 (X k 5), .int .i64 (X k 6), .int .i64 (X k 7), .int .i64 (X k 8), .int .u64 (X k 9), .int .u64 (X k 10), .int .u64 (X k 11), .int .u64 (X k 12)] 53)).cell? ⟨wr.heap.size, 8, none⟩ = some (.int .i64 (X k 8)) := Mt.cell_new rfl rfl
      go_wp2_with fail
      all_goals (try (exfalso; omega))
      exact ⟨⟨k + 1, by omega, rfl, by go_num, bel_alloc HBL.out _⟩, by simp [intOf] <;> omega⟩
    · obtain rfl : T = k := by omega
      have H7 := Lib.hid (bel_step H6.out hbel)
      have HP7 := Lib.hid (HP6.out.keep hbel)
      have HO7 := Lib.hid (HO6.out.below hbel)
      clear hbel
      obtain ⟨w7, hw7⟩ : ∃ w7, wr = w7 := ⟨_, rfl⟩
      rw [hw7] at H7 HP7 HO7 ⊢
      clear hw7
      have hab := asum_bd (X := X) T fun i hi => ⟨(HXF.out i hi).1.2.2, (HXF.out i hi).2.2.1⟩
      go_wp2_with fail
      all_goals (try (exfalso; omega))
      go_loopw [29, 122] (fun a i wr => ∃ t : Nat, t ≤ Tp ∧ a = .int .i64 (sumP mm (get X T) t) ∧ i = .int .i64 (t : Int) ∧ Below w7.heap.size w7 wr) (fun _ i _ => Tp - (intOf i).toNat)
      case atStart => exact ⟨0, Nat.zero_le _, rfl, rfl, Below.refl _ _⟩
      case round =>
        obtain ⟨t, ht, rfl, rfl, hbel⟩ := hrel
        by_cases hlt : t < Tp
        · obtain ⟨b, o, rfl, hb, c0, c1, c2⟩ := (HP7.out.keep hbel) t hlt
          have HBL := Lib.hid hbel
          have hpp := one_pays HON.out HPA.out.1 hlt
          rw [hpp.1] at c1
          have sb := (sumP_bd HON.out HPA.out t ht).1
          have sb2 := (sumP_bd HON.out HPA.out t ht).2 hlt
          rw [HGH.out] at sb2
          have uw : IntKind.i64.wrap (sumP mm (get X T) t + pym mm (get X T) t 2) = sumP mm (get X T) t + pym mm (get X T) t 2 := IntWalk.i64_in _ (by omega)
          have i0 : (0 : Int) ≤ (t : Int) := by omega
          have i1 : (t : Int) < (Tp : Int) := by omega
          clear hbel hpp sb sb2
          go_upto_region 23 with fail
          all_goals (try (exfalso; omega))
          have x1 : (wr.alloc (.cells #[.int .i64 (pym mm (get X T) t 0), .int .i64 0, .int .i64 (pym mm (get X T) t 2)] 54)).cell? ⟨wr.heap.size, 1, none⟩ = some (.int .i64 0) := Mt.cell_new rfl rfl
          have x2 : (wr.alloc (.cells #[.int .i64 (pym mm (get X T) t 0), .int .i64 0, .int .i64 (pym mm (get X T) t 2)] 54)).cell? ⟨wr.heap.size, 2, none⟩ = some (.int .i64 (pym mm (get X T) t 2)) := Mt.cell_new rfl rfl
          go_wp2_with fail
          all_goals (try (exfalso; omega))
          exact ⟨⟨t + 1, by omega, rfl, by go_num, bel_alloc HBL.out _⟩, by simp [intOf] <;> omega⟩
        · obtain rfl : Tp = t := by omega
          have H8 := Lib.hid (bel_step H7.out hbel)
          have HO8 := Lib.hid (HO7.out.below hbel)
          obtain ⟨w8, hw8⟩ : ∃ w8, wr = w8 := ⟨_, rfl⟩
          rw [hw8] at H8 HO8 ⊢
          clear hbel hw8
          go_wp2_with fail
          all_goals (try (exfalso; omega))
          go_loopw [30, 136] (fun a i wr => ∃ j : Nat, j ≤ mm ∧ a = .int .i64 (tot (get X T) j) ∧ i = .int .i64 (j : Int) ∧ wr = w8) (fun _ i _ => mm - (intOf i).toNat)
          case atStart => exact ⟨0, Nat.zero_le _, rfl, rfl, rfl⟩
          case round =>
            obtain ⟨j, hj, rfl, rfl, rfl⟩ := hrel
            by_cases hlt : j < mm
            · obtain ⟨b, o, e, hb, c0⟩ := HO8.out.rz j hlt
              cases e
              rw [Nat.zero_add] at c0
              have tb := tot_bdg HXA.out.1 (by omega) (j + 1) (by omega)
              have hnx : tot (get X T) (j + 1) = tot (get X T) j + get X T j := rfl
              have uw : IntKind.i64.wrap (tot (get X T) j + get X T j) = tot (get X T) j + get X T j := IntWalk.i64_in _ (by omega)
              have i0 : (0 : Int) ≤ (j : Int) := by omega
              have i1 : (j : Int) < (mm : Int) := by omega
              clear hnx tb
              go_wp2_with fail
              all_goals (try (exfalso; omega))
              exact ⟨⟨j + 1, by omega, rfl, by go_num, trivial⟩, by simp [intOf] <;> omega⟩
            · obtain rfl : mm = j := by omega
              obtain ⟨b, o, e, hb, c0⟩ := HO8.out.rz 0 (by omega)
              cases e
              rw [Nat.zero_add, HGH.out] at c0
              rw [HSM.out, HGH.out, HON.out.2.2]
              go_wp2_with fail
              all_goals (try (exfalso; omega))
              go_ret
              exact ⟨rfl, H8.out⟩
end Go.Proofs.Ytkhmlbkkdflnoaa.Rc
