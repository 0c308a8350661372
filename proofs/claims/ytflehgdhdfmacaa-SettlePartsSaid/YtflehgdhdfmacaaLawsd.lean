/-
  THE LAW SettlePayments, walked.
-/
import Derived.Test.YtflehgdhdfmacaaLaws
namespace Go.Proofs.Ytflehgdhdfmacaa
open Go.RowKit
set_option linter.unusedVariables false
attribute [local go_sem ↓] Go.wp_at_zero Go.wp_at_succ

theorem own_made0 {W : World} {B : Nat} {t : TypeId} {s cap : Nat} {cs : Array Value} (hB : B ≤ W.heap.size) (hc : cap ≤ maxLen) (hl : cs.size = cap * s) : (W.alloc (.cells cs t)).ownsRow B t s (.slice (some ⟨W.heap.size, 0, none⟩) 0 cap) 0 [] := by
  refine ⟨by simp, .inr ⟨W.heap.size, cap, cs, rfl, hB, heap_alloc_new _ _, Nat.zero_le _, hc, hl, ?_⟩⟩
  simp
/-- all payments made so far are payments made -/
theorem paid_pre {n : Nat} {y : Nat → Int} {T : Nat} (hB : balB y n = true) (h : ∀ j, j < T → 0 < am (Yt n y j) n) : ∀ t, t ≤ T → Paid n y t := by
  obtain ⟨h1, h2, h3⟩ := balB_iff.1 hB
  intro t
  induction t with
  | zero => intro _; exact paid_zero h2 h3
  | succ t ih => intro ht; exact (ih (by omega)).next h1.1 (h t (by omega))
theorem paid_lt {n : Nat} {y : Nat → Int} {T : Nat} (hB : balB y n = true) (h : Paid n y T) : T < n := by
  obtain ⟨h1, _⟩ := balB_iff.1 hB
  cases T with
  | zero => omega
  | succ t =>
    have := (paid_pre hB h.1 t (by omega)).room h1.1 (h.1 t (by omega))
    omega
theorem Yt_sign {n : Nat} {y : Nat → Int} {T : Nat} (hn : 1 ≤ n) (h : ∀ j, j < T → 0 < am (Yt n y j) n) : ∀ t, t ≤ T → ∀ i, i < n → (Yt n y t i < 0 → y i < 0) ∧ (0 < Yt n y t i → 0 < y i) := by
  intro t
  induction t with
  | zero => intro _ i _; exact ⟨id, id⟩
  | succ t ih =>
    intro ht i hi
    have h1 := ih (by omega) i hi
    have h2 := stp_sign hn (h t (by omega)) i hi
    exact ⟨fun hx => h1.1 (h2.1 hx), fun hx => h1.2 (h2.2 hx)⟩
/-- what those with negative balances owe -/
def ng (y : Nat → Int) (k : Nat) : Int := tot (fun i => max 0 (-(y i))) k
theorem tot_sub {f g : Nat → Int} {u : Nat} {a : Int} : ∀ n, (∀ i, i < n → g i = f i - if i = u then a else 0) → tot g n = tot f n - if u < n then a else 0 := by
  intro n
  induction n with
  | zero => intro _; simp [tot]
  | succ n ih =>
    intro h
    simp only [tot]
    rw [ih fun i hi => h i (by omega), h n (by omega)]
    by_cases e : n = u
    · subst e; simp; omega
    · by_cases e' : u < n
      · rw [if_neg e, if_pos e', if_pos (by omega)]; omega
      · rw [if_neg e, if_neg e', if_neg (by omega)]; omega
theorem ng_stp {n : Nat} {y : Nat → Int} (hn : 1 ≤ n) (ha : 0 < am y n) : ng (stp n y) n = ng y n - am y n := by
  obtain ⟨f1, f2, f3, f4, f5, f6, f7, f8⟩ := am_facts hn ha
  have h := tot_sub (f := fun i => max 0 (-(y i))) (g := fun i => max 0 (-(stp n y i))) (u := mnI y n) (a := am y n) n fun i hi => by
    by_cases e1 : i = mnI y n
    · subst e1; simp only [if_true]; rw [stp_u hn ha]; omega
    · rw [if_neg e1]
      by_cases e2 : i = mxI y n
      · subst e2; rw [stp_d hn ha]; omega
      · rw [stp_o e1 e2]; omega
  rw [if_pos f1] at h
  exact h
/-- what is moved by t payments -/
def mvs (n : Nat) (y : Nat → Int) : Nat → Int
  | 0 => 0
  | t + 1 => mvs n y t + am (Yt n y t) n
theorem mvs_ng {n : Nat} {y : Nat → Int} {T : Nat} (hn : 1 ≤ n) (h : ∀ j, j < T → 0 < am (Yt n y j) n) : ∀ t, t ≤ T → mvs n y t + ng (Yt n y t) n = ng y n := by
  intro t
  induction t with
  | zero => intro _; simp [mvs, Yt]
  | succ t ih =>
    intro ht
    have h1 := ih (by omega)
    have h2 : ng (Yt n y (t + 1)) n = ng (Yt n y t) n - am (Yt n y t) n := ng_stp hn (h t (by omega))
    simp only [mvs]
    omega
theorem ng_zero {y : Nat → Int} : ∀ n, (∀ i, i < n → y i = 0) → ng y n = 0 := by
  intro n
  unfold ng
  induction n with
  | zero => intro _; rfl
  | succ n ih => intro h; simp only [tot]; rw [ih fun i hi => h i (by omega), h n (by omega)]; rfl
theorem ng_bd {y : Nat → Int} : ∀ n, (∀ i, i < n → -64000000000 ≤ y i ∧ y i ≤ 64000000000) → 0 ≤ ng y n ∧ ng y n ≤ n * 64000000000 := by
  intro n
  unfold ng
  induction n with
  | zero => intro _; simp [tot]
  | succ n ih =>
    intro h
    have h1 := ih fun i hi => h i (by omega)
    have h2 := h n (by omega)
    simp only [tot]
    omega
theorem mvs_nn {n : Nat} {y : Nat → Int} {T : Nat} (h : ∀ j, j < T → 0 < am (Yt n y j) n) : ∀ t, t ≤ T → 0 ≤ mvs n y t := by
  intro t
  induction t with
  | zero => intro _; simp [mvs]
  | succ t ih => intro ht; have := ih (by omega); have := h t (by omega); simp only [mvs]; omega

set_option maxRecDepth 100000 in
set_option maxHeartbeats 4000000 in
theorem walk_payments (A : Option Addr) (n c : Nat) (y : Nat → Int) (w : World) (hn : n ≤ 9223372036854775807) (hR : RZ w A n y) :
    Calls Try.prog 6 #[.slice A n c] w fun e w' => e = .returned (.bool true) ∧ Below w.heap.size w w' := by
  have HR := Lib.hid hR
  cases hB : balB y n
  · have HB := Lib.hid hB
    clear hR hB
    go_enter Try.func6, Try.ntmps6
    go_wp2_with (first
      | (go_at_call 9; with_reducible refine (head_any _).mono ?_; rintro e w0 ⟨rfl, h0⟩)
      | (go_at_call 18; with_reducible refine (rbal_any _ _ _ y _ hn (HR.out.keep h0)).mono ?_; rintro e w1 ⟨rfl, rfl⟩; rw [HB.out]))
    go_ret
    exact ⟨rfl, h0⟩
  · have HB := Lib.hid hB
    obtain ⟨hn8, hyb, hy0⟩ := balB_iff.1 hB
    obtain ⟨b, o, rfl, hb, _⟩ := hR 0 (by omega)
    have HYB := Lib.hid hyb
    clear hR hB hy0 hyb
    obtain ⟨i0, hi, hz0, hz1, hz2⟩ := info_parts infoInt
    have HI := Lib.hid hi
    have HZ0 := Lib.hid hz0
    have HZ1 := Lib.hid hz1
    have HZ2 := Lib.hid hz2
    have hmk : ∀ W : World, (Instr.makeSlice 23 (.int .i64 0) (.int .i64 (n : Int))).run Try.prog W = .ok (.slice (some ⟨W.heap.size, 0, none⟩) 0 n) (W.alloc (.cells (madeCells (Value.int .i64 0).cells n) 3)) := fun W => by
      have := run_make_rowN (P := Try.prog) 23 3 i0 _ Try.underlying23 hi hz0 .i64 .i64 0 n (by omega) (by rw [hz2]; omega) (by omega) W
      rw [hz1, Nat.mul_one] at this
      exact this
    obtain ⟨mc, hmc⟩ : ∃ mc, madeCells (Value.int .i64 0).cells n = mc := ⟨_, rfl⟩
    have HMC : Hid (mc.size = n * 1) := Lib.hid (by rw [← hmc]; simp [madeCells, Value.cells])
    rw [hmc] at hmk
    clear hmc hi hz0 hz1 hz2
    go_enter Try.func6, Try.ntmps6
    go_wp2_with (first
      | (go_at_call 9; with_reducible refine (head_any _).mono ?_; rintro e w0 ⟨rfl, h0⟩)
      | (go_at_call 18; with_reducible refine (rbal_any _ _ _ y _ hn (HR.out.keep h0)).mono ?_; rintro e w1 ⟨rfl, rfl⟩; rw [HB.out])
      | (go_at_call 12; with_reducible refine (pay_any _ _ _ y _ (HR.out.keep h0) HB.out).mono ?_; rintro e w2 ⟨⟨T, Ap, cp, rfl, hpd, ham, hrp, hcp⟩, h2⟩
         have H2 := Lib.hid (bel_step h0 h2)
         have HRP := Lib.hid hrp
         have hs2 := H2.out.size
         have HPD := Lib.hid hpd
         have HAM := Lib.hid ham
         clear hrp h0 h2 hpd ham)
      | (at_builtin; refine wpList_append_lies _ rfl (.tmp 28) (.tmp 29) 23 rfl w2.heap.size 3 i0 _ 1 8 Try.underlying23 HI.out HZ0.out HZ1.out HZ2.out rfl (by omega) (.slice (some ⟨w2.heap.size, 0, none⟩) 0 n) 0 [] rfl (own_made0 (Nat.le_refl _) (by unfold maxLen; omega) HMC.out) ⟨b, o, none⟩ n c (nums y n) rfl (by rw [nums_length, Nat.mul_one]) (RZ_news (HR.out.keep (bel_step H2.out (bel_a w2 _)))) (nums_one _ _) (by omega) (by unfold maxLen; omega) (by omega) (by simp) (w2.heap.size + 1) (by simp) ?_; intro g cap w3 hown3 hgrow3 hat3 hlt3; rw [Nat.zero_add, List.nil_append] at hown3))
    have hgb := (hown3.lt g rfl).1
    have hO := OwnR.of hown3
    have hb3 : Below w2.heap.size w2 w3 := (bel_a w2 _).grown hgrow3 (bel_a w2 _).size (fun g' hg' => by simp [Value.ownBlock] at hg'; omega)
    have HO := Lib.hid hO
    have HB3 := Lib.hid hb3
    have hTn := paid_lt HB.out HPD.out
    have hT8 := hn8.2
    clear hown3 hgrow3 hat3 hlt3 hO hb3 hmk
    go_loopw [8, 9] (fun s i wr => ∃ k : Nat, k ≤ T ∧ i = .int .i64 k ∧ s = .int .i64 (mvs n y k) ∧ OwnR wr g n cap (Yt n y k) ∧ Below w2.heap.size w2 wr) (fun _ i _ => T - (intOf i).toNat)
    case atStart => exact ⟨0, Nat.zero_le _, rfl, rfl, HO.out, HB3.out⟩
    case round =>
      obtain ⟨k, hk, rfl, rfl, hO, hbw⟩ := hrel
      have HOW := Lib.hid hO
      have HBW := Lib.hid hbw
      have hws := hbw.size
      have hng := ng_bd n HYB.out
      have hmn := mvs_ng hn8.1 HPD.out.1 k hk
      have hm0 := mvs_nn HPD.out.1 k hk
      have hPk := paid_pre HB.out HPD.out.1 k hk
      have hngk := ng_bd n hPk.2.2.1
      have hmv : mvs n y k ≤ 512000000000 := by omega
      clear hng hmn hngk hO hbw
      by_cases hlt : k < T
      · have ha := HPD.out.1 k hlt
        obtain ⟨f1, f2, f3, f4, f5, f6, f7, f8⟩ := am_facts hn8.1 ha
        have bu := hPk.2.2.1 _ f1
        have bd := hPk.2.2.1 _ f2
        have su := (Yt_sign hn8.1 HPD.out.1 k hk _ f1).1 f3
        have sd := (Yt_sign hn8.1 HPD.out.1 k hk _ f2).2 f4
        obtain ⟨bp, op, rfl, hbp, p0, p1, p2⟩ := (HRP.out.keep HBW.out) k hlt
        obtain ⟨b', o', e', hb', yu⟩ := (HR.out.keep (bel_step H2.out HBW.out)) _ f1
        cases e'
        obtain ⟨b', o', e', hb'', yd⟩ := (HR.out.keep (bel_step H2.out HBW.out)) _ f2
        cases e'
        have e0 : pym n y k 0 = (mnI (Yt n y k) n : Int) := rfl
        have e1 : pym n y k 1 = (mxI (Yt n y k) n : Int) := rfl
        have e2 : pym n y k 2 = am (Yt n y k) n := rfl
        rw [e0] at p0
        rw [e1] at p1
        rw [e2] at p2
        obtain ⟨lu, zu⟩ := HOW.out.at f1
        obtain ⟨ld, zd⟩ := HOW.out.at f2
        have HTWO : Hid (∀ W : World, OwnR W g n cap (Yt n y k) → OwnR ((W.setCell ⟨g, mnI (Yt n y k) n, none⟩ (.int .i64 (Yt n y k (mnI (Yt n y k) n) + am (Yt n y k) n))).setCell ⟨g, mxI (Yt n y k) n, none⟩ (.int .i64 (Yt n y k (mxI (Yt n y k) n) - am (Yt n y k) n))) g n cap (Yt n y (k + 1)) ∧ W.grownBy ((W.setCell ⟨g, mnI (Yt n y k) n, none⟩ (.int .i64 (Yt n y k (mnI (Yt n y k) n) + am (Yt n y k) n))).setCell ⟨g, mxI (Yt n y k) n, none⟩ (.int .i64 (Yt n y k (mxI (Yt n y k) n) - am (Yt n y k) n))) (some g)) := Lib.hid fun W h => own_two h f1 f2 f8 _
        have HMV : Hid (mvs n y k + am (Yt n y k) n = mvs n y (k + 1)) := Lib.hid rfl
        have hab : am (Yt n y k) n ≤ 64000000000 := by omega
        clear e0 e1 e2 hPk f5 f6 f7
        generalize mnI (Yt n y k) n = iu at *
        generalize mxI (Yt n y k) n = id at *
        generalize am (Yt n y k) n = amt at *
        generalize mvs n y k = mk at *
        generalize Yt n y k iu = yu0 at *
        generalize Yt n y k id = yd0 at *
        have i1 : (0 : Int) ≤ (k : Int) := by omega
        have i2 : (k : Int) < (T : Int) := by omega
        have i3 : (0 : Int) ≤ (iu : Int) := by omega
        have i4 : (iu : Int) < (n : Int) := by omega
        have i5 : (0 : Int) ≤ (id : Int) := by omega
        have i6 : (id : Int) < (n : Int) := by omega
        have q2 : decide ((n : Int) ≤ (iu : Int)) = false := decide_eq_false (by omega)
        have q3 : decide ((id : Int) < 0) = false := decide_eq_false (by omega)
        have q4 : decide ((n : Int) ≤ (id : Int)) = false := decide_eq_false (by omega)
        have q5 : decide (amt ≤ 0) = false := decide_eq_false (by omega)
        have q6 : decide (0 ≤ y iu) = false := decide_eq_false (by omega)
        have q7 : decide (y id ≤ 0) = false := decide_eq_false (by omega)
        go_wp2_with fail
        go_quiet (fail)
        have HOW' : Hid (OwnR (wr.drewN nq) g n cap (Yt n y k)) := Lib.hid (HOW.out.below (drewN_below _ _))
        have HBW' : Hid (Below w2.heap.size w2 (wr.drewN nq)) := Lib.hid (below_drewN HBW.out nq)
        have yu' : (wr.drewN nq).cell? ⟨b, o + iu, none⟩ = some (.int .i64 (y iu)) := yu
        have yd' : (wr.drewN nq).cell? ⟨b, o + id, none⟩ = some (.int .i64 (y id)) := yd
        have lu' : (wr.drewN nq).cell? ⟨g, iu, none⟩ = some (.int .i64 yu0) := lu
        have ld' : (wr.drewN nq).cell? ⟨g, id, none⟩ = some (.int .i64 yd0) := ld
        have zu' : (wr.drewN nq).frozen? ⟨g, iu, none⟩ = false := zu
        have zd' : (wr.drewN nq).frozen? ⟨g, id, none⟩ = false := zd
        obtain ⟨wx, hwx⟩ : ∃ wx, wr.drewN nq = wx := ⟨_, rfl⟩
        rw [hwx] at HOW' HBW' yu' yd' lu' ld' zu' zd' ⊢
        clear hwx yu yd lu ld zu zd p0 p1 p2
        have hxs := HBW'.out.size
        have e2 : (⟨g, iu, none⟩ : Addr) ≠ ⟨g, id, none⟩ := fun e => f8 (by injection e)
        have cd2 : (wx.setCell ⟨g, iu, none⟩ (.int .i64 (yu0 + amt))).cell? ⟨g, id, none⟩ = some (.int .i64 yd0) := by rw [World.cell?_setCell_other _ _ _ _ e2]; exact ld'
        go_wp2_with fail
        all_goals (try (exfalso; omega))
        have hfin := HTWO.out wx HOW'.out
        go_roundw
        case rel => exact ⟨k + 1, by omega, by go_num, by rw [← HMV.out], hfin.1, HBW'.out.grown hfin.2 HBW'.out.size (fun g' hg' => by cases hg'; exact hgb)⟩
        case measure => simp [intOf] <;> omega
      · obtain rfl : k = T := by omega
        have HZ := Lib.hid (am_zero hPk.2.2.2 HAM.out)
        have HMN : Hid (mvs n y k = ng y n) := Lib.hid (by have := mvs_ng hn8.1 HPD.out.1 k (Nat.le_refl _); rw [ng_zero n HZ.out] at this; omega)
        rw [HMN.out]
        clear hPk hmv hm0
        go_wp2_with fail
        obtain ⟨wf, rfl⟩ : ∃ wf, wf = wr := ⟨_, rfl⟩
        go_loopw [3, 13, 14] (fun u s i w4 => ∃ q : Nat, q ≤ n ∧ i = .int .i64 q ∧ u = .bool true ∧ s = .int .i64 (ng y q) ∧ wf = w4) (fun _ _ i _ => n - (intOf i).toNat)
        case atStart => exact ⟨0, Nat.zero_le _, rfl, rfl, rfl, rfl⟩
        case round =>
          obtain ⟨q, hq, rfl, rfl, rfl, rfl⟩ := hrel
          have hng := ng_bd q (fun i hi => HYB.out i (by omega))
          by_cases hlq : q < n
          · obtain ⟨b', o', e', hb', yq⟩ := (HR.out.keep (bel_step H2.out HBW.out)) q hlq
            cases e'
            have hyq := HYB.out q hlq
            have lq := (HOW.out.at hlq).1
            rw [HZ.out q hlq] at lq
            have i1 : (0 : Int) ≤ (q : Int) := by omega
            have i2 : (q : Int) < (n : Int) := by omega
            have HG : Hid (ng y q + max 0 (-(y q)) = ng y (q + 1)) := Lib.hid rfl
            have hngs : ng y q ≤ 512000000000 := by omega
            generalize ng y q = gq at *
            generalize y q = yq0 at *
            go_wp2_with fail
            all_goals (try (exfalso; omega))
            all_goals
              go_roundw
              case rel => exact ⟨q + 1, by omega, by go_num, rfl, by rw [← HG.out]; congr 1; omega, by simp⟩
              case measure => simp [intOf] <;> omega
          · obtain rfl : q = n := by omega
            have j1 : decide ((k : Int) < (q : Int)) = true := decide_eq_true (by omega)
            go_wp2_with fail
            go_ret
            exact ⟨rfl, bel_step H2.out HBW.out⟩
end Go.Proofs.Ytflehgdhdfmacaa
