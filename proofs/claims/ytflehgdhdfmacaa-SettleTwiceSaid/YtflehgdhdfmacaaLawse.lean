/-
  THE LAW SettleTwice, walked.
-/
import Derived.Test.YtflehgdhdfmacaaLawsea
namespace Go.Proofs.Ytflehgdhdfmacaa
open Go.RowKit
set_option linter.unusedVariables false
attribute [local go_sem ↓] Go.wp_at_zero Go.wp_at_succ

set_option maxRecDepth 100000 in
set_option maxHeartbeats 4000000 in
theorem twice_ok (b o n c : Nat) (X : Nat → Nat → Int) (m : Nat) (u home amount : Int) (j : Nat) (w : World) (hn : 1 ≤ n ∧ n ≤ 63) (hm : 1 ≤ m ∧ m ≤ 8) (hu : 0 ≤ u) (hj : u.tmod (n : Int) = (j : Int)) (hjn : j < n) (hX : RR w (some ⟨b, o, none⟩) n X) (hw : ∀ i, i < n → (Lit.int .i64 (X i 0)).wf = true) (hall : allR m X n) (hnd : ¬ dup X n) :
    Calls Try.prog 7 #[.slice (some ⟨b, o, none⟩) n c, .int .i64 (m : Int), .int .i64 u, .int .i64 home, .int .i64 amount] w fun e w' => e = .returned (.bool true) ∧ Below w.heap.size w w' := by
  have HX := Lib.hid hX
  have HW := Lib.hid hw
  have HALL := Lib.hid hall
  have HND := Lib.hid hnd
  clear hX hw hall hnd
  have z1 : ((n : Int) == 0) = false := by simp; omega
  have z2 : ¬ (n : Int) = 0 := by omega
  have z3 : decide ((63 : Int) < (n : Int)) = false := decide_eq_false (by omega)
  have z4 : decide (u < 0) = false := decide_eq_false (by omega)
  have j1 : (0 : Int) ≤ (j : Int) := by omega
  have j2 : (j : Int) < (n : Int) := by omega
  obtain ⟨r0, hr, hr0, hr1, hr2⟩ := info_parts infoRec
  have HJ := Lib.hid hr
  have HY0 := Lib.hid hr0
  have HY1 := Lib.hid hr1
  have HY2 := Lib.hid hr2
  have hmk : ∀ W : World, (Instr.makeSlice 22 (.int .i64 0) (.int .i64 64)).run Try.prog W = .ok (.slice (some ⟨W.heap.size, 0, none⟩) 0 64) (W.alloc (.cells (madeCells (rcV fun _ => 0).cells (64 * 13)) 40)) := fun W => by
    have := run_make_rowN (P := Try.prog) 22 40 r0 _ Try.underlying22 hr hr0 .i64 .i64 0 64 (by omega) (by rw [hr2]; omega) (by omega) W
    rw [hr1] at this
    exact this
  obtain ⟨mc, hmc⟩ : ∃ mc, madeCells (rcV fun _ => 0).cells (64 * 13) = mc := ⟨_, rfl⟩
  have HMC : Hid (mc.size = 64 * 13) := Lib.hid (by rw [← hmc]; simp [madeCells])
  rw [hmc] at hmk
  clear hmc hr hr0 hr1 hr2
  go_enter Try.func7, Try.ntmps7
  go_upto_region 5 with (first
    | (go_at_call 9; with_reducible refine (head_any _).mono ?_; rintro e w0 ⟨rfl, h0⟩)
    | (go_at_call 10; with_reducible refine (net_ok _ _ _ X m _ (by omega) (by omega) (HX.out.keep h0) HW.out HALL.out HND.out).mono ?_; rintro e w1 ⟨g, rfl, hO, h1⟩))
  all_goals (try (exfalso; omega))
  have H1 := Lib.hid (bel_step h0 h1)
  have HO1 := Lib.hid hO
  obtain ⟨b', o', e', hb, c0, c1, c2, c3, c4, c5, c6, c7, c8, c9, c10, c11, c12⟩ := (HX.out.keep H1.out).cells hjn
  cases e'
  clear h0 h1 hO
  go_upto_region 8 with (first
    | (go_at_call 19; with_reducible refine (rec_lit _ _ _ _ _).mono ?_; rintro e w2 ⟨rfl, h2⟩)
    | (go_at_call 20; with_reducible refine (settles_lit _ _ _ _ _ _).mono ?_; rintro e w3 ⟨rfl, h3⟩))
  have H2 := Lib.hid (bel_step (bel_alloc H1.out _) h2)
  have H3 := Lib.hid (bel_step (bel_alloc H2.out _) h3)
  have RB3 := Lib.hid ((RB.new w2 (rcX (X j 0) home (X j 4) amount)).keep h3)
  have HO3 := Lib.hid ((((HO1.out.below (bel_a w1 _)).below h2).below (bel_a w2 _)).below h3)
  clear c0 c1 c2 c3 c4 c5 c6 c7 c8 c9 c10 c11 c12 H1 HO1
  cases hok : okR m (rcX (X j 0) home (X j 4) amount)
  · go_wp2_with fail
    go_ret
    exact ⟨rfl, H3.out⟩
  · have HOK := Lib.hid hok
    have HMALL := Lib.hid (more_all HALL.out hok)
    have HMW := Lib.hid (more_wf (x := rcX (X j 0) home (X j 4) amount) HW.out (HW.out j hjn))
    have HMD := Lib.hid (more_dup (X := X) (n := n) (x := rcX (X j 0) home (X j 4) amount) hjn rfl rfl)
    have HMR := Lib.hid (more_recs X n (rcX (X j 0) home (X j 4) amount))
    obtain ⟨B5, hB5⟩ : ∃ B5, w2.heap.size = B5 := ⟨_, rfl⟩
    rw [hB5] at RB3 ⊢
    have hs3 := H3.out.size
    have HOR := Lib.hid (HX.out.keep H3.out)
    clear hok hB5 h2 h3 H2 HX
    go_upto_region 10 with (fail)
    generalize rcX (X j 0) home (X j 4) amount = x5 at *
    have rb := RB3.out
    have hb5 := rb.lt
    have hbe := Below.refl w3.heap.size w3
    go_cut [17] (fun v wx => ∃ g1 cap1, v = .slice (some ⟨g1, 0, none⟩) (n + 1) cap1 ∧ wx.ownsRow w3.heap.size 40 13 (.slice (some ⟨g1, 0, none⟩) (n + 1) cap1) (n + 1) (recs (more X n x5) (n + 1)) ∧ Below w3.heap.size w3 wx)
    case first =>
      obtain ⟨d0, d1, d2, d3, d4, d5, d6, d7, d8, d9, d10, d11, d12⟩ := RB3.out.get
      go_region_held3 (fun w' => w'.cell? ⟨B5, 0, none⟩ = some (.int .i64 (x5 0)) ∧ w'.cell? ⟨B5, 1, none⟩ = some (.int .i64 (x5 1)) ∧ w'.cell? ⟨B5, 2, none⟩ = some (.int .i64 (x5 2)) ∧ w'.cell? ⟨B5, 3, none⟩ = some (.int .i64 (x5 3)) ∧ w'.cell? ⟨B5, 4, none⟩ = some (.int .i64 (x5 4)) ∧ w'.cell? ⟨B5, 5, none⟩ = some (.int .i64 (x5 5)) ∧ w'.cell? ⟨B5, 6, none⟩ = some (.int .i64 (x5 6)) ∧ w'.cell? ⟨B5, 7, none⟩ = some (.int .i64 (x5 7)) ∧ w'.cell? ⟨B5, 8, none⟩ = some (.int .i64 (x5 8)) ∧ w'.cell? ⟨B5, 9, none⟩ = some (.int .u64 (x5 9)) ∧ w'.cell? ⟨B5, 10, none⟩ = some (.int .u64 (x5 10)) ∧ w'.cell? ⟨B5, 11, none⟩ = some (.int .u64 (x5 11)) ∧ w'.cell? ⟨B5, 12, none⟩ = some (.int .u64 (x5 12))) (exact RB.get (by repeat (first | with_reducible exact rb | with_reducible apply RB.alloc | with_reducible apply RB.drew)))
        (first
          | (refine step_app _ (by rfl) (.tmp 66) (.tmp 67) 22 (by rfl) w3.heap.size 40 r0 _ 13 104 Try.underlying22 HJ.out HY0.out HY1.out HY2.out (by rfl) (by omega) _ 0 [] (by rfl) (own_at0 (by first | exact heap_alloc_new w3 _ | exact (Below.heap_alloc _ _ _ (by simp)).trans (heap_alloc_new w3 _) | exact heap_second w3 _ _) (by first | omega | (simp <;> omega)) (by decide) HMC.out) ⟨b, o, none⟩ n c (recs X n) (by rfl) (recs_len _ _) (RR_news (HOR.out.keep (by repeat (first | with_reducible exact hbe | with_reducible apply bel_alloc | with_reducible apply Below.drew)))) (recs_one _ _) n (by omega) (by omega) (by unfold maxLen; omega) (by omega) (by first | omega | (simp <;> omega)) ?_; intro g1 cap1 wA hown1 hgrow1 hg1 hlt1; rw [List.nil_append] at hown1; have hbe := grow_h (by repeat (first | with_reducible exact hbe | with_reducible apply bel_alloc | with_reducible apply Below.drew)) hgrow1 (row_ge (by first | omega | (simp <;> omega))); have rb := RB.grown (by repeat (first | with_reducible exact rb | with_reducible apply RB.alloc | with_reducible apply RB.drew)) hgrow1 (row_ne (by first | omega | (simp <;> omega))); (try (first | (have rq : RB wA w3.heap.size x5 := RB.grown (((RB.new w3 x5).alloc _).drew) hgrow1 (row_ne (by first | omega | (simp <;> omega)))) | (have rq : RB wA (w3.heap.size + 1) x5 := RB.grown ((RB.second w3 _ x5).drew) hgrow1 (row_ne (by first | omega | (simp <;> omega)))))); clear hgrow1)
          | (refine step_app _ (by rfl) (.tmp 68) (.tmp 70) 22 (by rfl) w3.heap.size 40 r0 _ 13 104 Try.underlying22 HJ.out HY0.out HY1.out HY2.out (by rfl) (by omega) _ n _ (by rfl) (by first | exact hown1 | exact hown1.alloc _ | exact (hown1.alloc _).drew) ⟨_, 0, none⟩ 1 1 (rcL x5) (by rfl) (by rfl) (by first | exact RB.news rq | exact RB.news (RB.new wA x5)) (rcL_one _) (n + 1) (by omega) (by omega) (by unfold maxLen; omega) (by omega) (by have q := hbe.size; first | omega | (simp <;> omega)) ?_; intro g2 cap2 wB hown2 hgrow2 hg2 hlt2; rw [HMR.out] at hown2; have hbe := grow_h (by repeat (first | with_reducible exact hbe | with_reducible apply bel_alloc | with_reducible apply Below.drew)) hgrow2 (row_ge hg1); have rb := RB.grown (by repeat (first | with_reducible exact rb | with_reducible apply RB.alloc | with_reducible apply RB.drew)) hgrow2 (row_ne (by omega)); clear hgrow2 hown1))
      all_goals (go_wp2_with fail; go_meet)
      all_goals (exact ⟨g2, cap2, rfl, hown2, hbe⟩)
    case rest =>
      obtain ⟨g1, cap1, rfl, how, hbx⟩ := hcut
      have HOW := Lib.hid how
      have HBX := Lib.hid hbx
      have hcap : n + 1 ≤ cap1 ∧ cap1 ≤ 9223372036854775807 := by
        rcases how.2 with ⟨h', _⟩ | ⟨g', cap', cur, h', _, _, h1, h2, _⟩
        · cases h'
        · cases h'
          unfold maxLen at h2
          omega
      clear how hbx rb hbe
      have i1 : (0 : Int) ≤ (n : Int) := by omega
      have i2 : (n : Int) ≤ (cap1 : Int) := by omega
      have HGE := Lib.hid (get_congr n (more_old X n x5))
      go_wp2_with (first
        | (go_at_call 10; with_reducible refine (net_twice _ (n + 1) _ (more X n x5) m _ (by omega) (by omega) (RR_own HOW.out) HMW.out HMALL.out HMD.out).mono ?_; rintro e w5 ⟨rfl, h5⟩
           have HN5 := Lib.hid ((((RR_own HOW.out).keep h5).take (show n ≤ n + 1 by omega)).congr (more_old X n x5)))
        | (go_at_call 10; with_reducible refine (net_ok _ n _ X m _ (by omega) (by omega) HN5.out HW.out HALL.out HND.out).mono ?_; rintro e w6 ⟨g6, rfl, hO6, h6⟩)
        | (go_at_call 16; with_reducible refine (ints_yes _ _ _ _ _ (get X n) _ (by omega) (((HO3.out.below HBX.out).below h5).below h6).rz hO6.rz).mono ?_; rintro e w7 ⟨rfl, h7⟩))
      go_ret
      exact ⟨rfl, bel_step (bel_step (bel_step (bel_step H3.out HBX.out) h5) h6) h7⟩

set_option maxRecDepth 100000 in
set_option maxHeartbeats 4000000 in
theorem walk_twice (A : Option Addr) (n c : Nat) (X : Nat → Nat → Int) (m u home amount : Int) (w : World) (hn : n ≤ 9223372036854775807) (hX : RR w A n X) (hw : ∀ i, i < n → (Lit.int .i64 (X i 0)).wf = true) :
    Calls Try.prog 7 #[.slice A n c, .int .i64 m, .int .i64 u, .int .i64 home, .int .i64 amount] w fun e w' => e = .returned (.bool true) ∧ Below w.heap.size w w' := by
  by_cases h1 : n = 0
  · subst h1
    clear hX hw
    go_enter Try.func7, Try.ntmps7
    go_wp2_with (go_at_call 9; with_reducible refine (head_any _).mono ?_; rintro e w0 ⟨rfl, h0⟩)
    all_goals (try (exfalso; omega))
    go_ret
    exact ⟨rfl, h0⟩
  · have z1 : ((n : Int) == 0) = false := by simp; omega
    by_cases h2 : 63 < n
    · have z3 : decide ((63 : Int) < (n : Int)) = true := decide_eq_true (by omega)
      clear hX hw
      go_enter Try.func7, Try.ntmps7
      go_wp2_with (go_at_call 9; with_reducible refine (head_any _).mono ?_; rintro e w0 ⟨rfl, h0⟩)
      all_goals (try (exfalso; omega))
      go_ret
      exact ⟨rfl, h0⟩
    · by_cases h3 : u < 0
      · have z3 : decide ((63 : Int) < (n : Int)) = false := decide_eq_false (by omega)
        have z4 : decide (u < 0) = true := decide_eq_true h3
        clear hX hw
        go_enter Try.func7, Try.ntmps7
        go_wp2_with (go_at_call 9; with_reducible refine (head_any _).mono ?_; rintro e w0 ⟨rfl, h0⟩)
        all_goals (try (exfalso; omega))
        go_ret
        exact ⟨rfl, h0⟩
      · obtain ⟨b, o, rfl, _⟩ := hX 0 (by omega)
        have t1 : u.tmod (n : Int) = u % (n : Int) := Int.tmod_eq_emod_of_nonneg (by omega)
        have t2 : 0 ≤ u % (n : Int) := Int.emod_nonneg _ (by omega)
        have t3 : u % (n : Int) < n := Int.emod_lt_of_pos _ (by omega)
        by_cases hok : OkN X n m
        · obtain ⟨hm, hall, hnd⟩ := hok
          obtain ⟨mm, rfl⟩ : ∃ mm : Nat, m = mm := ⟨m.toNat, by omega⟩
          exact twice_ok b o n c X mm u home amount (u % (n : Int)).toNat w (by omega) (by omega) (by omega) (by omega) (by omega) hX hw hall hnd
        · exact twice_bad b o n c X m u home amount (u % (n : Int)).toNat w (by omega) (by omega) (by omega) (by omega) hX hw hok
end Go.Proofs.Ytflehgdhdfmacaa
