/-
  THE LAW SettleSums, walked.
-/
import Derived.Test.YtflehgdhdfmacaaLaws
namespace Go.Proofs.Ytflehgdhdfmacaa
open Go.RowKit
set_option linter.unusedVariables false
attribute [local go_sem ↓] Go.wp_at_zero Go.wp_at_succ

/-- the records can be settled -/
def OkN (X : Nat → Nat → Int) (n : Nat) (m : Int) : Prop := (1 ≤ m ∧ m ≤ 8) ∧ allR m X n ∧ ¬ dup X n
theorem net_bad (A : Option Addr) (n c : Nat) (X : Nat → Nat → Int) (m : Int) (w : World) (hn : n ≤ 64) (hR : RR w A n X) (hw : ∀ i, i < n → (Lit.int .i64 (X i 0)).wf = true) (hbad : ¬ OkN X n m) :
    Calls Try.prog 10 #[.slice A n c, .int .i64 m] w fun e w' => ∃ er, e = .returned (.tuple #[.slice none 0 0, .int .i64 er]) ∧ (er = 1 ∨ er = 5) ∧ Below w.heap.size w w' := by
  refine (net_all A n c X m w (by omega) hR hw).mono ?_
  rintro e w' ⟨v, er, rfl, h, hb⟩
  rcases h with ⟨h1, _⟩ | ⟨_, _, rfl, rfl⟩ | ⟨_, h1, ⟨rfl, rfl, h⟩ | ⟨rfl, rfl, h⟩ | ⟨_, h2, h3, _⟩⟩
  · omega
  · exact ⟨1, rfl, .inl rfl, hb⟩
  · exact ⟨1, rfl, .inl rfl, hb⟩
  · exact ⟨5, rfl, .inr rfl, hb⟩
  · rw [show ((m.toNat : Nat) : Int) = m by omega] at h2
    exact absurd ⟨h1, h2, h3⟩ hbad

theorem tot_get {X : Nat → Nat → Int} {m : Nat} : ∀ k, allR m X k → tot (get X k) m = 0 := by
  intro k
  induction k with
  | zero => intro _; simp only [get]; exact (show ∀ j, tot (fun _ => 0) j = 0 from fun j => by induction j with | zero => rfl | succ j ih => simp [tot, ih]) m
  | succ k ih =>
    intro h
    have h1 := okR_iff.1 (h k (by omega))
    simp only [get]
    rw [tot_upd, ih fun i hi => h i (by omega), if_pos (by omega), if_pos (by omega)]
    omega
theorem get_congr {X Y : Nat → Nat → Int} : ∀ k, (∀ i, i < k → X i = Y i) → get X k = get Y k := by
  intro k
  induction k with
  | zero => intro _; rfl
  | succ k ih => intro h; simp only [get]; rw [ih fun i hi => h i (by omega), h k (by omega)]
/-- some of k records, in their order, by which the networks get the same -/
def Sub (X : Nat → Nat → Int) (k : Nat) (Y : Nat → Nat → Int) (q : Nat) : Prop :=
  q ≤ k ∧ get Y q = get X k ∧ ∃ sel : Nat → Nat, (∀ i, i < q → sel i < k ∧ Y i = X (sel i)) ∧ ∀ i j, i < j → j < q → sel i < sel j
theorem Sub.start (X : Nat → Nat → Int) : Sub X 0 X 0 := ⟨Nat.le_refl _, rfl, fun i => i, fun i hi => by omega, fun i j _ hj => by omega⟩
theorem Sub.skip {X : Nat → Nat → Int} {k : Nat} {Y : Nat → Nat → Int} {q : Nat} (h : Sub X k Y q) (he : X k 3 = X k 4) : Sub X (k + 1) Y q := by
  obtain ⟨h1, h2, sel, h3, h4⟩ := h
  refine ⟨by omega, ?_, sel, fun i hi => ⟨by have := (h3 i hi).1; omega, (h3 i hi).2⟩, h4⟩
  rw [h2]
  simp only [get]
  funext i
  unfold mvd
  rw [he]
  omega
theorem Sub.push {X : Nat → Nat → Int} {k : Nat} {Y : Nat → Nat → Int} {q : Nat} (h : Sub X k Y q) : Sub X (k + 1) (fun i => if i = q then X k else Y i) (q + 1) ∧ recs Y q ++ rcL (X k) = recs (fun i => if i = q then X k else Y i) (q + 1) := by
  obtain ⟨h1, h2, sel, h3, h4⟩ := h
  have hc : ∀ i, i < q → (fun i => if i = q then X k else Y i) i = Y i := fun i hi => if_neg (by omega)
  refine ⟨⟨by omega, ?_, fun i => if i = q then k else sel i, fun i hi => ?_, fun i j hij hj => ?_⟩, ?_⟩
  · simp only [get, if_true]
    rw [get_congr q hc, h2]
  · by_cases e : i = q
    · simp [e]
    · have := h3 i (by omega)
      simp only [if_neg e]
      exact ⟨by omega, this.2⟩
  · have e : i ≠ q := by omega
    by_cases e' : j = q
    · have := h3 i (by omega)
      simp only [if_neg e, if_pos e']
      omega
    · simp only [if_neg e, if_neg e']
      exact h4 i j hij (by omega)
  · simp only [recs, if_true]
    rw [recs_congr q hc]
theorem Sub.ok {X : Nat → Nat → Int} {k : Nat} {Y : Nat → Nat → Int} {q : Nat} {m : Int} (h : Sub X k Y q) (ha : allR m X k) (hd : ¬ dup X k) : allR m Y q ∧ ¬ dup Y q := by
  obtain ⟨h1, h2, sel, h3, h4⟩ := h
  refine ⟨fun i hi => by rw [(h3 i hi).2]; exact ha _ (h3 i hi).1, ?_⟩
  rintro ⟨i, hi, j, hj, e1, e2⟩
  rw [(h3 i hi).2, (h3 j (by omega)).2] at e1 e2
  exact hd ⟨sel i, (h3 i hi).1, sel j, h4 j i hj hi, e1, e2⟩
theorem Sub.wf {X : Nat → Nat → Int} {k : Nat} {Y : Nat → Nat → Int} {q : Nat} (h : Sub X k Y q) (hw : ∀ i, i < k → (Lit.int .i64 (X i 0)).wf = true) : ∀ i, i < q → (Lit.int .i64 (Y i 0)).wf = true := by
  obtain ⟨h1, h2, sel, h3, h4⟩ := h
  intro i hi
  rw [(h3 i hi).2]
  exact hw _ (h3 i hi).1
theorem tot_bdg {X : Nat → Nat → Int} {m : Nat} {k : Nat} (h : allR m X k) (hk : k ≤ 64) (i : Nat) (hi : i ≤ 8) : -600000000000 ≤ tot (get X k) i ∧ tot (get X k) i ≤ 600000000000 := by
  have := tot_bd (y := get X k) (B := 64000000000) i fun j hj => by have := get_bd k h j; omega
  omega

set_option maxRecDepth 100000 in
set_option maxHeartbeats 4000000 in
theorem walk_sums (A : Option Addr) (n c : Nat) (X : Nat → Nat → Int) (m : Int) (w : World) (hn : n ≤ 9223372036854775807) (hX : RR w A n X) (hw : ∀ i, i < n → (Lit.int .i64 (X i 0)).wf = true) :
    Calls Try.prog 4 #[.slice A n c, .int .i64 m] w fun e w' => e = .returned (.bool true) ∧ Below w.heap.size w w' := by
  have HX := Lib.hid hX
  have HW := Lib.hid hw
  clear hX hw
  by_cases hg : n ≤ 64
  · by_cases hok : OkN X n m
    · obtain ⟨hm, hall, hnd⟩ := hok
      obtain ⟨mm, rfl⟩ : ∃ mm : Nat, m = mm := ⟨m.toNat, by omega⟩
      have HALL := Lib.hid hall
      have HND := Lib.hid hnd
      clear hall hnd
      obtain ⟨r0, hr, hr0, hr1, hr2⟩ := info_parts infoRec
      have HJ := Lib.hid hr
      have HY0 := Lib.hid hr0
      have HY1 := Lib.hid hr1
      have HY2 := Lib.hid hr2
      clear hr hr0 hr1 hr2
      go_enter Try.func4, Try.ntmps4
      go_wp2_with (first
        | (go_at_call 9; with_reducible refine (head_any _).mono ?_; rintro e w0 ⟨rfl, h0⟩)
        | (go_at_call 10; with_reducible refine (net_ok _ _ _ X mm _ hg (by omega) (HX.out.keep h0) HW.out HALL.out HND.out).mono ?_; rintro e w1 ⟨g, rfl, hO, h1⟩))
      all_goals (try (exfalso; omega))
      have H1 := Lib.hid (bel_step h0 h1)
      have HO := Lib.hid hO
      have hs1 := H1.out.size
      clear hO h0 h1
      go_loopw [8, 9] (fun s i w2 => ∃ k : Nat, k ≤ mm ∧ i = .int .i64 k ∧ s = .int .i64 (tot (get X n) k) ∧ w1 = w2) (fun _ i _ => mm - (intOf i).toNat)
      case atStart => exact ⟨0, Nat.zero_le _, rfl, rfl, rfl⟩
      case round =>
        obtain ⟨k, hk, rfl, rfl, rfl⟩ := hrel
        have tb := tot_bdg HALL.out hg k (by omega)
        by_cases hlt : k < mm
        · have hc := (HO.out.at hlt).1
          have gb := get_bd n HALL.out k
          have i1 : (k : Int) < (mm : Int) := by omega
          have HT : Hid (tot (get X n) k + get X n k = tot (get X n) (k + 1)) := Lib.hid rfl
          generalize tot (get X n) k = tk at *
          generalize get X n k = gk at *
          go_wp2_with fail
          go_roundw
          case rel => exact ⟨k + 1, by omega, by go_num, by rw [← HT.out], by simp⟩
          case measure => simp [intOf] <;> omega
        · obtain rfl : k = mm := by omega
          rw [tot_get n HALL.out]
          clear tb
          go_wp2_with fail
          go_loopw [10, 11] (fun v i w2 => ∃ (k q : Nat) (Y : Nat → Nat → Int), k ≤ n ∧ i = .int .i64 k ∧ Sub X k Y q ∧ w2.ownsRow w1.heap.size 40 13 v q (recs Y q) ∧ Below w1.heap.size w1 w2) (fun _ i _ => n - (intOf i).toNat)
          case atStart => exact ⟨0, 0, X, Nat.zero_le _, rfl, Sub.start X, World.ownsRow_nil _ _ _ _, Below.refl _ _⟩
          case round =>
            obtain ⟨q, s, Y, hq, rfl, hsub, how, hb2⟩ := hrel
            obtain ⟨A9, c9, hv9, hc9⟩ : ∃ A9 c9, u10 = .slice A9 s c9 ∧ (s ≤ c9 ∧ c9 ≤ 9223372036854775807) := by
              rcases how.2 with ⟨h', h''⟩ | ⟨g', cap', cur, h', _, _, h1, h2, _⟩
              · exact ⟨none, 0, by rw [h', h''], by omega⟩
              · exact ⟨_, cap', h', by unfold maxLen at h2; omega⟩
            subst hv9
            have hsz := hb2.size
            have hsq := hsub.1
            have HOW := Lib.hid how
            have HB2 := Lib.hid hb2
            have HSUB := Lib.hid hsub
            clear how hb2 hsub
            by_cases hlt : q < n
            · obtain ⟨b, o, rfl, hb, c0, c1, c2, c3, c4, c5, c6, c7, c8, c9', c10, c11, c12⟩ := (HX.out.keep (bel_step H1.out HB2.out)).cells hlt
              have i0 : (0 : Int) ≤ (q : Int) := by omega
              have i1 : (q : Int) < (n : Int) := by omega
              by_cases he : X q 3 = X q 4
              · have HS := Lib.hid (HSUB.out.skip he)
                have e3 : (X q 3 != X q 4) = false := by simpa using he
                clear he
                go_wp2_with fail
                go_quiet (fail)
                go_wp2_with fail
                go_roundw
                case rel => exact ⟨q + 1, s, Y, by omega, by go_num, HS.out, own_below HOW.out (drewN_below _ _), below_drewN HB2.out _⟩
                case measure => simp [intOf] <;> omega
              · have HS := Lib.hid HSUB.out.push
                have e3 : (X q 3 != X q 4) = true := by simpa using he
                clear he
                go_wp2_with fail
                go_quiet (fail)
                have HOW' := Lib.hid (own_below HOW.out (drewN_below wr nq))
                have HB' := Lib.hid (below_drewN HB2.out nq)
                obtain ⟨wx, hwx⟩ : ∃ wx, wr.drewN nq = wx := ⟨_, rfl⟩
                have d0 : wx.cell? ⟨b, o + q * 13, none⟩ = some (.int .i64 (X q 0)) := by rw [← hwx]; exact c0
                have d1 : wx.cell? ⟨b, o + q * 13 + 1, none⟩ = some (.int .i64 (X q 1)) := by rw [← hwx]; exact c1
                have d2 : wx.cell? ⟨b, o + q * 13 + 2, none⟩ = some (.int .i64 (X q 2)) := by rw [← hwx]; exact c2
                have d3 : wx.cell? ⟨b, o + q * 13 + 3, none⟩ = some (.int .i64 (X q 3)) := by rw [← hwx]; exact c3
                have d4 : wx.cell? ⟨b, o + q * 13 + 4, none⟩ = some (.int .i64 (X q 4)) := by rw [← hwx]; exact c4
                have d5 : wx.cell? ⟨b, o + q * 13 + 5, none⟩ = some (.int .i64 (X q 5)) := by rw [← hwx]; exact c5
                have d6 : wx.cell? ⟨b, o + q * 13 + 6, none⟩ = some (.int .i64 (X q 6)) := by rw [← hwx]; exact c6
                have d7 : wx.cell? ⟨b, o + q * 13 + 7, none⟩ = some (.int .i64 (X q 7)) := by rw [← hwx]; exact c7
                have d8 : wx.cell? ⟨b, o + q * 13 + 8, none⟩ = some (.int .i64 (X q 8)) := by rw [← hwx]; exact c8
                have d9 : wx.cell? ⟨b, o + q * 13 + 9, none⟩ = some (.int .u64 (X q 9)) := by rw [← hwx]; exact c9'
                have d10 : wx.cell? ⟨b, o + q * 13 + 10, none⟩ = some (.int .u64 (X q 10)) := by rw [← hwx]; exact c10
                have d11 : wx.cell? ⟨b, o + q * 13 + 11, none⟩ = some (.int .u64 (X q 11)) := by rw [← hwx]; exact c11
                have d12 : wx.cell? ⟨b, o + q * 13 + 12, none⟩ = some (.int .u64 (X q 12)) := by rw [← hwx]; exact c12
                rw [hwx] at HOW' HB' ⊢
                have hbs := HB'.out.size
                clear hwx c0 c1 c2 c3 c4 c5 c6 c7 c8 c9' c10 c11 c12 HOW HB2
                go_wp2_with (at_builtin; refine wpList_append_lies _ rfl (.tmp 62) (.tmp 67) 22 rfl w1.heap.size 40 r0 _ 13 104 Try.underlying22 HJ.out HY0.out HY1.out HY2.out rfl (by omega) (.slice A9 s c9) s _ rfl (HOW'.out.alloc _) ⟨wx.heap.size, 0, none⟩ 1 1 (rcL (X q)) rfl rfl (World.news_of_block (heap_alloc_new wx _)) (rcL_one _) (by omega) (by unfold maxLen; omega) (by omega) (by simp; omega) (wx.heap.size + 1) (by simp) ?_; intro g1 cap1 wB hown1 hgrow1 hat1 hlt1; rw [HS.out.2] at hown1)
                have hbB : Below w1.heap.size w1 wB := (bel_alloc HB'.out _).grown hgrow1 (bel_alloc HB'.out _).size (own_ge HOW'.out)
                go_roundw
                case rel => exact ⟨q + 1, s + 1, _, by omega, by go_num, HS.out.1, hown1, hbB⟩
                case measure => simp [intOf] <;> omega
            · obtain rfl : q = n := by omega
              have HSO := Lib.hid (HSUB.out.ok HALL.out HND.out)
              have HGE := Lib.hid HSUB.out.2.1
              have HSW := Lib.hid (HSUB.out.wf HW.out)
              go_wp2_with (first
                | (go_at_call 10; with_reducible refine (net_ok _ _ _ Y k _ (by omega) (by omega) (RR_own HOW.out) HSW.out HSO.out.1 HSO.out.2).mono ?_; rintro e w3 ⟨g3, rfl, hO3, h3⟩; rw [HGE.out] at hO3)
                | (go_at_call 16; with_reducible refine (ints_yes _ _ _ _ _ (get X q) _ (by omega) ((HO.out.below HB2.out).below h3).rz hO3.rz).mono ?_; rintro e w4 ⟨rfl, h4⟩))
              go_ret
              exact ⟨rfl, bel_step (bel_step (bel_step H1.out HB2.out) h3) h4⟩
    · have HBAD := Lib.hid hok
      clear hok
      go_enter Try.func4, Try.ntmps4
      go_upto_region 5 with (first
        | (go_at_call 9; with_reducible refine (head_any _).mono ?_; rintro e w0 ⟨rfl, h0⟩)
        | (go_at_call 10; with_reducible refine (net_bad _ _ _ X m _ hg (HX.out.keep h0) HW.out HBAD.out).mono ?_; rintro e w1 ⟨er, rfl, her, h1⟩))
      all_goals (try (exfalso; omega))
      have H1 := Lib.hid (bel_step h0 h1)
      rcases her with rfl | rfl
      all_goals
        go_wp2_with fail
        go_ret
        exact ⟨rfl, H1.out⟩
  · go_enter Try.func4, Try.ntmps4
    go_wp2_with (go_at_call 9; with_reducible refine (head_any _).mono ?_; rintro e w0 ⟨rfl, h0⟩)
    all_goals (try (exfalso; omega))
    go_ret
    exact ⟨rfl, h0⟩
end Go.Proofs.Ytflehgdhdfmacaa
