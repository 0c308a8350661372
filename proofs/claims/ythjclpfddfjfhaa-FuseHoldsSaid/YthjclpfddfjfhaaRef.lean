/-
  THE WALKS: fuse.Holds and the reference implementation.
-/
import Derived.Test.YthjclpfddfjfhaaMelts
namespace Go.Proofs.Ythjclpfddfjfhaa
open Go.RowKit
set_option linter.unusedVariables false
attribute [local go_sem ↓] Go.wp_at_zero Go.wp_at_succ

theorem below_drewN {B : Nat} {a w : World} (h : Below B a w) (n : Nat) : Below B a (w.drewN n) := ⟨h.os, h.tape, h.output, h.size, h.block⟩
theorem rcur (n : Int) (w : World) : Calls Try.prog 24 #[.int .i64 n] w fun e w' => e = .returned (.bool (inB n 0 1000)) ∧ w = w' := by
  by_cases h1 : 0 ≤ n
  · by_cases h2 : n ≤ 1000
    · have hr : Hid (true = inB n 0 1000) := by show _ = _; simp [inB]; omega
      go_enter Try.func24, Try.ntmps24
      go_wp2
      go_ret
      exact ⟨ret_bool hr.out, rfl⟩
    · have hr : Hid (false = inB n 0 1000) := by show _ = _; simp [inB]; omega
      go_enter Try.func24, Try.ntmps24
      go_wp2
      go_ret
      exact ⟨ret_bool hr.out, rfl⟩
  · have hr : Hid (false = inB n 0 1000) := by show _ = _; simp [inB]; omega
    have e1 : decide (0 ≤ n) = false := by simpa using h1
    go_enter Try.func24, Try.ntmps24
    go_wp2
    go_ret
    exact ⟨ret_bool hr.out, rfl⟩

set_option maxHeartbeats 1000000 in
theorem rvalid (r h : Int) (w : World) :
    Calls Try.prog 17 #[.agg #[.int .i64 r, .int .i64 h]] w fun e w' => e = .returned (.bool (vF r h)) ∧ Below w.heap.size w w' := by
  go_enter Try.func17, Try.ntmps17
  go_wp2
  all_goals go_ret
  all_goals exact ⟨ret_bool (by grind [vF, inB]), bel_alloc (Below.refl _ _) _⟩

set_option maxHeartbeats 1000000 in
theorem rmore (r h a : Int) (w : World) (hr : 0 ≤ r ∧ r ≤ 1000) (ha : 0 ≤ a ∧ a ≤ 1000) :
    Calls Try.prog 25 #[.agg #[.int .i64 r, .int .i64 h], .int .i64 a] w fun e w' => e = .returned (.int .i64 (mo r a)) ∧ Below w.heap.size w w' := by
  have ha2 := sq_bd ha
  have hr2 := sq_bd hr
  go_enter Try.func25, Try.ntmps25
  go_wp2
  all_goals go_ret
  all_goals exact ⟨ret_int (by grind [mo]), bel_alloc (Below.refl _ _) _⟩

set_option maxHeartbeats 1000000 in
theorem rnext (r h t a : Int) (w : World) :
    Calls Try.prog 12 #[.agg #[.int .i64 r, .int .i64 h], .int .i64 t, .int .i64 a] w fun e w' => e = .returned (.tuple #[.int .i64 (nV r h t a), .int .i64 (nE r h t a)]) ∧ Below w.heap.size w w' := by
  go_enter Try.func12, Try.ntmps12
  go_wp2_with fail
  refine (rvalid r h _).mono ?_
  rintro e w1 ⟨rfl, hb⟩
  have h1 := bel_step (bel_alloc (Below.refl w.heap.size w) _) hb
  have mf := (FB.new w r h).keep hb
  obtain ⟨c0, c1, c2, c3⟩ := mf.get
  clear hb
  go_wp2_with fail
  refine (rcur a _).mono ?_
  rintro e w2 ⟨rfl, rfl⟩
  go_wp2_with fail
  all_goals first
    | (go_ret2; exact ⟨ret_two (by grind [nV, nE, vF, inB]) (by grind [nV, nE, vF, inB]), h1⟩)
    | skip
  refine (rmore r h a _ (by grind [vF, inB]) (by grind [inB])).mono ?_
  rintro e w3 ⟨rfl, hb⟩
  have h2 := bel_step h1 hb
  clear hb
  have hm := nH_mo (r := r) (n := t) (a := a) (by grind)
  have hb := mo_bd (r := r) (a := a) (by grind [vF, inB]) (by grind [inB])
  have hh : h ≤ 1000000000 := by grind [vF, inB]
  have HM := Lib.hid hm
  clear hm
  go_wp2
  all_goals go_ret2
  all_goals (have hm := HM.out; exact ⟨ret_two (by grind [nV, nE, vF, inB]) (by grind [nV, nE, vF, inB]), h2⟩)

/-- what Holds returns -/
def oV (r h t a : Int) : Int := if nE r h t a = 0 then hd r h t a else 0

set_option maxHeartbeats 1000000 in
theorem holds_any (r h t a : Int) (w : World) :
    Calls Try.prog 15 #[.agg #[.int .i64 r, .int .i64 h], .int .i64 t, .int .i64 a] w fun e w' => e = .returned (.tuple #[.int .i64 (oV r h t a), .int .i64 (nE r h t a)]) ∧ Below w.heap.size w w' := by
  by_cases h0 : nE r h t a = 0
  · have t0 : (nE r h t a != 0) = false := by simpa using h0
    have hx : vF r h = true ∧ inB t 0 h = true ∧ inB a 0 1000 = true := by grind [nE]
    have hvb := vF_iff.1 hx.1
    have htb := inB_iff.1 hx.2.1
    have hab := inB_iff.1 hx.2.2
    have ho : Hid (oV r h t a = hd r h t a) := by show _ = _; simp [oV, h0]
    have H0 := Lib.hid h0
    clear h0 hx
    go_enter Try.func15, Try.ntmps15
    go_wp2_with fail
    refine (next_any r h t a _).mono ?_
    rintro e w1 ⟨rfl, hb⟩
    have h1 := bel_step (bel_alloc (Below.refl w.heap.size w) _) hb
    have mf := (FB.new w r h).keep hb
    obtain ⟨c0, c1, c2, c3⟩ := mf.get
    clear hb
    have x1 := WB.new w1 r h t
    have h2 := bel_alloc h1 (.cells #[.int .i64 r, .int .i64 h, .int .i64 t] 45)
    have hmb := mo_bd (r := r) (a := a) (by omega) hab
    by_cases hr0 : r = 0
    · subst hr0
      go_wp2_with (first
        | (go_at_call 28; refine (none_any 0 h t w1.heap.size _ x1).mono ?_; rintro e w2 ⟨rfl, rfl⟩))
      go_ret2
      exact ⟨ret_two (by rw [ho.out]; simp [hd, mo]) H0.out.symm, h2⟩
    · have e0 : (r == 0) = false := by simp; omega
      have em : mo r a = a * a - r * r := by unfold mo; rw [if_neg hr0]
      have EM := Lib.hid em
      rw [em] at hmb
      have HR0 := Lib.hid hr0
      clear em hr0
      by_cases hg : a * a - r * r ≤ 0
      · have e1 : decide (a * a - r * r ≤ 0) = true := by simpa using hg
        go_wp2_with (first
          | (go_at_call 28; refine (none_any r h t w1.heap.size _ x1).mono ?_; rintro e w2 ⟨rfl, rfl⟩)
          | (go_at_call 29; refine (gain_any r h t a w1.heap.size _ x1 hab (by omega)).mono ?_; rintro e w2 ⟨rfl, rfl⟩))
        go_ret2
        exact ⟨ret_two (by rw [ho.out]; simp [hd, EM.out, hg]) H0.out.symm, h2.drew⟩
      · have e1 : decide (a * a - r * r ≤ 0) = false := by simpa using hg
        go_wp2_with (first
          | (go_at_call 28; refine (none_any r h t w1.heap.size _ x1).mono ?_; rintro e w2 ⟨rfl, rfl⟩)
          | (go_at_call 29; refine (gain_any r h t a w1.heap.size _ x1 hab (by omega)).mono ?_; rintro e w2 ⟨rfl, rfl⟩))
        have x2 : WB (w1.alloc (.cells #[.int .i64 r, .int .i64 h, .int .i64 t] 45)).drew w1.heap.size r h t := x1.drew
        have h3 : Below w.heap.size w (w1.alloc (.cells #[.int .i64 r, .int .i64 h, .int .i64 t] 45)).drew := h2.drew
        clear x1 h2
        generalize (w1.alloc (.cells #[.int .i64 r, .int .i64 h, .int .i64 t] 45)).drew = W2 at x2 h3 ⊢
        obtain ⟨d0, d1, d2, _⟩ := x2.get
        have u1 : IntKind.i64.wrap (h - t) = h - t := IntWalk.i64_in _ (by omega)
        have e2 : (a * a - r * r == 0) = false := by simp; omega
        have e3 : (h - t).tdiv (a * a - r * r) = (h - t) / (a * a - r * r) := Int.tdiv_eq_ediv_of_nonneg (by omega)
        have hq : 0 ≤ (h - t) / (a * a - r * r) := Int.ediv_nonneg (by omega) (by omega)
        have hq2 : (h - t) / (a * a - r * r) ≤ h - t := Int.ediv_le_self _ (by omega)
        have u2 : IntKind.i64.wrap ((h - t) / (a * a - r * r)) = (h - t) / (a * a - r * r) := IntWalk.i64_in _ (by omega)
        have E3 := Lib.hid e3
        go_quiet ((go_at_call 29; exact Calls.quiet_of ((gain_any r h t a w1.heap.size _ (x2.drewN _) hab (by omega)).mono fun e w' ⟨he, hw⟩ => ⟨he, 1, hw⟩)))
        go_wp2
        go_ret2
        exact ⟨ret_two (by rw [ho.out]; unfold hd; rw [EM.out, if_neg (by omega)]) H0.out.symm, below_drewN h3 _⟩
  · have t0 : (nE r h t a != 0) = true := by simpa using h0
    have ho : Hid (oV r h t a = 0) := by show _ = _; simp [oV, h0]
    have H0 := Lib.hid h0
    clear h0
    go_enter Try.func15, Try.ntmps15
    go_wp2_with fail
    refine (next_any r h t a _).mono ?_
    rintro e w1 ⟨rfl, hb⟩
    have h1 := bel_step (bel_alloc (Below.refl w.heap.size w) _) hb
    clear hb
    go_wp2_with fail
    go_ret2
    exact ⟨ret_two ho.out.symm rfl, h1⟩

theorem allB_succ (z : Nat → Int) (k : Nat) : allB z (k + 1) = (allB z k && inB (z k) 0 1000) := by
  rw [Bool.eq_iff_iff]
  simp only [allB, Bool.and_eq_true, decide_eq_true_eq]
  exact ⟨fun h => ⟨fun i hi => h i (by omega), h k (by omega)⟩, fun h => all_snoc h.1 h.2⟩
theorem allB_iff {z : Nat → Int} {k : Nat} : allB z k = true ↔ ∀ i, i < k → 0 ≤ z i ∧ z i ≤ 1000 := by simp [allB, inB]
theorem FB.cells {w : World} {b : Nat} {r h : Int} (x : FB w b r h) : w.cell? ⟨b, 0, none⟩ = some (.int .i64 r) ∧ w.cell? ⟨b, 1, none⟩ = some (.int .i64 h) := ⟨x.get.1, x.get.2.1⟩

theorem mE_at {r h : Int} {z : Nat → Int} {k j : Nat} (hv : vF r h = true) (hz : ∀ i, i < k → inB (z i) 0 1000 = true) (hj : j < k) (hn : ∀ i, i < j → ht r z (i + 1) ≤ h) (hm : h < ht r z (j + 1)) : mV r h z k = j ∧ mE r h z k = 0 := by
  have hy := mE_yes (h := h) hv hz
  rw [mt_at hj hn hm] at hy
  exact hy
theorem mE_none {r h : Int} {z : Nat → Int} {k : Nat} (hv : vF r h = true) (hz : ∀ i, i < k → inB (z i) 0 1000 = true) (hn : ∀ i, i < k → ht r z (i + 1) ≤ h) : mV r h z k = -1 ∧ mE r h z k = 0 := by
  have hy := mE_yes (h := h) hv hz
  rw [mt_none hn] at hy
  exact hy

set_option maxHeartbeats 1000000 in
theorem rmelts_long (r h : Int) (A : Option Addr) (len cap : Nat) (w : World) (hl : 10000 < len) (hl2 : len ≤ 9223372036854775807) :
    Calls Try.prog 14 #[.agg #[.int .i64 r, .int .i64 h], .slice A len cap] w
      fun e w' => e = .returned (.tuple #[.int .i64 0, .int .i64 2]) ∧ Below w.heap.size w w' := by
  go_enter Try.func14, Try.ntmps14
  go_wp2
  go_ret2
  exact ⟨rfl, bel_alloc (Below.refl _ _) _⟩

set_option maxRecDepth 100000 in
set_option maxHeartbeats 2000000 in
theorem rmelts_short (r h : Int) (A : Option Addr) (len cap : Nat) (z : Nat → Int) (w : World) (hl : len ≤ 10000) (hR : RZ w A len z) :
    Calls Try.prog 14 #[.agg #[.int .i64 r, .int .i64 h], .slice A len cap] w
      fun e w' => e = .returned (.tuple #[.int .i64 (mV r h z len), .int .i64 (mE r h z len)]) ∧ Below w.heap.size w w' := by
  have HR := Lib.hid hR
  clear hR
  go_enter Try.func14, Try.ntmps14
  go_wp2_with fail
  refine (rvalid r h _).mono ?_
  rintro e w1 ⟨rfl, hb⟩
  have h1 := bel_step (bel_alloc (Below.refl w.heap.size w) _) hb
  have mf := (FB.new w r h).keep hb
  clear hb
  have hR1 := Lib.hid (HR.out.keep h1)
  clear HR
  go_wp2_with fail
  go_loop [6, 7] (fun v i => ∃ (k : Nat) (b : Bool), k ≤ len ∧ i = .int .i64 k ∧ v = .bool b ∧ b = (vF r h && allB z k)) (fun _ i => len - (intOf i).toNat)
  case atStart => exact ⟨0, vF r h, Nat.zero_le _, rfl, rfl, by simp [allB]⟩
  case round =>
    obtain ⟨k, b, hk, rfl, rfl, hb⟩ := hrel
    have HB := Lib.hid hb
    clear hb
    by_cases hlt : k < len
    · obtain ⟨B, o, rfl, hB, hc⟩ := hR1.out k hlt
      have hs := Lib.hid (allB_succ z k)
      cases b
      · go_wp2_with (go_at_call 24; refine (rcur _ _).mono ?_; rintro e w2 ⟨rfl, rfl⟩)
        go_round
        case rel => exact ⟨k + 1, false, by omega, by go_num, rfl, by have := HB.out; rw [hs.out]; rw [← Bool.and_assoc, ← this, Bool.false_and]⟩
        case measure => simp [intOf]; omega
      · go_wp2_with (go_at_call 24; refine (rcur _ _).mono ?_; rintro e w2 ⟨rfl, rfl⟩)
        go_round
        case rel => exact ⟨k + 1, inB (z k) 0 1000, by omega, by go_num, rfl, by have := HB.out; rw [hs.out]; rw [← Bool.and_assoc, ← this, Bool.true_and]⟩
        case measure => simp [intOf]; omega
    · obtain rfl : k = len := by omega
      cases b
      · go_wp2
        go_ret2
        exact ⟨ret_two (by have := HB.out; simp [mV, mE, ← this]) (by have := HB.out; simp [mE, ← this]), h1⟩
      · have hx : vF r h = true ∧ allB z k = true := by have := HB.out; simpa using this.symm
        have hvb := vF_iff.1 hx.1
        have hzs := Lib.hid (allB_iff.1 hx.2)
        have hall := Lib.hid (of_decide_eq_true hx.2 : ∀ i, i < k → inB (z i) 0 1000 = true)
        have hv := Lib.hid hx.1
        clear hx
        go_wp2
        go_loopw [9, 10, 11] (fun s l i wr => ∃ j : Nat, j ≤ k ∧ i = .int .i64 j ∧ s = .int .i64 (sm r z j) ∧ l = .int .i64 (ls r z j) ∧ (∀ i, i < j → ht r z (i + 1) ≤ h) ∧ Below w1.heap.size w1 wr) (fun _ _ i _ => k - (intOf i).toNat)
        case atStart => exact ⟨0, Nat.zero_le _, rfl, rfl, rfl, fun i hi => by omega, Below.refl _ _⟩
        case round =>
          obtain ⟨j, hj, rfl, rfl, rfl, hn, hbw⟩ := hrel
          have HN := Lib.hid hn
          clear hn
          have mf1 := mf.keep hbw
          by_cases hjl : j < k
          · obtain ⟨B, o, rfl, hB, hc⟩ := (hR1.out.keep hbw) j hjl
            have hzj := hzs.out j hjl
            have sb := sm_bd (r := r) (by omega) hzs.out j hj
            have mb := mo_bd (r := r) (by omega) hzj
            have u1 : IntKind.i64.wrap (sm r z j + mo r (z j)) = sm r z j + mo r (z j) := IntWalk.i64_in _ (by omega)
            have hs : Hid (sm r z (j + 1) = sm r z j + mo r (z j)) := Lib.hid rfl
            have hll : Hid (ls r z (j + 1) = min (ls r z j) (sm r z j + mo r (z j))) := Lib.hid rfl
            have hov : Hid (h < sm r z j + mo r (z j) - ls r z j ↔ h < ht r z (j + 1)) := Lib.hid (over_iff (by omega))
            have i0 : (0 : Int) ≤ (j : Int) := by omega
            have i1 : (j : Int) < (k : Int) := by omega
            obtain ⟨d0, d1⟩ := mf1.cells
            go_wp2_with fail
            go_region_held3 (fun w' => w'.cell? ⟨w.heap.size, 0, none⟩ = some (.int .i64 r) ∧ w'.cell? ⟨w.heap.size, 1, none⟩ = some (.int .i64 h) ∧ w'.cell? ⟨B, o + j, none⟩ = some (.int .i64 (z j))) (go_keep)
              (first
                | (go_at_call 25; refine (rmore r h (z j) _ (by omega) hzj).mono ?_; rintro e w3 ⟨rfl, hb⟩; have h3 := bel_step (by repeat (first | exact hbw | apply Below.drew)) hb; have c3 := (hb.cell (p := ⟨B, o + j, none⟩) hB).trans hc; clear hb; have mf3 := mf.keep h3; obtain ⟨e0, e1⟩ := mf3.cells))
            by_cases hm : h < sm r z j + mo r (z j) - ls r z j
            · go_wp2_with fail
              go_ret2
              have hy := mE_at hv.out hall.out hjl HN.out (hov.out.1 (by assumption))
              exact ⟨ret_two hy.1.symm hy.2.symm, bel_step h1 h3⟩
            · have hm2 : sm r z j + mo r (z j) - ls r z j ≤ h := by omega
              by_cases hle : ls r z j < sm r z j + mo r (z j)
              · go_wp2_with fail
                go_roundw
                case rel => exact ⟨j + 1, by omega, by go_num, by rw [hs.out], by rw [hll.out]; go_num, all_snoc HN.out (by have := hov.out; omega), h3⟩
                case measure => simp [intOf]; omega
              · go_wp2_with fail
                go_roundw
                case rel => exact ⟨j + 1, by omega, by go_num, by rw [hs.out], by rw [hll.out]; go_num, all_snoc HN.out (by have := hov.out; omega), h3⟩
                case measure => simp [intOf]; omega
          · obtain rfl : j = k := by omega
            go_wp2
            go_ret2
            have hy := mE_none hv.out hall.out HN.out
            exact ⟨ret_two hy.1.symm hy.2.symm, bel_step h1 hbw⟩
theorem rmelts (r h : Int) (A : Option Addr) (len cap : Nat) (z : Nat → Int) (w : World) (hl : len ≤ 9223372036854775807) (hR : RZ w A len z) :
    Calls Try.prog 14 #[.agg #[.int .i64 r, .int .i64 h], .slice A len cap] w
      fun e w' => e = .returned (.tuple #[.int .i64 (xV r h z len), .int .i64 (xE r h z len)]) ∧ Below w.heap.size w w' := by
  by_cases h1 : 10000 < len
  · exact (rmelts_long r h A len cap w h1 hl).mono fun e w' x => ⟨x.1.trans (ret_two (by simp [xV, h1]) (by simp [xE, h1])), x.2⟩
  · exact (rmelts_short r h A len cap z w (by omega) hR).mono fun e w' x => ⟨x.1.trans (ret_two (by simp [xV, h1]) (by simp [xE, h1])), x.2⟩

theorem hd_le {r h t a : Int} (hm : 0 < mo r a) (ht : 0 ≤ t) (hh : t ≤ h) : hd r h t a ≤ h := by
  unfold hd
  rw [if_neg (by omega)]
  have := Int.ediv_le_self (a := h - t) (mo r a) (by omega)
  omega
theorem prod_bd {m k : Int} (hm : 0 ≤ m ∧ m ≤ 1000000000) (hk : 0 < k ∧ k ≤ 1000000) : 0 ≤ m * k ∧ m * k ≤ 1000000000000000 :=
  ⟨Int.mul_nonneg hm.1 (by omega), Int.mul_le_mul hm.2 hk.2 (by omega) (by omega)⟩

set_option maxRecDepth 100000 in
set_option maxHeartbeats 2000000 in
theorem rholds (r h t a : Int) (w : World) :
    Calls Try.prog 16 #[.agg #[.int .i64 r, .int .i64 h], .int .i64 t, .int .i64 a] w fun e w' => e = .returned (.tuple #[.int .i64 (oV r h t a), .int .i64 (nE r h t a)]) ∧ Below w.heap.size w w' := by
  by_cases h0 : nE r h t a = 0
  · have t0 : (nE r h t a != 0) = false := by simpa using h0
    have hx : vF r h = true ∧ inB t 0 h = true ∧ inB a 0 1000 = true := by grind [nE]
    have hvb := vF_iff.1 hx.1
    have htb := inB_iff.1 hx.2.1
    have hab := inB_iff.1 hx.2.2
    have ho : Hid (oV r h t a = hd r h t a) := by show _ = _; simp [oV, h0]
    have H0 := Lib.hid h0
    clear h0 hx
    have hmb := mo_bd (r := r) (a := a) (by omega) hab
    by_cases hc : a ≤ r ∨ r = 0
    · have hd1 : Hid (hd r h t a = -1) := by
        show _ = _
        unfold hd
        rw [if_pos]
        rcases hc with hc | hc
        · exact mo_le (by omega) hab.1 hc
        · simp [mo, hc]
      by_cases hc1 : a ≤ r
      · clear hc
        go_enter Try.func16, Try.ntmps16
        go_wp2_with fail
        refine (rnext r h t a _).mono ?_
        rintro e w1 ⟨rfl, hb⟩
        have h1 := bel_step (bel_alloc (Below.refl w.heap.size w) _) hb
        obtain ⟨c0, c1⟩ := ((FB.new w r h).keep hb).cells
        clear hb
        go_wp2_with fail
        go_ret2
        exact ⟨ret_two (by rw [ho.out, hd1.out]) H0.out.symm, h1⟩
      · obtain rfl : r = 0 := by omega
        have e1 : decide (a ≤ 0) = false := by simpa using hc1
        clear hc
        go_enter Try.func16, Try.ntmps16
        go_wp2_with fail
        refine (rnext 0 h t a _).mono ?_
        rintro e w1 ⟨rfl, hb⟩
        have h1 := bel_step (bel_alloc (Below.refl w.heap.size w) _) hb
        obtain ⟨c0, c1⟩ := ((FB.new w 0 h).keep hb).cells
        clear hb
        go_wp2_with fail
        go_ret2
        exact ⟨ret_two (by rw [ho.out, hd1.out]) H0.out.symm, h1⟩
    · have hc1 : r < a := by omega
      have hr1 : 1 ≤ r := by omega
      have e1 : decide (a ≤ r) = false := by simp; omega
      have e2 : (r == 0) = false := by simp; omega
      have hm := mo_pos hr1 hc1
      have hdb := hd_le (r := r) (a := a) hm htb.1 htb.2
      have hdn := hd_nonneg (r := r) (a := a) hm htb.2
      clear hc
      go_enter Try.func16, Try.ntmps16
      go_wp2_with fail
      refine (rnext r h t a _).mono ?_
      rintro e w1 ⟨rfl, hb⟩
      have h1 := bel_step (bel_alloc (Below.refl w.heap.size w) _) hb
      have mf := (FB.new w r h).keep hb
      obtain ⟨c0, c1⟩ := mf.cells
      clear hb
      go_wp2_with fail
      clear c0 c1
      go_loopw [10, 11] (fun l g wr => ∃ lo hi : Int, l = .int .i64 lo ∧ g = .int .i64 hi ∧ 0 ≤ lo ∧ hi ≤ h ∧ lo ≤ hd r h t a ∧ hd r h t a ≤ hi ∧ Below w1.heap.size w1 wr) (fun l g _ => (intOf g - intOf l).toNat)
      case atStart => exact ⟨0, h, rfl, rfl, by omega, by omega, hdn, hdb, Below.refl _ _⟩
      case round =>
        obtain ⟨lo, hi, rfl, rfl, hlo, hhi, h2, h3, hbw⟩ := hrel
        have mf1 := mf.keep hbw
        by_cases hlt : lo < hi
        · obtain ⟨m, hme⟩ : ∃ m, (lo + hi + 1) / 2 = m := ⟨_, rfl⟩
          have hm1 : lo < m ∧ m ≤ hi := by omega
          have hpb := prod_bd (m := m) (k := mo r a) (by omega) (by omega)
          have u1 : IntKind.i64.wrap (m * mo r a) = m * mo r a := IntWalk.i64_in _ (by omega)
          have u2 : IntKind.i64.wrap (t + m * mo r a) = t + m * mo r a := IntWalk.i64_in _ (by omega)
          have hbin := hd_bin (h := h) (t := t) (m := m) hm
          obtain ⟨d0, d1⟩ := mf1.cells
          go_wp2_with fail
          rw [hme]
          have HME := Lib.hid hme
          clear hme
          by_cases hcm : t + m * mo r a ≤ h
          · have hmd : m ≤ hd r h t a := hbin.2 hcm
            have e3 : decide (t + m * mo r a ≤ h) = true := decide_eq_true hcm
            clear hbin
            go_region_held3 (fun w' => w'.cell? ⟨w.heap.size, 0, none⟩ = some (.int .i64 r) ∧ w'.cell? ⟨w.heap.size, 1, none⟩ = some (.int .i64 h)) (go_keep)
              (first
                | (go_at_call 25; refine (rmore r h a _ (by omega) hab).mono ?_; rintro e w3 ⟨rfl, hb⟩; have h4 := bel_step (by repeat (first | exact hbw | apply Below.drew)) hb; clear hb; have mf3 := mf.keep h4; obtain ⟨x0, x1⟩ := mf3.cells))
            go_wp2_with fail
            go_roundw
            case rel => exact ⟨m, hi, rfl, rfl, by omega, hhi, hmd, h3, h4⟩
            case measure => simp [intOf]; omega
          · have hmd : hd r h t a ≤ m - 1 := by omega
            have e3 : decide (t + m * mo r a ≤ h) = false := decide_eq_false hcm
            clear hbin
            go_region_held3 (fun w' => w'.cell? ⟨w.heap.size, 0, none⟩ = some (.int .i64 r) ∧ w'.cell? ⟨w.heap.size, 1, none⟩ = some (.int .i64 h)) (go_keep)
              (first
                | (go_at_call 25; refine (rmore r h a _ (by omega) hab).mono ?_; rintro e w3 ⟨rfl, hb⟩; have h4 := bel_step (by repeat (first | exact hbw | apply Below.drew)) hb; clear hb; have mf3 := mf.keep h4; obtain ⟨x0, x1⟩ := mf3.cells))
            go_wp2_with fail
            go_roundw
            case rel => exact ⟨lo, m - 1, rfl, rfl, by omega, by omega, h2, hmd, h4⟩
            case measure => simp [intOf]; omega
        · obtain rfl : lo = hd r h t a := by omega
          go_wp2_with fail
          go_ret2
          exact ⟨ret_two ho.out.symm H0.out.symm, bel_step h1 hbw⟩
  · have t0 : (nE r h t a != 0) = true := by simpa using h0
    have ho : Hid (oV r h t a = 0) := by show _ = _; simp [oV, h0]
    clear h0
    go_enter Try.func16, Try.ntmps16
    go_wp2_with fail
    refine (rnext r h t a _).mono ?_
    rintro e w1 ⟨rfl, hb⟩
    have h1 := bel_step (bel_alloc (Below.refl w.heap.size w) _) hb
    clear hb
    go_wp2_with fail
    go_ret2
    exact ⟨ret_two ho.out.symm rfl, h1⟩
end Go.Proofs.Ythjclpfddfjfhaa
