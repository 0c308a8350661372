/-
  THE WALKS OF THE LAWS over package fuse, third part: FuseBursts.
-/
import Derived.Test.YthjclpfddfjfhaaLawsb
namespace Go.Proofs.Ythjclpfddfjfhaa
open Go.RowKit
set_option linter.unusedVariables false
attribute [local go_sem ↓] Go.wp_at_zero Go.wp_at_succ

theorem mt_stay {r h : Int} {z : Nat → Int} {k l : Nat} (h0 : 0 ≤ mt r h z k) (hk : k ≤ l) : mt r h z l = mt r h z k := by
  induction l with
  | zero => obtain rfl : k = 0 := by omega
            rfl
  | succ l ih =>
    rcases Nat.lt_or_ge k (l + 1) with hlt | hge
    · have e := ih (by omega)
      simp only [mt]
      rw [e, if_pos h0]
    · obtain rfl : k = l + 1 := by omega
      rfl
/-- what the inner loop says after j rounds -/
def wn (r h : Int) (z : Nat → Int) (k : Nat) : Nat → Int
  | 0 => -1
  | j + 1 => if h < bu r z k (j + 1) then k else wn r h z k j
theorem wn_eq (r h : Int) (z : Nat → Int) (k j : Nat) : (wn r h z k j = -1 ∧ ∀ l, l < j → bu r z k (l + 1) ≤ h) ∨ (wn r h z k j = k ∧ ∃ l, l < j ∧ h < bu r z k (l + 1)) := by
  induction j with
  | zero => exact .inl ⟨rfl, fun l hl => by omega⟩
  | succ j ih =>
    by_cases hc : h < bu r z k (j + 1)
    · exact .inr ⟨by simp [wn, hc], j, by omega, hc⟩
    · rcases ih with ⟨e, hn⟩ | ⟨e, l, hl, hm⟩
      · exact .inl ⟨by simp [wn, hc, e], all_snoc hn (by omega)⟩
      · exact .inr ⟨by simp [wn, hc, e], l, by omega, hm⟩
theorem wn_mt {r h : Int} {z : Nat → Int} {k : Nat} (hr : 1 ≤ r) (hh : 0 ≤ h) (hm : mt r h z k < 0) : wn r h z k (k + 1) = mt r h z (k + 1) := by
  have hb := burst_iff (r := r) (h := h) (z := z) hr hh k
  simp only [mt]
  rw [if_neg (by omega)]
  rcases wn_eq r h z k (k + 1) with ⟨e, hn⟩ | ⟨e, l, hl, hm'⟩
  · rw [e, if_neg]
    intro hx
    obtain ⟨j, hj, hx⟩ := hb.1 hx
    have := hn j (by omega)
    omega
  · rw [e, if_pos (hb.2 ⟨l, by omega, hm'⟩)]
theorem bu_bd {r : Int} {z : Nat → Int} {len k : Nat} (hr : 0 ≤ r ∧ r ≤ 1000) (hz : ∀ i, i < len → 0 ≤ z i ∧ z i ≤ 1000) (hk : k < len) : ∀ j : Nat, -1000000 * (j : Int) ≤ bu r z k j ∧ bu r z k j ≤ 1000000 * (j : Int) := by
  intro j
  induction j with
  | zero => simp [bu]
  | succ j ih =>
    have h1 := sq_bd (hz (k - j) (by omega))
    have h2 := sq_bd hr
    simp only [bu]
    omega

set_option maxHeartbeats 2000000 in
set_option maxRecDepth 100000 in
theorem bur_v (r h : Int) (A : Option Addr) (len cap : Nat) (z : Nat → Int) (w : World) (hl : len ≤ 9223372036854775807) (hR : RZ w A len z) (hv : vF r h = false) :
    Calls Try.prog 5 #[.agg #[.int .i64 r, .int .i64 h], .slice A len cap] w fun e w' => e = .returned (.bool true) ∧ Below w.heap.size w w' := by
  have HR := Lib.hid hR
  clear hR
  go_enter Try.func5, Try.ntmps5
  go_wp2_with fail
  refine (head_any _).mono ?_
  rintro e w1 ⟨rfl, hb⟩
  have mf := (FB.new w r h).keep hb
  obtain ⟨c0, c1⟩ := mf.cells
  have h0 := bel_step (bel_alloc (Below.refl w.heap.size w) _) hb
  clear hb
  go_wp2_with fail
  refine (rvalid r h _).mono ?_
  rintro e w2 ⟨rfl, hb⟩
  have mf := mf.keep hb
  clear c0 c1
  obtain ⟨c0, c1⟩ := mf.cells
  have h0 := bel_step h0 hb
  clear hb
  rw [hv]
  go_wp2_with fail
  all_goals (try (exfalso; omega))
  go_ret
  exact ⟨rfl, h0⟩
set_option maxHeartbeats 2000000 in
set_option maxRecDepth 100000 in
theorem bur_0 (h : Int) (A : Option Addr) (len cap : Nat) (z : Nat → Int) (w : World) (hl : len ≤ 9223372036854775807) (hR : RZ w A len z) (hv : vF 0 h = true) :
    Calls Try.prog 5 #[.agg #[.int .i64 0, .int .i64 h], .slice A len cap] w fun e w' => e = .returned (.bool true) ∧ Below w.heap.size w w' := by
  have HR := Lib.hid hR
  clear hR
  go_enter Try.func5, Try.ntmps5
  go_wp2_with fail
  refine (head_any _).mono ?_
  rintro e w1 ⟨rfl, hb⟩
  have mf := (FB.new w 0 h).keep hb
  obtain ⟨c0, c1⟩ := mf.cells
  have h0 := bel_step (bel_alloc (Below.refl w.heap.size w) _) hb
  clear hb
  go_wp2_with fail
  refine (rvalid 0 h _).mono ?_
  rintro e w2 ⟨rfl, hb⟩
  have mf := mf.keep hb
  clear c0 c1
  obtain ⟨c0, c1⟩ := mf.cells
  have h0 := bel_step h0 hb
  clear hb
  rw [hv]
  go_wp2_with fail
  all_goals (try (exfalso; omega))
  go_ret
  exact ⟨rfl, h0⟩
set_option maxHeartbeats 2000000 in
set_option maxRecDepth 100000 in
theorem bur_l (r h : Int) (A : Option Addr) (len cap : Nat) (z : Nat → Int) (w : World) (hl : len ≤ 9223372036854775807) (hR : RZ w A len z) (hv : vF r h = true) (hr0 : r ≠ 0) (hl2 : 200 < len) :
    Calls Try.prog 5 #[.agg #[.int .i64 r, .int .i64 h], .slice A len cap] w fun e w' => e = .returned (.bool true) ∧ Below w.heap.size w w' := by
  have HR := Lib.hid hR
  clear hR
  have e0 : (r == 0) = false := by simpa using hr0
  clear hr0
  go_enter Try.func5, Try.ntmps5
  go_wp2_with fail
  refine (head_any _).mono ?_
  rintro e w1 ⟨rfl, hb⟩
  have mf := (FB.new w r h).keep hb
  obtain ⟨c0, c1⟩ := mf.cells
  have h0 := bel_step (bel_alloc (Below.refl w.heap.size w) _) hb
  clear hb
  go_wp2_with fail
  refine (rvalid r h _).mono ?_
  rintro e w2 ⟨rfl, hb⟩
  have mf := mf.keep hb
  clear c0 c1
  obtain ⟨c0, c1⟩ := mf.cells
  have h0 := bel_step h0 hb
  clear hb
  rw [hv]
  go_wp2_with fail
  all_goals (try (exfalso; omega))
  go_ret
  exact ⟨rfl, h0⟩
set_option maxHeartbeats 2000000 in
set_option maxRecDepth 100000 in
theorem bur_c (r h : Int) (A : Option Addr) (len cap : Nat) (z : Nat → Int) (w : World) (hl : len ≤ 9223372036854775807) (hR : RZ w A len z) (hv : vF r h = true) (hr0 : r ≠ 0) (hl2 : len ≤ 200) (hc : cuB z len 1000 = false) :
    Calls Try.prog 5 #[.agg #[.int .i64 r, .int .i64 h], .slice A len cap] w fun e w' => e = .returned (.bool true) ∧ Below w.heap.size w w' := by
  have HR := Lib.hid hR
  clear hR
  have e0 : (r == 0) = false := by simpa using hr0
  clear hr0
  go_enter Try.func5, Try.ntmps5
  go_wp2_with fail
  refine (head_any _).mono ?_
  rintro e w1 ⟨rfl, hb⟩
  have mf := (FB.new w r h).keep hb
  obtain ⟨c0, c1⟩ := mf.cells
  have h0 := bel_step (bel_alloc (Below.refl w.heap.size w) _) hb
  clear hb
  go_wp2_with fail
  refine (rvalid r h _).mono ?_
  rintro e w2 ⟨rfl, hb⟩
  have mf := mf.keep hb
  clear c0 c1
  obtain ⟨c0, c1⟩ := mf.cells
  have h0 := bel_step h0 hb
  clear hb
  rw [hv]
  go_wp2_with fail
  all_goals (try (exfalso; omega))
  refine (currents_any A len cap z 1000 _ hl (HR.out.keep h0)).mono ?_
  rintro e w3 ⟨rfl, rfl⟩
  rw [hc]
  go_wp2_with fail
  all_goals (try (exfalso; omega))
  go_ret
  exact ⟨rfl, h0⟩
set_option maxHeartbeats 2000000 in
set_option maxRecDepth 100000 in
theorem bur_y (r h : Int) (A : Option Addr) (len cap : Nat) (z : Nat → Int) (w : World) (hl : len ≤ 9223372036854775807) (hR : RZ w A len z) (hv : vF r h = true) (hr0 : r ≠ 0) (hl2 : len ≤ 200) (hc : cuB z len 1000 = true) :
    Calls Try.prog 5 #[.agg #[.int .i64 r, .int .i64 h], .slice A len cap] w fun e w' => e = .returned (.bool true) ∧ Below w.heap.size w w' := by
  have HR := Lib.hid hR
  clear hR
  have e0 : (r == 0) = false := by simpa using hr0
  have hcb := cuB_iff.1 hc
  have hvb : (1 ≤ r ∧ r ≤ 1000) ∧ (0 ≤ h ∧ h ≤ 1000000000) := by have := vF_iff.1 hv; omega
  have ha : allB z len = true := allB_iff.2 hcb.1
  have HZ := Lib.hid hcb.1
  clear hr0 hcb
  have hr2 := sq_bd (a := r) (by omega)
  go_enter Try.func5, Try.ntmps5
  go_wp2_with fail
  refine (head_any _).mono ?_
  rintro e w1 ⟨rfl, hb⟩
  have mf := (FB.new w r h).keep hb
  obtain ⟨c0, c1⟩ := mf.cells
  have h0 := bel_step (bel_alloc (Below.refl w.heap.size w) _) hb
  clear hb
  go_wp2_with fail
  refine (rvalid r h _).mono ?_
  rintro e w2 ⟨rfl, hb⟩
  have mf := mf.keep hb
  clear c0 c1
  obtain ⟨c0, c1⟩ := mf.cells
  have h0 := bel_step h0 hb
  clear hb
  rw [hv]
  go_wp2_with fail
  all_goals (try (exfalso; omega))
  refine (currents_any A len cap z 1000 _ hl (HR.out.keep h0)).mono ?_
  rintro e w3 ⟨rfl, rfl⟩
  rw [hc]
  go_wp2_with fail
  refine (melts_ok r h A len cap z _ (by omega) (HR.out.keep h0) hv ha).mono ?_
  rintro e w3 ⟨rfl, hb⟩
  have mf := mf.keep hb
  clear c0 c1
  obtain ⟨c0, c1⟩ := mf.cells
  have h0 := bel_step h0 hb
  clear hb
  go_wp2_with fail
  have hR3 := Lib.hid (HR.out.keep h0)
  clear c0 c1
  go_loopw [9, 10] (fun q i wr => ∃ k : Nat, k ≤ len ∧ i = .int .i64 k ∧ q = .int .i64 (mt r h z k) ∧ Below w3.heap.size w3 wr) (fun _ i _ => len - (intOf i).toNat)
  case atStart => exact ⟨0, Nat.zero_le _, rfl, rfl, Below.refl _ _⟩
  case round =>
    obtain ⟨k, hk, rfl, rfl, hbw⟩ := hrel
    by_cases hgo : k < len ∧ mt r h z k < 0
    · obtain ⟨hlt, hneg⟩ := hgo
      have WM := Lib.hid (wn_mt (r := r) (h := h) (z := z) (k := k) hvb.1.1 hvb.2.1 hneg)
      have M1 : mt r h z k = -1 := by have := mt_bd r h z k; omega
      have HM1 := Lib.hid M1
      clear M1
      go_wp2_with fail
      obtain ⟨wo, hwo⟩ : ∃ wo : World, wo = wr := ⟨_, rfl⟩
      subst hwo
      go_loopw [9, 11, 12] (fun q s l wi => ∃ m : Nat, m ≤ k + 1 ∧ l = .int .i64 ((m : Int) - 1) ∧ s = .int .i64 (bu r z k (k + 1 - m)) ∧ q = .int .i64 (wn r h z k (k + 1 - m)) ∧ Below w3.heap.size w3 wi) (fun _ _ l _ => (intOf l + 1).toNat)
      case atStart => exact ⟨k + 1, Nat.le_refl _, by go_num, by simp [bu], by simp [wn, HM1.out], hbw⟩
      case round =>
        obtain ⟨m, hm, rfl, rfl, rfl, hbi⟩ := hrel
        rcases Nat.eq_zero_or_pos m with hm0 | hm0
        · subst hm0
          go_wp2_with fail
          go_roundw
          case rel => exact ⟨k + 1, by omega, by go_num, by rw [← WM.out, Nat.sub_zero], hbi⟩
          case measure => simp [intOf] <;> omega
        · obtain ⟨m', rfl⟩ : ∃ m', m = m' + 1 := ⟨m - 1, by omega⟩
          rw [show ((m' + 1 : Nat) : Int) - 1 = (m' : Int) by omega]
          obtain ⟨b, o, rfl, hb, hcell⟩ := (hR3.out.keep hbi) m' (by omega)
          have hzm := HZ.out m' (by omega)
          have hz2 := sq_bd hzm
          have bb := bu_bd (r := r) (z := z) (k := k) (by omega) HZ.out hlt (k + 1 - (m' + 1))
          have BS : Hid (bu r z k (k + 1 - m') = bu r z k (k + 1 - (m' + 1)) + z m' * z m' - r * r) := by
            show _ = _
            have e1 : k + 1 - m' = (k + 1 - (m' + 1)) + 1 := by omega
            have e2 : k - (k + 1 - (m' + 1)) = m' := by omega
            rw [e1]
            simp only [bu]
            rw [e2]
            omega
          have WS : Hid (wn r h z k (k + 1 - m') = if h < bu r z k (k + 1 - m') then (k : Int) else wn r h z k (k - m')) := by
            show _ = _
            have e1 : k + 1 - m' = (k - m') + 1 := by omega
            rw [e1]
            simp only [wn]
          generalize hB : bu r z k (k + 1 - (m' + 1)) = bo at bb BS ⊢
          clear hB
          have u1 : IntKind.i64.wrap (z m' * z m') = z m' * z m' := IntWalk.i64_in _ (by omega)
          have u2 : IntKind.i64.wrap (bo + z m' * z m') = bo + z m' * z m' := IntWalk.i64_in _ (by omega)
          have u3 : IntKind.i64.wrap (r * r) = r * r := IntWalk.i64_in _ (by omega)
          have u4 : IntKind.i64.wrap (bo + z m' * z m' - r * r) = bo + z m' * z m' - r * r := IntWalk.i64_in _ (by omega)
          obtain ⟨d0, d1⟩ := (mf.keep hbi).cells
          have i0 : (0 : Int) ≤ (m' : Int) := by omega
          have i1 : (m' : Int) < (len : Int) := by omega
          go_wp2_with fail
          go_still (by kernel_rfl)
          by_cases hov : h < bo + z m' * z m' - r * r
          · go_wp2_with fail
            go_roundw
            case rel => exact ⟨m', by omega, by go_num, by rw [BS.out], by rw [WS.out, if_pos (by rw [BS.out]; omega)], hbi.drew⟩
            case measure => simp [intOf] <;> omega
          · have hov2 : bo + z m' * z m' - r * r ≤ h := by omega
            go_wp2_with fail
            go_roundw
            case rel => exact ⟨m', by omega, by go_num, by rw [BS.out], by rw [WS.out, if_neg (by rw [BS.out]; omega)], hbi.drew⟩
            case measure => simp [intOf] <;> omega
    · have hf : mt r h z len = mt r h z k := by
        rcases Nat.lt_or_ge k len with hlt | hge
        · exact mt_stay (by omega) hk
        · obtain rfl : k = len := by omega
          rfl
      have HF := Lib.hid hf
      clear hf
      rw [HF.out]
      by_cases hlt : k < len
      · have hp : 0 ≤ mt r h z k := by omega
        have e1 : decide (mt r h z k < 0) = false := by simp; omega
        go_wp2_with fail
        go_ret
        exact ⟨rfl, bel_step h0 hbw⟩
      · go_wp2_with fail
        go_ret
        exact ⟨rfl, bel_step h0 hbw⟩
theorem walk_bursts (r h : Int) (A : Option Addr) (len cap : Nat) (z : Nat → Int) (w : World) (hl : len ≤ 9223372036854775807) (hR : RZ w A len z) :
    Calls Try.prog 5 #[.agg #[.int .i64 r, .int .i64 h], .slice A len cap] w fun e w' => e = .returned (.bool true) ∧ Below w.heap.size w w' := by
  cases hv : vF r h
  · exact bur_v r h A len cap z w hl hR hv
  · by_cases hr0 : r = 0
    · subst hr0
      exact bur_0 h A len cap z w hl hR hv
    · by_cases hl2 : 200 < len
      · exact bur_l r h A len cap z w hl hR hv hr0 hl2
      · cases hc : cuB z len 1000
        · exact bur_c r h A len cap z w hl hR hv hr0 (by omega) hc
        · exact bur_y r h A len cap z w hl hR hv hr0 (by omega) hc

end Go.Proofs.Ythjclpfddfjfhaa
