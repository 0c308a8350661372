/-
  THE WALK over total: what both have, and what is on its way.
-/
import Derived.Test.YteeohndgkfilaaaStep
import Derived.Test.YteeohndgkfilaaaRrecv
namespace Go.Proofs.Yteeohndgkfilaaa
open Go.RowKit
set_option linter.unusedVariables false
attribute [local go_sem ↓] Go.wp_at_zero Go.wp_at_succ

theorem has_same (B : Option Addr) (m d : Nat) (I : List Int) (x : Int) (w : World) (b : Bool) (hm : m ≤ 9223372036854775806) (hlI : I.length = m) (hR : RL w B (cI I)) (hb : decide (x ∈ I) = b) :
    Calls Try.prog 30 #[.slice B m d, .int .i64 x] w fun e w' => e = .returned (.bool b) ∧ w' = w := by
  refine (has_any B m d I x w hm hlI hR).mono ?_
  rintro e w' ⟨rfl, rfl⟩
  exact ⟨by rw [hb], rfl⟩
theorem way_take {I : List Int} {l : List (Int × Int)} (h : ∀ p ∈ l, 0 ≤ p.2 ∧ p.2 ≤ 1000) (hl : l.length ≤ 64) (k : Nat) : 0 ≤ way I (l.take k) ∧ way I (l.take k) ≤ 64000 := by
  have h1 : ∀ p ∈ l.take k, 0 ≤ p.2 ∧ p.2 ≤ 1000 := fun p hp => h p (List.mem_of_mem_take hp)
  have h2 := way_nonneg (I := I) fun p hp => (h1 p hp).1
  have h3 := way_le (I := I) h1
  have h4 : (l.take k).length ≤ 64 := by simp; omega
  omega
theorem SC.lens {W : World} {h nx : Int} {A : Option Addr} {n : Nat} {B : Option Addr} {m : Nat} {O : List (Int × Int)} {I : List Int} (x : SC W h nx A n B m O I) : O.length = n ∧ I.length = m := by
  obtain ⟨A', B', n', m', e, e1, e2, h3, h4⟩ := x
  injection e with e
  have e5 := congrArg (fun l : Array Value => l.toList) e
  simp at e5
  obtain ⟨⟨rfl, rfl⟩, rfl, rfl⟩ := e5
  exact ⟨e1.1, e2.1⟩
set_option maxRecDepth 100000 in
set_option maxHeartbeats 4000000 in
theorem total_any (p : Nat) (T : Int) (N : Nat) (w : World) (hpg : PG w p T N) :
    Calls Try.prog 22 #[.pointer (some ⟨p, 0, none⟩)] w fun e w' => e = .returned (.int .i64 T) ∧ Below w.heap.size w w' := by
  obtain ⟨h0, nx0, A0, n0, B0, m0, h1, nx1, A1, n1, B1, m1, s0, s1, k0, k1, O0, I0, Z0, K0, O1, I1, Z1, K1, hpm, hg⟩ := hpg
  have HP := Lib.hid hpm
  have g0 := vS_iff.1 hg.1
  have g1 := vS_iff.1 hg.2.1
  have HT0 := Lib.hid hg.2.2.2.2.1
  have l0 := hpm.2.1.lens
  have l1 := hpm.2.2.1.lens
  have HL0 := Lib.hid l0.1
  have HM0 := Lib.hid l0.2
  have HL1 := Lib.hid l1.1
  have HM1 := Lib.hid l1.2
  have HO0 := Lib.hid hpm.2.1.rt.1.rl
  have HI0 := Lib.hid hpm.2.1.rt.2.rl
  have HO1 := Lib.hid hpm.2.2.1.rt.1.rl
  have HI1 := Lib.hid hpm.2.2.1.rt.2.rl
  have HV0 := Lib.hid g0.2.2.1
  have HV1 := Lib.hid g1.2.2.1
  have a0 : ∀ q ∈ O0, 0 ≤ q.2 ∧ q.2 ≤ 1000 := fun q hq => by have := (vT_iff.1 (g0.2.2.1 q hq).1).2; omega
  have a1 : ∀ q ∈ O1, 0 ≤ q.2 ∧ q.2 ≤ 1000 := fun q hq => by have := (vT_iff.1 (g1.2.2.1 q hq).1).2; omega
  have HY0 := Lib.hid (way_take (I := I1) a0 g0.2.1.1)
  have HY1 := Lib.hid (way_take (I := I0) a1 g1.2.1.1)
  have hy0 : 0 ≤ way I1 O0 ∧ way I1 O0 ≤ 64000 := by have := HY0.out O0.length; rw [List.take_length] at this; exact this
  have b0 := g0.1.1
  have b1 := g1.1.1
  have hn0 : n0 ≤ 64 := by have := g0.2.1; omega
  have hn1 : n1 ≤ 64 := by have := g1.2.1; omega
  have hm0 : m0 ≤ 64 := by have := g0.2.1; omega
  have hm1 : m1 ≤ 64 := by have := g1.2.1; omega
  have q0 := hpm.1.at (j := 0) rfl
  have q4 := hpm.1.at (j := 4) rfl
  have hl := hpm.1.lt
  clear g0 g1 l0 l1 a0 a1 hpm hg
  go_enter Try.func22, Try.ntmps22
  go_wp2_with fail
  go_quiet (fail)
  go_wp2_with fail
  clear q0 q4
  go_loopw [3, 20] (fun v i wr => ∃ k : Nat, k ≤ 2 ∧ i = .int .i64 k ∧ ((k = 0 ∧ v = .int .i64 (h0 + h1)) ∨ (k = 1 ∧ v = .int .i64 (h0 + h1 + way I1 O0)) ∨ (k = 2 ∧ v = .int .i64 (h0 + h1 + way I1 O0 + way I0 O1))) ∧ Below w.heap.size w wr) (fun _ i _ => 2 - (intOf i).toNat)
  case atStart => exact ⟨0, by omega, rfl, .inl ⟨rfl, rfl⟩, below_drewN (Below.refl _ _) _⟩
  case round =>
    obtain ⟨k, hk, rfl, hv, hbw⟩ := hrel
    have HBW := Lib.hid hbw
    clear hbw
    rcases hv with ⟨rfl, rfl⟩ | ⟨rfl, rfl⟩ | ⟨rfl, rfl⟩
    · skip
      have cO : (wr).cell? ⟨p, 2, none⟩ = some (.slice A0 n0 n0) := (HP.out.1.keep HBW.out).at rfl
      have hlp := (HP.out.1.keep HBW.out).lt
      go_wp2_with fail
      clear cO
      have hbs0 := HBW.out.size
      go_loopw [3, 31] (fun v t w2 => ∃ kk : Nat, kk ≤ n0 ∧ t = .int .i64 kk ∧ v = .int .i64 (h0 + h1 + way I1 (O0.take kk)) ∧ Below w.heap.size w w2) (fun _ t _ => n0 - (intOf t).toNat)
      case atStart => exact ⟨0, Nat.zero_le _, rfl, by simp [way], HBW.out⟩
      case round =>
        obtain ⟨kk, hkk, rfl, rfl, hb2⟩ := hrel
        have HB2 := Lib.hid hb2
        clear hb2
        by_cases hlt : kk < n0
        · obtain ⟨b, o, rfl, hb, x0, x1⟩ := (HO0.out.keep HB2.out).t (i := kk) (by have := HL0.out; omega)
          have j0 : (0 : Int) ≤ (kk : Int) := by omega
          have j1 : (kk : Int) < (n0 : Int) := by omega
          have HT := Lib.hid (take_snoc2 (l := O0) (k := kk) (by have := HL0.out; omega))
          have HQ := Lib.hid (HV0.out _ (mem2_at.2 ⟨kk, by have := HL0.out; omega, rfl⟩))
          have hwy := HY0.out kk
          go_upto_region 8 with (fail)
          have HN1 := Lib.hid (OW.new wr 27 [.int .i64 (at2 O0 kk).1, .int .i64 (at2 O0 kk).2])
          have HB3 := Lib.hid (bel_alloc HB2.out (.cells #[.int .i64 (at2 O0 kk).1, .int .i64 (at2 O0 kk).2] 27))
          obtain ⟨wx, ewx⟩ : ∃ wx, wr.alloc (.cells #[.int .i64 (at2 O0 kk).1, .int .i64 (at2 O0 kk).2] 27) = wx := ⟨_, rfl⟩
          rw [ewx] at HN1 HB3 ⊢
          clear ewx
          obtain ⟨bx, eB⟩ : ∃ b, wr.heap.size = b := ⟨_, rfl⟩
          rw [eB] at HN1 ⊢
          clear eB x0 x1
          have cI : wx.cell? ⟨p, 7, none⟩ = some (.slice B1 m1 m1) := (HP.out.1.keep HB3.out).at rfl
          have hlp2 := (HP.out.1.keep HB3.out).lt
          have HSI := Lib.hid (HI1.out.keep HB3.out)
          obtain ⟨x0, x1⟩ := cell2 HN1.out
          have hq2 : 1 ≤ (at2 O0 kk).2 ∧ (at2 O0 kk).2 ≤ 1000 := (vT_iff.1 HQ.out.1).2
          generalize hp1 : (at2 O0 kk).1 = p1 at *
          generalize hp2 : (at2 O0 kk).2 = p2 at *
          by_cases hin : p1 ∈ I1
          · have hd : decide (p1 ∈ I1) = true := decide_eq_true hin
            have HW : Hid (way I1 (O0.take (kk + 1)) = way I1 (O0.take kk)) := Lib.hid (by rw [HT.out, way_app]; simp only [way]; rw [if_pos (by rw [hp1]; exact hin)]; omega)
            clear hp1 hp2 hin
            go_quiet ((go_at_call 30; exact Calls.quiet_of_same (has_same B1 m1 m1 I1 p1 _ true (by omega) HM1.out HSI.out hd)))
            go_wp2_with fail
            go_roundw
            case rel => exact ⟨kk + 1, by omega, by go_num, by rw [HW.out], below_drewN HB3.out _⟩
            case measure => simp [intOf] <;> omega
          · have hd : decide (p1 ∈ I1) = false := decide_eq_false hin
            have HW : Hid (h0 + h1 + way I1 (O0.take kk) + p2 = h0 + h1 + way I1 (O0.take (kk + 1))) := Lib.hid (by rw [HT.out, way_app]; simp only [way]; rw [if_neg (by rw [hp1]; exact hin), hp2]; omega)
            clear hp1 hp2 hin
            have hsum : Hid (h0 + h1 + way I1 (O0.take kk) = h0 + h1 + way I1 (O0.take kk)) := Lib.hid rfl
            generalize hg0 : h0 + h1 + way I1 (O0.take kk) = s0' at *
            have hs0' : 0 ≤ s0' ∧ s0' ≤ 200000 := by omega
            clear hg0 hsum
            go_quiet ((go_at_call 30; exact Calls.quiet_of_same (has_same B1 m1 m1 I1 p1 _ false (by omega) HM1.out HSI.out hd)))
            go_wp2_with fail
            go_roundw
            case rel => exact ⟨kk + 1, by omega, by go_num, by rw [← HW.out], below_drewN HB3.out _⟩
            case measure => simp [intOf] <;> omega
        · obtain rfl : kk = n0 := by omega
          have HTK : Hid (O0.take kk = O0) := Lib.hid (by rw [← HL0.out]; exact List.take_length)
          rw [HTK.out]
          go_wp2_with fail
          go_roundw
          case rel => exact ⟨1, by omega, by go_num, .inr (.inl ⟨rfl, rfl⟩), HB2.out⟩
          case measure => simp [intOf]
    · skip
      have cO : (wr).cell? ⟨p, 6, none⟩ = some (.slice A1 n1 n1) := (HP.out.1.keep HBW.out).at rfl
      have hlp := (HP.out.1.keep HBW.out).lt
      go_wp2_with fail
      clear cO
      have hbs0 := HBW.out.size
      go_loopw [3, 31] (fun v t w2 => ∃ kk : Nat, kk ≤ n1 ∧ t = .int .i64 kk ∧ v = .int .i64 (h0 + h1 + way I1 O0 + way I0 (O1.take kk)) ∧ Below w.heap.size w w2) (fun _ t _ => n1 - (intOf t).toNat)
      case atStart => exact ⟨0, Nat.zero_le _, rfl, by simp [way], HBW.out⟩
      case round =>
        obtain ⟨kk, hkk, rfl, rfl, hb2⟩ := hrel
        have HB2 := Lib.hid hb2
        clear hb2
        by_cases hlt : kk < n1
        · obtain ⟨b, o, rfl, hb, x0, x1⟩ := (HO1.out.keep HB2.out).t (i := kk) (by have := HL1.out; omega)
          have j0 : (0 : Int) ≤ (kk : Int) := by omega
          have j1 : (kk : Int) < (n1 : Int) := by omega
          have HT := Lib.hid (take_snoc2 (l := O1) (k := kk) (by have := HL1.out; omega))
          have HQ := Lib.hid (HV1.out _ (mem2_at.2 ⟨kk, by have := HL1.out; omega, rfl⟩))
          have hwy := HY1.out kk
          go_upto_region 8 with (fail)
          have HN1 := Lib.hid (OW.new wr 27 [.int .i64 (at2 O1 kk).1, .int .i64 (at2 O1 kk).2])
          have HB3 := Lib.hid (bel_alloc HB2.out (.cells #[.int .i64 (at2 O1 kk).1, .int .i64 (at2 O1 kk).2] 27))
          obtain ⟨wx, ewx⟩ : ∃ wx, wr.alloc (.cells #[.int .i64 (at2 O1 kk).1, .int .i64 (at2 O1 kk).2] 27) = wx := ⟨_, rfl⟩
          rw [ewx] at HN1 HB3 ⊢
          clear ewx
          obtain ⟨bx, eB⟩ : ∃ b, wr.heap.size = b := ⟨_, rfl⟩
          rw [eB] at HN1 ⊢
          clear eB x0 x1
          have cI : wx.cell? ⟨p, 3, none⟩ = some (.slice B0 m0 m0) := (HP.out.1.keep HB3.out).at rfl
          have hlp2 := (HP.out.1.keep HB3.out).lt
          have HSI := Lib.hid (HI0.out.keep HB3.out)
          obtain ⟨x0, x1⟩ := cell2 HN1.out
          have hq2 : 1 ≤ (at2 O1 kk).2 ∧ (at2 O1 kk).2 ≤ 1000 := (vT_iff.1 HQ.out.1).2
          generalize hp1 : (at2 O1 kk).1 = p1 at *
          generalize hp2 : (at2 O1 kk).2 = p2 at *
          by_cases hin : p1 ∈ I0
          · have hd : decide (p1 ∈ I0) = true := decide_eq_true hin
            have HW : Hid (way I0 (O1.take (kk + 1)) = way I0 (O1.take kk)) := Lib.hid (by rw [HT.out, way_app]; simp only [way]; rw [if_pos (by rw [hp1]; exact hin)]; omega)
            clear hp1 hp2 hin
            go_quiet ((go_at_call 30; exact Calls.quiet_of_same (has_same B0 m0 m0 I0 p1 _ true (by omega) HM0.out HSI.out hd)))
            go_wp2_with fail
            go_roundw
            case rel => exact ⟨kk + 1, by omega, by go_num, by rw [HW.out], below_drewN HB3.out _⟩
            case measure => simp [intOf] <;> omega
          · have hd : decide (p1 ∈ I0) = false := decide_eq_false hin
            have HW : Hid (h0 + h1 + way I1 O0 + way I0 (O1.take kk) + p2 = h0 + h1 + way I1 O0 + way I0 (O1.take (kk + 1))) := Lib.hid (by rw [HT.out, way_app]; simp only [way]; rw [if_neg (by rw [hp1]; exact hin), hp2]; omega)
            clear hp1 hp2 hin
            have hsum : Hid (h0 + h1 + way I1 O0 + way I0 (O1.take kk) = h0 + h1 + way I1 O0 + way I0 (O1.take kk)) := Lib.hid rfl
            generalize hg0 : h0 + h1 + way I1 O0 + way I0 (O1.take kk) = s0' at *
            have hs0' : 0 ≤ s0' ∧ s0' ≤ 200000 := by omega
            clear hg0 hsum
            go_quiet ((go_at_call 30; exact Calls.quiet_of_same (has_same B0 m0 m0 I0 p1 _ false (by omega) HM0.out HSI.out hd)))
            go_wp2_with fail
            go_roundw
            case rel => exact ⟨kk + 1, by omega, by go_num, by rw [← HW.out], below_drewN HB3.out _⟩
            case measure => simp [intOf] <;> omega
        · obtain rfl : kk = n1 := by omega
          have HTK : Hid (O1.take kk = O1) := Lib.hid (by rw [← HL1.out]; exact List.take_length)
          rw [HTK.out]
          go_wp2_with fail
          go_roundw
          case rel => exact ⟨2, by omega, by go_num, .inr (.inr ⟨rfl, rfl⟩), HB2.out⟩
          case measure => simp [intOf]
    · rw [HT0.out]
      go_wp2_with fail
      go_ret
      exact ⟨rfl, HBW.out⟩
end Go.Proofs.Yteeohndgkfilaaa
