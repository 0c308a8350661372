/-
  THE WALKS over the reference of share, first part: Same, Few, Transfer, Valid.
-/
import Derived.Test.YteeohndgkfilaaaAck
namespace Go.Proofs.Yteeohndgkfilaaa
open Go.RowKit
set_option linter.unusedVariables false
attribute [local go_sem ↓] Go.wp_at_zero Go.wp_at_succ

set_option maxRecDepth 100000 in
set_option maxHeartbeats 2000000 in
theorem same_yes (v v' : Value) (h nx : Int) (O : List (Int × Int)) (I : List Int) (w : World) (hs : SV w v h nx O I) (hs' : SV w v' h nx O I) (hO : O.length ≤ 1000) (hI : I.length ≤ 1000) :
    Calls Try.prog 17 #[v, v'] w fun e w' => e = .returned (.bool true) ∧ Below w.heap.size w w' := by
  obtain ⟨A, c, B, d, rfl, hRO, hRI, _, _, _, _⟩ := hs
  obtain ⟨A', c', B', d', rfl, hRO', hRI', _, _, _, _⟩ := hs'
  obtain ⟨n, hn⟩ : ∃ n, O.length = n := ⟨_, rfl⟩
  obtain ⟨m, hm⟩ : ∃ m, I.length = m := ⟨_, rfl⟩
  rw [hn, hm]
  rw [hn] at hO
  rw [hm] at hI
  have HN := Lib.hid hn
  have HM := Lib.hid hm
  have b1 : Below w.heap.size w ((w.alloc (.cells #[.int .i64 h, .int .i64 nx, .slice A n c, .slice B m d] 25)).alloc (.cells #[.int .i64 h, .int .i64 nx, .slice A' n c', .slice B' m d'] 25)) := bel_alloc (bel_a w _) _
  have HRO := Lib.hid (hRO.keep b1)
  have HRI := Lib.hid (hRI.keep b1)
  have HRO' := Lib.hid (hRO'.keep b1)
  have HRI' := Lib.hid (hRI'.keep b1)
  have p0 := (OW.new w 25 [.int .i64 h, .int .i64 nx, .slice A n c, .slice B m d]).alloc (.cells #[.int .i64 h, .int .i64 nx, .slice A' n c', .slice B' m d'] 25)
  have p1 := OW.new1 w (.cells #[.int .i64 h, .int .i64 nx, .slice A n c, .slice B m d] 25) 25 [.int .i64 h, .int .i64 nx, .slice A' n c', .slice B' m d']
  have P0 := Lib.hid p0
  have P1 := Lib.hid p1
  have HB1 := Lib.hid b1
  clear hRO hRI hRO' hRI' hn hm p0 p1 b1
  go_enter Try.func17, Try.ntmps17
  go_wp2_with fail
  obtain ⟨wa, hwa⟩ : ∃ wa, (w.alloc (.cells #[.int .i64 h, .int .i64 nx, .slice A n c, .slice B m d] 25)).alloc (.cells #[.int .i64 h, .int .i64 nx, .slice A' n c', .slice B' m d'] 25) = wa := ⟨_, rfl⟩
  rw [hwa] at HRO HRI HRO' HRI' P0 P1 HB1 ⊢
  clear hwa
  obtain ⟨x0, hx0⟩ : ∃ b, w.heap.size = b := ⟨_, rfl⟩
  obtain ⟨x1, hx1⟩ : ∃ b, w.heap.size + 1 = b := ⟨_, rfl⟩
  have HX0 := Lib.hid hx0
  rw [hx1] at P1 ⊢
  rw [hx0] at P0 ⊢
  clear hx0 hx1
  go_loopw [5] (fun i wr => ∃ k e : Nat, k ≤ n ∧ i = .int .i64 k ∧ wr = wa.drewN e) (fun i _ => n - (intOf i).toNat)
  case atStart => exact ⟨0, 0, Nat.zero_le _, rfl, rfl⟩
  case round =>
    obtain ⟨k, e0, hk, rfl, rfl⟩ := hrel
    have q02 : (wa.drewN e0).cell? ⟨x0, 2, none⟩ = some (.slice A n c) := P0.out.at rfl
    have q12 : (wa.drewN e0).cell? ⟨x1, 2, none⟩ = some (.slice A' n c') := P1.out.at rfl
    by_cases hlt : k < n
    · obtain ⟨b, o, rfl, hb, c0, c1⟩ := HRO.out.t (i := k) (by have := HN.out; omega)
      obtain ⟨b', o', rfl, hb', c0', c1'⟩ := HRO'.out.t (i := k) (by have := HN.out; omega)
      have y0 : (wa.drewN e0).cell? ⟨b, o + k * 2, none⟩ = some (.int .i64 (at2 O k).1) := c0
      have y1 : (wa.drewN e0).cell? ⟨b, o + k * 2 + 1, none⟩ = some (.int .i64 (at2 O k).2) := c1
      have y2 : (wa.drewN e0).cell? ⟨b', o' + k * 2, none⟩ = some (.int .i64 (at2 O k).1) := c0'
      have y3 : (wa.drewN e0).cell? ⟨b', o' + k * 2 + 1, none⟩ = some (.int .i64 (at2 O k).2) := c1'
      obtain ⟨wx, hwx⟩ : ∃ wx, wa.drewN e0 = wx := ⟨_, rfl⟩
      rw [hwx] at q02 q12 y0 y1 y2 y3 ⊢
      have HW := Lib.hid hwx
      clear hwx c0 c1 c0' c1'
      have i0 : (0 : Int) ≤ (k : Int) := by omega
      have i1 : (k : Int) < (n : Int) := by omega
      go_wp2_with fail
      go_quiet (fail)
      go_wp2_with fail
      go_roundw
      case rel => exact ⟨k + 1, _, by omega, by go_num, by rw [← HW.out, World.drewN_drewN]⟩
      case measure => simp [intOf] <;> omega
    · obtain rfl : k = n := by omega
      go_wp2_with fail
      clear q02 q12
      obtain ⟨wf, hwf⟩ : ∃ wf, wa.drewN e0 = wf := ⟨_, rfl⟩
      have HWF := Lib.hid hwf
      rw [hwf]
      clear hwf
      go_loopw [6] (fun i w2 => ∃ q e : Nat, q ≤ m ∧ i = .int .i64 q ∧ w2 = wa.drewN e) (fun i _ => m - (intOf i).toNat)
      case atStart => exact ⟨0, e0, Nat.zero_le _, rfl, HWF.out.symm⟩
      case round =>
        obtain ⟨q, e1, hq, rfl, rfl⟩ := hrel
        have q02 : (wa.drewN e1).cell? ⟨x0, 3, none⟩ = some (.slice B m d) := P0.out.at rfl
        have q12 : (wa.drewN e1).cell? ⟨x1, 3, none⟩ = some (.slice B' m d') := P1.out.at rfl
        by_cases hlq : q < m
        · obtain ⟨b, o, rfl, hb, c0⟩ := HRI.out.i (i := q) (by have := HM.out; omega)
          obtain ⟨b', o', rfl, hb', c0'⟩ := HRI'.out.i (i := q) (by have := HM.out; omega)
          have y0 : (wa.drewN e1).cell? ⟨b, o + q, none⟩ = some (.int .i64 (at1 I q)) := c0
          have y2 : (wa.drewN e1).cell? ⟨b', o' + q, none⟩ = some (.int .i64 (at1 I q)) := c0'
          obtain ⟨wx, hwx⟩ : ∃ wx, wa.drewN e1 = wx := ⟨_, rfl⟩
          rw [hwx] at q02 q12 y0 y2 ⊢
          have HW := Lib.hid hwx
          clear hwx c0 c0'
          have i0 : (0 : Int) ≤ (q : Int) := by omega
          have i1 : (q : Int) < (m : Int) := by omega
          go_wp2_with fail
          go_quiet (fail)
          go_wp2_with fail
          go_roundw
          case rel => exact ⟨q + 1, _, by omega, by go_num, by rw [← HW.out, World.drewN_drewN]⟩
          case measure => simp [intOf] <;> omega
        · obtain rfl : q = m := by omega
          go_wp2_with fail
          go_ret
          exact ⟨rfl, below_drewN HB1.out _⟩

/-- few transfers and numbers -/
def fewB (O : List (Int × Int)) (I : List Int) : Bool := decide (O.length ≤ 80 ∧ I.length ≤ 80)
set_option maxRecDepth 100000 in
theorem few_any (v : Value) (h nx : Int) (O : List (Int × Int)) (I : List Int) (w : World) (hs : SV w v h nx O I) :
    Calls Try.prog 10 #[v] w fun e w' => e = .returned (.bool (fewB O I)) ∧ Below w.heap.size w w' := by
  obtain ⟨A, c, B, d, rfl, _, _, _, _, hc, hd⟩ := hs
  have HB : Hid (∀ o, Below w.heap.size w (w.alloc o)) := Lib.hid fun o => bel_a w o
  have HF : Hid (fewB O I = decide (O.length ≤ 80 ∧ I.length ≤ 80)) := Lib.hid rfl
  generalize O.length = n at *
  generalize I.length = m at *
  by_cases h1 : n ≤ 80
  · have hr : Hid (decide ((m : Int) ≤ 80) = fewB O I) := Lib.hid (by rw [HF.out]; simp [h1]; omega)
    go_enter Try.func10, Try.ntmps10
    go_wp2
    all_goals (try (exfalso; omega))
    go_ret
    exact ⟨ret_bool hr.out, HB.out _⟩
  · have hr : Hid (false = fewB O I) := Lib.hid (by rw [HF.out]; simp [h1])
    have e1 : decide ((n : Int) ≤ 80) = false := decide_eq_false (by omega)
    go_enter Try.func10, Try.ntmps10
    go_wp2
    all_goals (try (exfalso; omega))
    go_ret
    exact ⟨ret_bool hr.out, HB.out _⟩

set_option maxRecDepth 100000 in
set_option maxHeartbeats 2000000 in
theorem rT (a b : Int) (w : World) : Calls Try.prog 29 #[.agg #[.int .i64 a, .int .i64 b]] w fun e w' => e = .returned (.bool (vT (a, b))) ∧ Below w.heap.size w w' := by
  have HB : Hid (∀ o, Below w.heap.size w (w.alloc o)) := Lib.hid fun o => bel_a w o
  by_cases h1 : 1 ≤ a
  · by_cases h2 : a ≤ 1000000
    · have e2 : decide (a ≤ 1000000) = true := decide_eq_true h2
      by_cases h3 : 1 ≤ b
      · have e3 : decide (1 ≤ b) = true := decide_eq_true h3
        have hr : Hid (decide (b ≤ 1000) = vT (a, b)) := by show _ = _; simp [vT, h1, h2, h3]
        go_enter Try.func29, Try.ntmps29
        go_wp2
        all_goals (try (exfalso; omega))
        go_ret
        exact ⟨ret_bool hr.out, HB.out _⟩
      · have e3 : decide (1 ≤ b) = false := decide_eq_false h3
        have hr : Hid (false = vT (a, b)) := by show _ = _; simp [vT, h3]
        go_enter Try.func29, Try.ntmps29
        go_wp2
        all_goals (try (exfalso; omega))
        go_ret
        exact ⟨ret_bool hr.out, HB.out _⟩
    · have e2 : decide (a ≤ 1000000) = false := decide_eq_false h2
      have hr : Hid (false = vT (a, b)) := by show _ = _; simp [vT, h2]
      go_enter Try.func29, Try.ntmps29
      go_wp2
      all_goals (try (exfalso; omega))
      go_ret
      exact ⟨ret_bool hr.out, HB.out _⟩
  · have e1 : decide (1 ≤ a) = false := decide_eq_false h1
    have hr : Hid (false = vT (a, b)) := by show _ = _; simp [vT, h1]
    go_enter Try.func29, Try.ntmps29
    go_wp2
    all_goals (try (exfalso; omega))
    go_ret
    exact ⟨ret_bool hr.out, HB.out _⟩
end Go.Proofs.Yteeohndgkfilaaa
