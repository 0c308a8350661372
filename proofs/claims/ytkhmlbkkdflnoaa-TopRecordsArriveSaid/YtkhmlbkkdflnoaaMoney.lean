/-
  THE WALKS over package money, first part: the small functions, what is deferred, Times.
-/
import Derived.Test.YtkhmlbkkdflnoaaChain
import Derived.Defers
import Derived.Recover
import Derived.Laws.Pointers
namespace Go.Proofs.Ytkhmlbkkdflnoaa.Mo
open Go.RowKit
open Ch (inB inB_iff)
set_option linter.unusedVariables false
set_option linter.unusedSimpArgs false
attribute [local go_sem ↓] Go.wp_at_zero Go.wp_at_succ

theorem ins_any (n a b : Int) (w : World) : Calls Try.prog 64 #[.int .i64 n, .int .i64 a, .int .i64 b] w fun e w' => e = .returned (.bool (inB n a b)) ∧ w = w' := by
  by_cases h1 : a ≤ n
  · by_cases h2 : n ≤ b
    · go_enter Try.func64, Try.ntmps64
      go_wp2
      go_ret
      exact ⟨ret_bool (by simp [inB, h1, h2]), rfl⟩
    · go_enter Try.func64, Try.ntmps64
      go_wp2
      go_ret
      exact ⟨ret_bool (by simp [inB, h1, h2]), rfl⟩
  · go_enter Try.func64, Try.ntmps64
    go_wp2
    go_ret
    exact ⟨ret_bool (by simp [inB]; omega), rfl⟩
theorem isAm_any (n : Int) (w : World) : Calls Try.prog 63 #[.int .i64 n] w fun e w' => e = .returned (.bool (inB n 0 1000000000)) ∧ w = w' := by
  go_enter Try.func63, Try.ntmps63
  go_wp2_with (go_at_call 64; with_reducible refine (ins_any _ _ _ _).mono ?_; rintro e w1 ⟨rfl, rfl⟩)
  go_ret
  exact ⟨rfl, rfl⟩
theorem need_yes (er : Int) (w : World) : Calls Try.prog 62 #[.bool true, .int .i64 er] w fun e w' => (∃ v, e = .returned v) ∧ w = w' := by
  go_enter Try.func62, Try.ntmps62
  go_wp2
  go_end0
  exact ⟨⟨_, rfl⟩, rfl⟩
theorem half_any (n b : Int) (w : World) (hn : 0 ≤ n ∧ n ≤ 1000000000000000) (hb : 1 ≤ b ∧ b ≤ 1000000000) : Calls Try.prog 100 #[.int .i64 n, .int .i64 b] w fun e w' => e = .returned (.int .i64 ((2 * n + b) / (2 * b))) ∧ w = w' := by
  have h1 : ¬ 2 * b = 0 := by omega
  have h2 : (2 * n + b).tdiv (2 * b) = (2 * n + b) / (2 * b) := Int.tdiv_eq_ediv_of_nonneg (by omega)
  have h3 : 0 ≤ (2 * n + b) / (2 * b) := Int.ediv_nonneg (by omega) (by omega)
  have h4 : (2 * n + b) / (2 * b) ≤ 2 * n + b := Int.ediv_le_self _ (by omega)
  go_enter Try.func100, Try.ntmps100
  go_wp2
  go_ret
  exact ⟨rfl, rfl⟩
theorem checked_ok (n : Int) (w : World) (hn : 0 ≤ n ∧ n ≤ 1000000000) : Calls Try.prog 99 #[.int .i64 n] w fun e w' => e = .returned (.int .i64 n) ∧ w = w' := by
  have h := inB_iff.2 hn
  have HI := Lib.hid (fun W => isAm_any n W)
  rw [h] at HI
  clear h
  go_enter Try.func99, Try.ntmps99
  go_wp2_with (first
    | (go_at_call 63; with_reducible refine (HI.out _).mono ?_; rintro e w1 ⟨rfl, rfl⟩)
    | (go_at_call 62; with_reducible refine (need_yes _ _).mono ?_; rintro e w1 ⟨⟨v, rfl⟩, rfl⟩))
  go_ret
  exact ⟨rfl, rfl⟩
theorem caught_nil (p : Addr) (w : World) : Calls Try.prog 61 #[.nilIface, .pointer (some p)] w fun e w' => (∃ v, e = .returned v) ∧ w = w' := by
  go_enter Try.func61, Try.ntmps61
  go_wp2
  refine bodyPost_ret (results_none rfl _ _ _) rfl ?_
  exact ⟨⟨_, rfl⟩, rfl⟩
theorem times1_idle (p : Addr) (w : World) :
    CallsD Try.prog 98 #[.pointer (some p)] .returning w fun e u' w' => (∃ v, e = .returned v) ∧ u' = .returning ∧ w' = w := by
  refine callsD_of_wpS Try.func98 rfl fun c₀ cs hu => ?_
  apply wpS_region
  simp [wpOpsS, go_sem, recoverD, hu, Try.ntmps98, Exit.thenS]
  refine (caught_nil p w).mono ?_
  rintro e w' ⟨⟨v, rfl⟩, rfl⟩
  cases c₀
  simp_all [bodyPostS, results, Try.results98]
set_option maxRecDepth 100000 in
set_option maxHeartbeats 1000000 in
theorem times_ok (p q per : Int) (w : World) (hp : 0 ≤ p ∧ p ≤ 65535) (hq : 0 ≤ q ∧ q ≤ 100000) (hper : per = 1000) :
    Calls Try.prog 40 #[.int .i64 p, .int .i64 q, .int .i64 per] w fun e w' => e = .returned (.tuple #[.int .i64 ((2 * (p * q) + per) / (2 * per)), .int .i64 0]) ∧ Below w.heap.size w w' := by
  have hmf : ∀ (fn : Fn) (first cap : Array Value) (w : World), (Instr.makeFunc fn first cap).run Try.prog w = .ok (.func fn first cap) w := fun _ _ _ _ => rfl
  have hpq : 0 ≤ p * q ∧ p * q ≤ 6553500000 := by
    refine ⟨Int.mul_nonneg hp.1 hq.1, ?_⟩
    have := Int.mul_le_mul hp.2 hq.2 hq.1 (by omega)
    omega
  have HA := Lib.hid (fun W => isAm_any p W)
  rw [inB_iff.2 (show 0 ≤ p ∧ p ≤ 1000000000 by omega)] at HA
  have HQ := Lib.hid (fun W => ins_any q 0 1000000000 W)
  rw [inB_iff.2 (show 0 ≤ q ∧ q ≤ 1000000000 by omega)] at HQ
  have HP := Lib.hid (fun W => ins_any per 1 1000000000 W)
  rw [inB_iff.2 (show 1 ≤ per ∧ per ≤ 1000000000 by omega)] at HP
  have HH := Lib.hid (fun W => half_any (p * q) per W (by omega) (by omega))
  obtain ⟨r, hr⟩ : ∃ r, (2 * (p * q) + per) / (2 * per) = r := ⟨_, rfl⟩
  have hr2 : 0 ≤ r ∧ r ≤ 1000000000 := by rw [← hr, hper]; omega
  rw [hr] at HH ⊢
  have HC := Lib.hid (fun W => checked_ok r W hr2)
  clear hr hper
  go_enter_defers Try.func40, Try.ntmps40
  go_wp2_with (first
    | (go_at_call 63; with_reducible refine (HA.out _).mono ?_; rintro e w1 ⟨rfl, rfl⟩)
    | (go_at_call 64; with_reducible refine (HQ.out _).mono ?_; rintro e w1 ⟨rfl, rfl⟩)
    | (go_at_call 64; with_reducible refine (HP.out _).mono ?_; rintro e w1 ⟨rfl, rfl⟩)
    | (go_at_call 62; with_reducible refine (need_yes _ _).mono ?_; rintro e w1 ⟨⟨v, rfl⟩, rfl⟩)
    | (go_at_call 100; with_reducible refine (HH.out _).mono ?_; rintro e w1 ⟨rfl, rfl⟩)
    | (go_at_call 99; with_reducible refine (HC.out _).mono ?_; rintro e w1 ⟨rfl, rfl⟩))
  refine leaves_cons (f := 98) (args := #[.pointer (some ⟨w.heap.size, 0, none⟩)]) (by simp) (by simp [go_sem]) ?_
  refine (times1_idle ⟨w.heap.size, 0, none⟩ _).mono ?_
  rintro e u' w'' ⟨⟨v, rfl⟩, rfl, rfl⟩
  have hb : Below w.heap.size w (w.alloc (.cells #[.int .i64 0] 32)) := bel_alloc (Below.refl _ _) _
  simp [Leaves, settle, results, Try.results40, go_sem, hb]
end Go.Proofs.Ytkhmlbkkdflnoaa.Mo
