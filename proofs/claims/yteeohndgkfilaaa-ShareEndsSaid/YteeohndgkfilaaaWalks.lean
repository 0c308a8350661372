/-
  THE WALKS over package share, first part: numbers, keys, increasing, find.
-/
import Derived.Test.YteeohndgkfilaaaMem
namespace Go.Proofs.Yteeohndgkfilaaa
open Go.RowKit
set_option linter.unusedVariables false
attribute [local go_sem ↓] Go.wp_at_zero Go.wp_at_succ

/-- element i -/
def at1 (l : List Int) (i : Nat) : Int := l.getD i 0
def at2 (l : List (Int × Int)) (i : Nat) : Int × Int := l.getD i (0, 0)
theorem at1_get {l : List Int} {i : Nat} (h : i < l.length) : l[i]? = some (at1 l i) := by simp [at1, List.getD_eq_getElem?_getD, h]
theorem at2_get {l : List (Int × Int)} {i : Nat} (h : i < l.length) : l[i]? = some (at2 l i) := by simp [at2, List.getD_eq_getElem?_getD, h]
theorem RL.i {w : World} {A : Option Addr} {l : List Int} (x : RL w A (cI l)) {i : Nat} (h : i < l.length) : ∃ b o, A = some ⟨b, o, none⟩ ∧ b < w.heap.size ∧ w.cell? ⟨b, o + i, none⟩ = some (.int .i64 (at1 l i)) := x i _ (cI_get (at1_get h))
theorem RL.t {w : World} {A : Option Addr} {l : List (Int × Int)} (x : RL w A (cT l)) {i : Nat} (h : i < l.length) : ∃ b o, A = some ⟨b, o, none⟩ ∧ b < w.heap.size ∧ w.cell? ⟨b, o + i * 2, none⟩ = some (.int .i64 (at2 l i).1) ∧ w.cell? ⟨b, o + i * 2 + 1, none⟩ = some (.int .i64 (at2 l i).2) := by
  obtain ⟨h1, h2⟩ := cT_get (at2_get h)
  obtain ⟨b, o, e, hl, hc⟩ := x _ _ h1
  obtain ⟨b', o', e', hl', hc'⟩ := x _ _ h2
  subst e
  cases e'
  exact ⟨b, o, rfl, hl, hc, hc'⟩

/-- a number, a transfer that can be -/
def isN (x : Int) : Bool := decide (1 ≤ x ∧ x ≤ 1000000)
theorem isN_iff {x : Int} : isN x = true ↔ 1 ≤ x ∧ x ≤ 1000000 := by simp [isN]
def vT (p : Int × Int) : Bool := decide ((1 ≤ p.1 ∧ p.1 ≤ 1000000) ∧ 1 ≤ p.2 ∧ p.2 ≤ 1000)
theorem vT_iff {p : Int × Int} : vT p = true ↔ (1 ≤ p.1 ∧ p.1 ≤ 1000000) ∧ 1 ≤ p.2 ∧ p.2 ≤ 1000 := by simp [vT]
theorem isNum (x : Int) (w : World) : Calls Try.prog 33 #[.int .i64 x] w fun e w' => e = .returned (.bool (isN x)) ∧ w = w' := by
  by_cases h1 : 1 ≤ x
  · have hr : Hid (decide (x ≤ 1000000) = isN x) := by show _ = _; simp [isN, h1]
    go_enter Try.func33, Try.ntmps33
    go_wp2
    all_goals (try (exfalso; omega))
    go_ret
    exact ⟨ret_bool hr.out, rfl⟩
  · have hr : Hid (false = isN x) := by show _ = _; simp [isN, h1]
    have e1 : decide (1 ≤ x) = false := by simpa using h1
    go_enter Try.func33, Try.ntmps33
    go_wp2
    all_goals (try (exfalso; omega))
    go_ret
    exact ⟨ret_bool hr.out, rfl⟩
set_option maxRecDepth 100000 in
set_option maxHeartbeats 2000000 in
theorem valT (a b : Int) (w : World) : Calls Try.prog 25 #[.agg #[.int .i64 a, .int .i64 b]] w fun e w' => e = .returned (.bool (vT (a, b))) ∧ Below w.heap.size w w' := by
  have HB : Hid (∀ o, Below w.heap.size w (w.alloc o)) := Lib.hid fun o => bel_a w o
  cases h1 : isN a
  · have HI := Lib.hid h1
    have hr : Hid (false = vT (a, b)) := by
      show _ = _
      have : ¬ vT (a, b) = true := fun h => by rw [vT_iff] at h; have := isN_iff.2 h.1; rw [h1] at this; cases this
      simpa using this
    clear h1
    go_enter Try.func25, Try.ntmps25
    go_wp2_with (go_at_call 33; with_reducible refine (isNum _ _).mono ?_; rintro e w1 ⟨rfl, rfl⟩; rw [HI.out])
    go_ret
    exact ⟨ret_bool hr.out, HB.out _⟩
  · have HI := Lib.hid h1
    have hn := isN_iff.1 h1
    clear h1
    by_cases h2 : 1 ≤ b
    · have hr : Hid (decide (b ≤ 1000) = vT (a, b)) := by show _ = _; simp [vT, hn, h2]
      go_enter Try.func25, Try.ntmps25
      go_wp2_with (go_at_call 33; with_reducible refine (isNum _ _).mono ?_; rintro e w1 ⟨rfl, rfl⟩; rw [HI.out])
      all_goals (try (exfalso; omega))
      go_ret
      exact ⟨ret_bool hr.out, HB.out _⟩
    · have hr : Hid (false = vT (a, b)) := by show _ = _; simp [vT, h2]
      have e1 : decide (1 ≤ b) = false := by simpa using h2
      go_enter Try.func25, Try.ntmps25
      go_wp2_with (go_at_call 33; with_reducible refine (isNum _ _).mono ?_; rintro e w1 ⟨rfl, rfl⟩; rw [HI.out])
      all_goals (try (exfalso; omega))
      go_ret
      exact ⟨ret_bool hr.out, HB.out _⟩
theorem key1 (a b : Int) (w : World) : Calls Try.prog 36 #[.agg #[.int .i64 a, .int .i64 b]] w fun e w' => e = .returned (.int .i64 a) ∧ Below w.heap.size w w' := by
  have HB : Hid (∀ o, Below w.heap.size w (w.alloc o)) := Lib.hid fun o => bel_a w o
  go_enter Try.func36, Try.ntmps36
  go_wp2
  go_ret
  exact ⟨rfl, HB.out _⟩
theorem key2 (a : Int) (w : World) : Calls Try.prog 37 #[.int .i64 a] w fun e w' => e = .returned (.int .i64 a) ∧ w' = w := by
  go_enter Try.func37, Try.ntmps37
  go_wp2
  go_ret
  exact ⟨rfl, rfl⟩
theorem keys_any (w : World) : Calls Try.prog 26 #[] w fun e w' => e = .returned (.tuple #[.func (.func 36) #[] #[], .func (.func 37) #[] #[]]) ∧ w = w' := by
  go_enter Try.func26, Try.ntmps26
  go_wp2
  go_ret2
  exact ⟨rfl, rfl⟩

/-- strictly increasing -/
def Inc (l : List Int) : Prop := ∀ i, i + 1 < l.length → at1 l i < at1 l (i + 1)
def IncT (l : List (Int × Int)) : Prop := ∀ i, i + 1 < l.length → (at2 l i).1 < (at2 l (i + 1)).1
open Classical in
noncomputable def incB (l : List Int) : Bool := decide (Inc l)
open Classical in
noncomputable def incTB (l : List (Int × Int)) : Bool := decide (IncT l)
theorem incB_iff {l : List Int} : incB l = true ↔ Inc l := by simp [incB]
theorem incTB_iff {l : List (Int × Int)} : incTB l = true ↔ IncT l := by simp [incTB]

set_option maxRecDepth 100000 in
set_option maxHeartbeats 2000000 in
theorem inc_int (A : Option Addr) (n c : Nat) (l : List Int) (w : World) (hn : n ≤ 100) (hl : l.length = n) (hR : RL w A (cI l)) :
    Calls Try.prog 35 #[.slice A n c, .func (.func 37) #[] #[]] w fun e w' => e = .returned (.bool (incB l)) ∧ Below w.heap.size w w' := by
  have HR := Lib.hid hR
  have HL := Lib.hid hl
  clear hR hl
  go_enter Try.func35, Try.ntmps35
  go_wp2_with fail
  go_loopw [5] (fun i wr => ∃ k d : Nat, 1 ≤ k ∧ k ≤ n + 1 ∧ i = .int .i64 k ∧ (∀ i, i + 1 < k → i + 1 < n → at1 l i < at1 l (i + 1)) ∧ wr = w.drewN d) (fun i _ => n + 1 - (intOf i).toNat)
  case atStart => exact ⟨1, 0, Nat.le_refl _, by omega, rfl, fun i h1 h2 => by omega, rfl⟩
  case round =>
    obtain ⟨k, d0, hk1, hk, rfl, hinc, rfl⟩ := hrel
    have HINC := Lib.hid hinc
    clear hinc
    by_cases hlt : k < n
    · obtain ⟨q, rfl⟩ : ∃ q, k = q + 1 := ⟨k - 1, by omega⟩
      obtain ⟨b, o, rfl, hb, hc⟩ := HR.out.i (i := q + 1) (by have := HL.out; omega)
      obtain ⟨b', o', e', hb', hc'⟩ := HR.out.i (i := q) (by have := HL.out; omega)
      cases e'
      have c1 : (w.drewN d0).cell? ⟨b, o + (q + 1), none⟩ = some (.int .i64 (at1 l (q + 1))) := hc
      have c2 : (w.drewN d0).cell? ⟨b, o + q, none⟩ = some (.int .i64 (at1 l q)) := hc'
      obtain ⟨wx, hwx⟩ : ∃ wx, w.drewN d0 = wx := ⟨_, rfl⟩
      rw [hwx] at c1 c2 ⊢
      have HW := Lib.hid hwx
      clear hwx hc hc'
      have i1 : (0 : Int) ≤ (q : Int) := by omega
      have i2 : (q : Int) + 1 < (n : Int) := by omega
      have i3 : (0 : Int) ≤ (q : Int) + 1 := by omega
      have i4 : (q : Int) < (n : Int) := by omega
      have i5 : IntKind.i64.wrap ((q : Int) + 1 - 1) = (q : Int) := by rw [show (q : Int) + 1 - 1 = q by omega]; exact IntWalk.i64_in _ (by omega)
      have i6 : (q : Int) + 1 - 1 = (q : Int) := by omega
      have i7 : IntKind.i64.wrap (q : Int) = (q : Int) := IntWalk.i64_in _ (by omega)
      have i8 : ((q : Int) + 1).toNat = q + 1 := by omega
      by_cases ht : at1 l (q + 1) ≤ at1 l q
      · have e1 : decide (at1 l (q + 1) ≤ at1 l q) = true := decide_eq_true ht
        have hres : Hid (false = incB l) := by
          show _ = _
          have : ¬ incB l = true := fun h => by have := incB_iff.1 h q (by have := HL.out; omega); omega
          simpa using this
        clear ht
        go_wp2_with fail
        go_quiet ((go_at_call 37; exact Calls.quiet_of_same (key2 _ _)))
        go_wp2_with fail
        go_ret
        exact ⟨ret_bool hres.out, by rw [← HW.out]; exact below_drewN (below_drewN (Below.refl _ _) _) _⟩
      · have e1 : decide (at1 l (q + 1) ≤ at1 l q) = false := decide_eq_false ht
        have HT := Lib.hid (show at1 l q < at1 l (q + 1) by omega)
        clear ht
        go_wp2_with fail
        go_quiet ((go_at_call 37; exact Calls.quiet_of_same (key2 _ _)))
        go_wp2_with fail
        go_roundw
        case rel =>
          refine ⟨q + 1 + 1, _, by omega, by omega, by go_num, fun i h1 h2 => ?_, by rw [← HW.out, World.drewN_drewN]⟩
          by_cases e : i = q
          · subst e; exact HT.out
          · exact HINC.out i (by omega) h2
        case measure => simp [intOf] <;> omega
    · have hres : Hid (true = incB l) := Lib.hid (incB_iff.2 (fun i hi => HINC.out i (by have := HL.out; omega) (by have := HL.out; omega))).symm
      go_wp2_with fail
      all_goals (try (exfalso; omega))
      go_ret
      exact ⟨ret_bool hres.out, below_drewN (Below.refl _ _) _⟩
end Go.Proofs.Yteeohndgkfilaaa
