/-
  THE LAW LexerErrors, walked.
-/
import Derived.Test.YtkmjflkodckflaaVis
import Derived.Test.YtkmjflkodckflaaJoins
namespace Go.Proofs.Ytkmjflkodckflaa
open Go.RowKit
set_option linter.unusedVariables false
set_option linter.unusedSimpArgs false
attribute [local go_sem ↓] Go.wp_at_zero Go.wp_at_succ

theorem bl_take (s : ByteArray) (k : Nat) : bl (s.extract 0 k) = (bl s).take k := by rw [bl_extract]; simp
theorem bl_errs (s t : ByteArray) (k : Nat) : bl (s.extract 0 k ++ ⟨#[32]⟩ ++ t) = (bl s).take k ++ 32 :: bl t := by rw [bl_append, bl_append, bl_take]; simp [bl]
set_option maxRecDepth 100000 in
set_option maxHeartbeats 4000000 in
theorem errs_no (a b : ByteArray) (w : World) (hab : 8000 < a.size ∨ 8000 < b.size) (ha : a.size ≤ 9223372036854775807) (hb : b.size ≤ 9223372036854775807) :
    Calls Try.prog 8 #[.string a, .string b] w fun e w' => e = .returned (.bool true) ∧ Below w.heap.size w w' := by
  by_cases h1 : 8000 < a.size
  · have e1 : decide ((8000 : Int) < (a.size : Int)) = true := decide_eq_true (by omega)
    go_enter Try.func8, Try.ntmps8
    go_wp2_with (first | (go_at_call 9; with_reducible refine (head_any _).mono ?_; rintro e w1 ⟨rfl, h1⟩))
    all_goals (try (exfalso; omega))
    go_ret
    exact ⟨rfl, h1⟩
  · have e1 : decide ((8000 : Int) < (a.size : Int)) = false := decide_eq_false (by omega)
    have e2 : decide ((8000 : Int) < (b.size : Int)) = true := decide_eq_true (by omega)
    go_enter Try.func8, Try.ntmps8
    go_wp2_with (first | (go_at_call 9; with_reducible refine (head_any _).mono ?_; rintro e w1 ⟨rfl, h1⟩))
    all_goals (try (exfalso; omega))
    go_ret
    exact ⟨rfl, h1⟩
set_option maxRecDepth 100000 in
set_option maxHeartbeats 4000000 in
theorem errs_ok (a b : ByteArray) (w : World) (ha : a.size ≤ 8000) (hb : b.size ≤ 8000) (l : List Tok) (hl : lexS (bl a) = .ok l) :
    Calls Try.prog 8 #[.string a, .string b] w fun e w' => e = .returned (.bool true) ∧ Below w.heap.size w w' := by
  have e1 : decide ((8000 : Int) < (a.size : Int)) = false := decide_eq_false (by omega)
  have e2 : decide ((8000 : Int) < (b.size : Int)) = false := decide_eq_false (by omega)
  have hlo := fun W => lex_o a l W (by omega) hl
  obtain ⟨k, hk⟩ : ∃ k, l.length = k := ⟨_, rfl⟩
  rw [hk] at hlo
  have HLO := Lib.hid hlo
  clear hl hlo hk
  go_enter Try.func8, Try.ntmps8
  go_wp2_with (first
    | (go_at_call 9; with_reducible refine (head_any _).mono ?_; rintro e w1 ⟨rfl, h1⟩)
    | (go_at_call 10; with_reducible refine (HLO.out _).mono ?_; rintro e w2 ⟨A2, c2, rfl, _, h2⟩
       have H2 := Lib.hid (bel_step h1 h2)))
  all_goals (try (exfalso; omega))
  go_ret
  exact ⟨rfl, H2.out⟩
theorem rend_at (s : ByteArray) (a m : Nat) (w : World) (hs : s.size ≤ 20000) (ha : a < s.size) (hm : (tok1 ((bl s).drop a)).2.1 = m) :
    Calls Try.prog 16 #[.string s, .int .i64 a] w fun e w' => e = .returned (.int .i64 ((a : Int) + (m : Int))) ∧ w = w' := by
  refine (rend_any s a s[a].toNat w hs (bl_get ha)).mono ?_
  rintro e w' ⟨rfl, rfl⟩
  rw [hm]
  exact ⟨by simp, rfl⟩
set_option maxRecDepth 100000 in
set_option maxHeartbeats 4000000 in
theorem errs_err (a b : ByteArray) (w : World) (ha : a.size ≤ 8000) (hb : b.size ≤ 8000) (er : Int) (p : Nat) (hr : lexS (bl a) = .err er p) :
    Calls Try.prog 8 #[.string a, .string b] w fun e w' => e = .returned (.bool true) ∧ Below w.heap.size w w' := by
  have hz : (er == 0) = false := by simpa using lexS_ne hr
  obtain ⟨hp, l, hl, h2, htail⟩ := errs (by rw [bl_len]; exact ha) hr
  obtain ⟨m, hm⟩ : ∃ m, (tok1 ((bl a).drop p)).2.1 = m := ⟨_, rfl⟩
  have hmle := tok1_le ((bl a).drop p)
  rw [List.length_drop, bl_len, hm] at hmle
  rw [bl_len] at hp
  obtain ⟨q, hq⟩ : ∃ q, max (p + 1) (p + m) = q := ⟨_, rfl⟩
  have hqp : p + 1 ≤ q ∧ q ≤ a.size := by omega
  have ht := htail (bl b)
  rw [hm, hq, ← bl_errs, bl_len] at ht
  rw [← bl_take] at hl
  have hsz1 : (a.extract 0 p).size ≤ 20000 := by rw [← bl_len, bl_take, List.length_take, bl_len]; omega
  obtain ⟨S, hS⟩ : ∃ S, a.extract 0 q ++ ⟨#[32]⟩ ++ b = S := ⟨_, rfl⟩
  have hsz : S.size ≤ 20000 := by rw [← hS, ← bl_len, bl_errs]; simp; rw [bl_len, bl_len]; omega
  rw [hS] at ht
  have HE := Lib.hid (fun W => lex_e a er p W (by omega) hr)
  have hlo := fun W => lex_o (a.extract 0 p) l W hsz1 hl
  obtain ⟨k, hk⟩ : ∃ k, l.length = k := ⟨_, rfl⟩
  rw [hk] at hlo h2
  have HLO := Lib.hid hlo
  have HEND := Lib.hid (fun W => rend_at a p m W (by omega) hp hm)
  have e1 : decide ((8000 : Int) < (a.size : Int)) = false := decide_eq_false (by omega)
  have e2 : decide ((8000 : Int) < (b.size : Int)) = false := decide_eq_false (by omega)
  have HF : Hid (S.size ≤ 8000 → ∀ W, Calls Try.prog 17 #[.string S, .int .i64 er, .int .i64 p] W fun e w' => e = .returned (.bool true) ∧ Below W.heap.size W w') := Lib.hid fun h8 W => fails_any S er p W hsz (ht h8)
  have HS := Lib.hid hS
  have HQ := Lib.hid hq
  have HKE : Hid (er = 2 → k = 2000) := Lib.hid h2
  clear hr hl htail hlo ht hS hm hk h2
  go_enter Try.func8, Try.ntmps8
  go_upto_region 10 with (first
    | (go_at_call 9; with_reducible refine (head_any _).mono ?_; rintro e w1 ⟨rfl, h1⟩)
    | (go_at_call 10; with_reducible refine (HE.out _).mono ?_; rintro e w2 ⟨rfl, h2⟩
       have H2 := Lib.hid (bel_step h1 h2))
    | (go_at_call 10; with_reducible refine (HLO.out _).mono ?_; rintro e w3 ⟨A3, c3, rfl, _, h3⟩
       have H3 := Lib.hid (bel_step H2.out h3)))
  all_goals (try (exfalso; omega))
  clear h1 h2 h3
  have w1 : IntKind.i64.wrap ((p : Int) + 1) = (p : Int) + 1 := IntWalk.i64_in _ (by omega)
  go_upto_region 11 with (first
    | (go_at_call 16; with_reducible refine (HEND.out _).mono ?_; rintro e w4 ⟨rfl, rfl⟩))
  have hif : (if (1 : Int) < (m : Int) then (p : Int) + (m : Int) else (p : Int) + 1) = (q : Int) := by have := HQ.out; split <;> omega
  rw [hif]
  clear hif w1
  have i1 : (0 : Int) ≤ (q : Int) := by omega
  have i2 : (q : Int) ≤ (a.size : Int) := by omega
  go_upto_region 12 with (fail)
  all_goals (try (exfalso; omega))
  rw [HS.out]
  have hke : ((er == 2) && ((k : Int) != 2000)) = false := by
    have := HKE.out
    by_cases h : er = 2
    · simp [this h]
    · simp [h]
  by_cases h8 : S.size ≤ 8000
  · have e5 : decide ((8000 : Int) < (S.size : Int)) = false := decide_eq_false (by omega)
    by_cases h : er = 2
    · have hk2 := HKE.out h
      subst hk2 h
      go_wp2_with (first
        | (go_at_call 17; with_reducible refine (HF.out h8 _).mono ?_; rintro e w5 ⟨rfl, h5⟩
           have H5 := Lib.hid (bel_step H3.out h5)))
      all_goals (try (exfalso; omega))
      go_ret
      exact ⟨rfl, H5.out⟩
    · have h' : (er == 2) = false := by simpa using h
      go_wp2_with (first
        | (go_at_call 17; with_reducible refine (HF.out h8 _).mono ?_; rintro e w5 ⟨rfl, h5⟩
           have H5 := Lib.hid (bel_step H3.out h5)))
      all_goals (try (exfalso; omega))
      go_ret
      exact ⟨rfl, H5.out⟩
  · have e5 : decide ((8000 : Int) < (S.size : Int)) = true := decide_eq_true (by omega)
    by_cases h : er = 2
    · have hk2 := HKE.out h
      subst hk2 h
      go_wp2_with fail
      all_goals (try (exfalso; omega))
      go_ret
      exact ⟨rfl, H3.out⟩
    · have h' : (er == 2) = false := by simpa using h
      go_wp2_with fail
      all_goals (try (exfalso; omega))
      go_ret
      exact ⟨rfl, H3.out⟩
theorem errs_all (a b : ByteArray) (w : World) (ha : a.size ≤ 9223372036854775807) (hb : b.size ≤ 9223372036854775807) :
    Calls Try.prog 8 #[.string a, .string b] w fun e w' => e = .returned (.bool true) ∧ Below w.heap.size w w' := by
  by_cases h1 : 8000 < a.size ∨ 8000 < b.size
  · exact errs_no a b w h1 ha hb
  · cases hl : lexS (bl a) with
    | err er p => exact errs_err a b w (by omega) (by omega) er p hl
    | ok l => exact errs_ok a b w (by omega) (by omega) l hl
end Go.Proofs.Ytkmjflkodckflaa
