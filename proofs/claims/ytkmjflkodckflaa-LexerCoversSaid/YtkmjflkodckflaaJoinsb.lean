/-
  THE LAW LexerJoins, walked: the last cases.
-/
import Derived.Test.YtkmjflkodckflaaJoins
namespace Go.Proofs.Ytkmjflkodckflaa
open Go.RowKit
set_option linter.unusedVariables false
set_option linter.unusedSimpArgs false
attribute [local go_sem ↓] Go.wp_at_zero Go.wp_at_succ

set_option maxRecDepth 100000 in
set_option maxHeartbeats 4000000 in
theorem joins_err2 (a b : ByteArray) (w : World) (ha : a.size ≤ 8000) (hb : b.size ≤ 8000) (l : List Tok) (hl : lexS (bl a) = .ok l) (er : Int) (p : Nat) (hr : lexS (bl b) = .err er p) :
    Calls Try.prog 6 #[.string a, .string b] w fun e w' => e = .returned (.bool true) ∧ Below w.heap.size w w' := by
  have hz : (er != 0) = true := by simpa using lexS_ne hr
  have HR := Lib.hid hr
  have e1 : decide ((8000 : Int) < (a.size : Int)) = false := decide_eq_false (by omega)
  have e2 : decide ((8000 : Int) < (b.size : Int)) = false := decide_eq_false (by omega)
  have hlo := fun W => lex_o a l W (by omega) hl
  obtain ⟨k, hk⟩ : ∃ k, l.length = k := ⟨_, rfl⟩
  rw [hk] at hlo
  have HLO := Lib.hid hlo
  clear hl hlo hk hr
  go_enter Try.func6, Try.ntmps6
  go_wp2_with (first
    | (go_at_call 9; with_reducible refine (head_any _).mono ?_; rintro e w1 ⟨rfl, h1⟩)
    | (go_at_call 10; with_reducible refine (HLO.out _).mono ?_; rintro e w2 ⟨A2, c2, rfl, _, h2⟩
       have H2 := Lib.hid (bel_step h1 h2))
    | (go_at_call 10; with_reducible refine (lex_e b er p _ (by omega) HR.out).mono ?_; rintro e w3 ⟨rfl, h3⟩
       have H3 := Lib.hid (bel_step H2.out h3)))
  all_goals (try (exfalso; omega))
  go_ret
  exact ⟨rfl, H3.out⟩
set_option maxRecDepth 100000 in
set_option maxHeartbeats 4000000 in
theorem joins_lim (a b : ByteArray) (w : World) (ha : a.size ≤ 8000) (hb : b.size ≤ 8000) (l m : List Tok) (hl : lexS (bl a) = .ok l) (hm : lexS (bl b) = .ok m) (hbig : 8000 < a.size + b.size + 1 ∨ 2000 < l.length + m.length) :
    Calls Try.prog 6 #[.string a, .string b] w fun e w' => e = .returned (.bool true) ∧ Below w.heap.size w w' := by
  have hj := lexS_join hl hm
  rw [bl_len, bl_len] at hj
  have hbl := bl_join a b
  have hsz : (a ++ ⟨#[10]⟩ ++ b).size ≤ 20000 := by rw [← bl_len, hbl]; simp; rw [bl_len, bl_len]; omega
  have e1 : decide ((8000 : Int) < (a.size : Int)) = false := decide_eq_false (by omega)
  have e2 : decide ((8000 : Int) < (b.size : Int)) = false := decide_eq_false (by omega)
  have hlo := fun W => lex_o a l W (by omega) hl
  have hmo := fun W => lex_o b m W (by omega) hm
  obtain ⟨k, hk⟩ : ∃ k, l.length = k := ⟨_, rfl⟩
  obtain ⟨q, hq⟩ : ∃ q, m.length = q := ⟨_, rfl⟩
  have hb1 := (lexS_bd hl).2.2.1
  have hb2 := (lexS_bd hm).2.2.1
  rw [hk] at hlo hbig hj hb1
  rw [hq] at hmo hbig hj hb2
  have HLO := Lib.hid hlo
  have HMO := Lib.hid hmo
  clear hl hm hlo hmo hk hq
  by_cases h8 : 8000 < a.size + b.size + 1
  · have e3 : decide ((8000 : Int) < (a.size : Int) + (b.size : Int) + 1) = true := decide_eq_true (by omega)
    have HJ := Lib.hid (hbl ▸ hj.1 h8 : lexS (bl (a ++ ⟨#[10]⟩ ++ b)) = .err 2 0)
    clear hj hbl hbig
    go_enter Try.func6, Try.ntmps6
    go_wp2_with (first
      | (go_at_call 9; with_reducible refine (head_any _).mono ?_; rintro e w1 ⟨rfl, h1⟩)
      | (go_at_call 10; with_reducible refine (HLO.out _).mono ?_; rintro e w2 ⟨A2, c2, rfl, ⟨_, _, k2⟩, h2⟩
         have H2 := Lib.hid (bel_step h1 h2))
      | (go_at_call 10; with_reducible refine (HMO.out _).mono ?_; rintro e w3 ⟨A3, c3, rfl, ⟨_, _, k3⟩, h3⟩
         have H3 := Lib.hid (bel_step H2.out h3))
      | (go_at_call 10; with_reducible refine (lex_e (a ++ ⟨#[10]⟩ ++ b) 2 0 _ hsz HJ.out).mono ?_; rintro e w4 ⟨rfl, h4⟩
         have H4 := Lib.hid (bel_step H3.out h4)))
    all_goals (try (exfalso; omega))
    go_ret
    exact ⟨rfl, H4.out⟩
  · have e3 : decide ((8000 : Int) < (a.size : Int) + (b.size : Int) + 1) = false := decide_eq_false (by omega)
    have e4 : decide ((2000 : Int) < (k : Int) + (q : Int)) = true := decide_eq_true (by omega)
    obtain ⟨p, hp, hx⟩ := hj.2.1 (by omega) (by omega)
    have HJ := Lib.hid (hbl ▸ hx : lexS (bl (a ++ ⟨#[10]⟩ ++ b)) = .err 2 p)
    have e5 : decide ((a.size : Int) < (p : Int)) = true := decide_eq_true (by omega)
    clear hj hbl hbig hx
    go_enter Try.func6, Try.ntmps6
    go_wp2_with (first
      | (go_at_call 9; with_reducible refine (head_any _).mono ?_; rintro e w1 ⟨rfl, h1⟩)
      | (go_at_call 10; with_reducible refine (HLO.out _).mono ?_; rintro e w2 ⟨A2, c2, rfl, ⟨_, _, k2⟩, h2⟩
         have H2 := Lib.hid (bel_step h1 h2))
      | (go_at_call 10; with_reducible refine (HMO.out _).mono ?_; rintro e w3 ⟨A3, c3, rfl, ⟨_, _, k3⟩, h3⟩
         have H3 := Lib.hid (bel_step H2.out h3))
      | (go_at_call 10; with_reducible refine (lex_e (a ++ ⟨#[10]⟩ ++ b) 2 p _ hsz HJ.out).mono ?_; rintro e w4 ⟨rfl, h4⟩
         have H4 := Lib.hid (bel_step H3.out h4)))
    all_goals (try (exfalso; omega))
    go_ret
    exact ⟨rfl, H4.out⟩
end Go.Proofs.Ytkmjflkodckflaa
