/-
  THE LAW LexerJoins, walked: two sources joined.
-/
import Derived.Test.YtkmjflkodckflaaJoinsb
namespace Go.Proofs.Ytkmjflkodckflaa
open Go.RowKit
set_option linter.unusedVariables false
set_option linter.unusedSimpArgs false
attribute [local go_sem ↓] Go.wp_at_zero Go.wp_at_succ

theorem RL.mk {w : World} {A : Option Addr} {l m : List Tok} {k : Nat} (x : RL w A (cK (l ++ m))) (hk : l.length = k) : RL w (Option.map (fun x => x.add (k * 4)) A) (cK m) := by
  intro j v hv
  have e : cK (l ++ m) = cK l ++ cK m := cK_app l m
  obtain ⟨b, o, e', hl, hc⟩ := x (k * 4 + j) v (by rw [e, List.getElem?_append_right (by rw [cK_len]; omega), cK_len, hk, Nat.add_sub_cancel_left]; exact hv)
  subst e'
  exact ⟨b, o + k * 4, by simp [Addr.add_lit], hl, by rw [show o + k * 4 + j = o + (k * 4 + j) by omega]; exact hc⟩
theorem same_q0 (A B : Option Addr) (q c d : Nat) (m : List Tok) (dd : Int) (w : World) (hq : m.length = q) (h0 : q = 0) :
    Calls Try.prog 12 #[.slice A q c, .slice B q d, .int .i64 dd] w fun e w' => e = .returned (.bool true) ∧ Below w.heap.size w w' := by
  subst h0
  exact same_k A B 0 0 c d [] [] dd w (by omega) rfl rfl RL_nil RL_nil ⟨rfl, fun i hi => by simp at hi⟩ (fun t ht => by simp at ht)
set_option maxRecDepth 100000 in
set_option maxHeartbeats 4000000 in
theorem joins_ok (a b : ByteArray) (w : World) (ha : a.size ≤ 8000) (hb : b.size ≤ 8000) (l m : List Tok) (hl : lexS (bl a) = .ok l) (hm : lexS (bl b) = .ok m) (h8 : a.size + b.size + 1 ≤ 8000) (h2 : l.length + m.length ≤ 2000) :
    Calls Try.prog 6 #[.string a, .string b] w fun e w' => e = .returned (.bool true) ∧ Below w.heap.size w w' := by
  have hj := lexS_join hl hm
  rw [bl_len, bl_len] at hj
  have hbl := bl_join a b
  have hsz : (a ++ ⟨#[10]⟩ ++ b).size ≤ 20000 := by rw [← bl_len, hbl]; simp; rw [bl_len, bl_len]; omega
  have e1 : decide ((8000 : Int) < (a.size : Int)) = false := decide_eq_false (by omega)
  have e2 : decide ((8000 : Int) < (b.size : Int)) = false := decide_eq_false (by omega)
  have hlo := fun W => lex_o a l W (by omega) hl
  have hmo := fun W => lex_o b m W (by omega) hm
  have hjo := fun W => lex_o (a ++ ⟨#[10]⟩ ++ b) (l ++ m.map (sh (a.size + 1))) W hsz (by rw [hbl]; exact hj.2.2 h8 h2)
  obtain ⟨k, hk⟩ : ∃ k, l.length = k := ⟨_, rfl⟩
  obtain ⟨q, hq⟩ : ∃ q, m.length = q := ⟨_, rfl⟩
  have hlm : (l ++ m.map (sh (a.size + 1))).length = k + q := by simp [hk, hq]
  rw [hlm] at hjo
  rw [hk] at hlo h2
  rw [hq] at hmo h2
  have HK := Lib.hid hk
  have HQ := Lib.hid hq
  have HLO := Lib.hid hlo
  have HMO := Lib.hid hmo
  have HJO := Lib.hid hjo
  have e3 : decide ((8000 : Int) < (a.size : Int) + (b.size : Int) + 1) = false := decide_eq_false (by omega)
  have e4 : decide ((2000 : Int) < (k : Int) + (q : Int)) = false := decide_eq_false (by omega)
  have HOL : Hid (∀ t ∈ l, t.2.2.2 ≤ 100000) := Lib.hid fun t ht => by have := (lexS_bd hl).2.2.2 t ht; rw [bl_len] at this; omega
  have HOM : Hid (∀ t ∈ m.map (sh (a.size + 1)), t.2.2.2 ≤ 100000) := Lib.hid fun t ht => by
    obtain ⟨u, hu, rfl⟩ := List.mem_map.1 ht
    have := (lexS_bd hm).2.2.2 u hu
    rw [bl_len] at this
    simp only [sh]
    omega
  clear hl hm hlo hmo hjo hk hq hj hbl hlm
  go_enter Try.func6, Try.ntmps6
  go_upto_region 13 with (first
    | (go_at_call 9; with_reducible refine (head_any _).mono ?_; rintro e w1 ⟨rfl, h1⟩)
    | (go_at_call 10; with_reducible refine (HLO.out _).mono ?_; rintro e w2 ⟨A2, c2, rfl, ⟨r2, n2, k2⟩, g2⟩
       have H2 := Lib.hid (bel_step h1 g2))
    | (go_at_call 10; with_reducible refine (HMO.out _).mono ?_; rintro e w3 ⟨A3, c3, rfl, ⟨r3, n3, k3⟩, g3⟩
       have H3 := Lib.hid (bel_step H2.out g3))
    | (go_at_call 10; with_reducible refine (HJO.out _).mono ?_; rintro e w4 ⟨A4, c4, rfl, ⟨r4, n4, k4⟩, g4⟩
       have H4 := Lib.hid (bel_step H3.out g4)))
  all_goals (try (exfalso; omega))
  have R2 := Lib.hid ((r2.keep g3).keep g4)
  have R3 := Lib.hid (r3.keep g4)
  have R4 := Lib.hid r4
  clear r2 r3 r4 h1 g2 g3 g4
  have i1 : (0 : Int) ≤ (k : Int) := by omega
  have i2 : (k : Int) ≤ (c4 : Int) := by omega
  have i3 : (k : Int) ≤ (k : Int) + (q : Int) := by omega
  have R4m := Lib.hid (R4.out.mk HK.out)
  have HQM : Hid ((m.map (sh (a.size + 1))).length = q) := Lib.hid (by rw [List.length_map]; exact HQ.out)
  have HSM : Hid (SameBy ((a.size : Int) + 1) m (m.map (sh (a.size + 1)))) := Lib.hid (same_sh (a.size + 1) m)
  have R4a : Hid (RL w4 A4 (cK l)) := Lib.hid (by have q := R4.out.tk k; rw [← HK.out, List.take_left] at q; exact q)
  go_wp2_with (first
    | (go_at_call 12; with_reducible refine (same_k A2 A4 k k c2 c4 l l 0 _ (by omega) HK.out HK.out R2.out R4a.out (SameBy.refl _) HOL.out).mono ?_; rintro e w5 ⟨rfl, h5⟩
       have H5 := Lib.hid (bel_step H4.out h5))
    | (go_at_call 12; with_reducible refine (same_k A3 _ q q c3 _ m (m.map (sh (a.size + 1))) ((a.size : Int) + 1) _ (by omega) HQ.out HQM.out (R3.out.keep h5) (R4m.out.keep h5) HSM.out HOM.out).mono ?_; rintro e w6 ⟨rfl, h6⟩
       have H6 := Lib.hid (bel_step H5.out h6))
    | (go_at_call 12; have hq0 : q = 0 := (by omega); with_reducible refine (same_q0 A3 A4 q c3 0 m ((a.size : Int) + 1) _ HQ.out hq0).mono ?_; rintro e w6 ⟨rfl, h6⟩
       have H6 := Lib.hid (bel_step H5.out h6)))
  all_goals (try (exfalso; omega))
  all_goals (go_ret; exact ⟨rfl, H6.out⟩)
theorem joins_all (a b : ByteArray) (w : World) (ha : a.size ≤ 9223372036854775807) (hb : b.size ≤ 9223372036854775807) :
    Calls Try.prog 6 #[.string a, .string b] w fun e w' => e = .returned (.bool true) ∧ Below w.heap.size w w' := by
  by_cases h1 : 8000 < a.size ∨ 8000 < b.size
  · exact joins_no a b w h1 ha hb
  · cases hl : lexS (bl a) with
    | err er p => exact joins_err a b w (by omega) (by omega) er p hl
    | ok l =>
      cases hm : lexS (bl b) with
      | err er p => exact joins_err2 a b w (by omega) (by omega) l hl er p hm
      | ok m =>
        by_cases h2 : 8000 < a.size + b.size + 1 ∨ 2000 < l.length + m.length
        · exact joins_lim a b w (by omega) (by omega) l m hl hm h2
        · exact joins_ok a b w (by omega) (by omega) l m hl hm (by omega) (by omega)
end Go.Proofs.Ytkmjflkodckflaa
