/-
  THE LAW LexerMatchesReference, walked; how many tokens there are, and where.
-/
import Derived.Test.YtkmjflkodckflaaHead
namespace Go.Proofs.Ytkmjflkodckflaa
open Go.RowKit
set_option linter.unusedVariables false
set_option linter.unusedSimpArgs false
attribute [local go_sem ↓] Go.wp_at_zero Go.wp_at_succ

/-- one step of the tokens -/
theorem lexA_ok {r : List Nat} {a n : Nat} {ts : List Tok} (h : lexA r a n = .ok ts) :
    (r.drop (gapN false r) = [] ∧ ts = []) ∨ ∃ c t rest, r.drop (gapN false r) = c :: t ∧ n ≠ 2000 ∧ (tok1 (c :: t)).2.2 = 0 ∧ lexA (t.drop ((tok1 (c :: t)).2.1 - 1)) (a + gapN false r + (tok1 (c :: t)).2.1) (n + 1) = .ok rest ∧ ts = ((tok1 (c :: t)).1.1, (tok1 (c :: t)).1.2.1, (tok1 (c :: t)).1.2.2, a + gapN false r) :: rest := by
  rw [lexA_eq] at h
  cases hr : r.drop (gapN false r) with
  | nil => rw [hr] at h; simp [lexB] at h; exact .inl ⟨rfl, by first | exact h | exact h.symm⟩
  | cons c t =>
    rw [hr] at h
    right
    simp only [lexB] at h
    split at h
    · cases h
    · rename_i hn
      split at h
      · rename_i he
        cases hx : lexA (t.drop ((tok1 (c :: t)).2.1 - 1)) (a + gapN false r + (tok1 (c :: t)).2.1) (n + 1) with
        | ok rest =>
          rw [hx] at h
          simp only [Res.pre] at h
          exact ⟨c, t, rest, rfl, hn, he, hx, by injection h with h; exact h.symm⟩
        | err e p => rw [hx] at h; simp [Res.pre] at h
      · cases h
theorem lexA_bd : ∀ (N : Nat) (r : List Nat) (a n : Nat) (ts : List Tok), r.length ≤ N → n ≤ 2000 → lexA r a n = .ok ts → n + ts.length ≤ 2000 ∧ ∀ t ∈ ts, a ≤ t.2.2.2 ∧ t.2.2.2 < a + r.length := by
  intro N
  induction N with
  | zero =>
    intro r a n ts hr hn h
    obtain rfl : r = [] := List.eq_nil_of_length_eq_zero (by omega)
    rcases lexA_ok h with ⟨_, rfl⟩ | ⟨c, t, rest, h1, _⟩
    · exact ⟨by simpa using hn, fun t ht => by simp at ht⟩
    · simp at h1
  | succ N ih =>
    intro r a n ts hr hn h
    rcases lexA_ok h with ⟨_, rfl⟩ | ⟨c, t, rest, h1, h2, h3, h4, rfl⟩
    · exact ⟨by simpa using hn, fun t ht => by simp at ht⟩
    · have hl : (r.drop (gapN false r)).length = t.length + 1 := by rw [h1]; rfl
      rw [List.length_drop] at hl
      have hg := gapN_le false r
      have hm := tok1_le (c :: t)
      have hp := tok1_pos h3
      simp only [List.length_cons] at hm
      obtain ⟨i1, i2⟩ := ih _ _ _ _ (by simp; omega) (by omega) h4
      refine ⟨by simp only [List.length_cons]; omega, fun x hx => ?_⟩
      rcases List.mem_cons.1 hx with rfl | hx
      · simp only []; omega
      · have := i2 x hx
        simp only [List.length_drop] at this
        omega
theorem lexS_bd {l : List Nat} {ts : List Tok} (h : lexS l = .ok ts) : l.length ≤ 8000 ∧ lexA l 0 0 = .ok ts ∧ ts.length ≤ 2000 ∧ ∀ t ∈ ts, t.2.2.2 < l.length := by
  unfold lexS at h
  split at h
  · cases h
  · rename_i hl
    have := lexA_bd l.length l 0 0 ts (Nat.le_refl _) (by omega) h
    exact ⟨by omega, h, by omega, fun t ht => by have := this.2 t ht; omega⟩
set_option maxRecDepth 100000 in
set_option maxHeartbeats 2000000 in
theorem match_all (s : ByteArray) (w : World) (hs : s.size ≤ 9223372036854775807) :
    Calls Try.prog 3 #[.string s] w fun e w' => e = .returned (.bool true) ∧ Below w.heap.size w w' := by
  by_cases hbig : 10000 < s.size
  · go_enter Try.func3, Try.ntmps3
    go_wp2_with (first
      | (go_at_call 9; with_reducible refine (head_any _).mono ?_; rintro e w1 ⟨rfl, h1⟩))
    all_goals (try (exfalso; omega))
    go_ret
    exact ⟨rfl, h1⟩
  · cases hr : lexS (bl s) with
    | ok ts =>
      obtain ⟨h8, _, hlen, hoff⟩ := lexS_bd hr
      have HR := Lib.hid hr
      have HOF : Hid (∀ t ∈ ts, t.2.2.2 ≤ 100000) := Lib.hid fun t ht => by have := hoff t ht; omega
      obtain ⟨n, hn⟩ : ∃ n, ts.length = n := ⟨_, rfl⟩
      have HN := Lib.hid hn
      rw [hn] at hlen
      have hlo := fun W => lex_o s ts W (by omega) hr
      have hro := fun W => rlex_o s ts W (by omega) hr
      rw [hn] at hlo hro
      have HLO := Lib.hid hlo
      have HRO := Lib.hid hro
      clear hr hoff hn hlo hro h8
      go_enter Try.func3, Try.ntmps3
      go_wp2_with (first
        | (go_at_call 9; with_reducible refine (head_any _).mono ?_; rintro e w1 ⟨rfl, h1⟩)
        | (go_at_call 10; with_reducible refine (HLO.out _).mono ?_; rintro e w2 ⟨A2, c2, rfl, ⟨r2, _, k2⟩, h2⟩
           have H2 := Lib.hid (bel_step h1 h2))
        | (go_at_call 11; with_reducible refine (HRO.out _).mono ?_; rintro e w3 ⟨A3, c3, rfl, ⟨r3, _, k3⟩, h3⟩
           have H3 := Lib.hid (bel_step H2.out h3)
           have R2 := Lib.hid (r2.keep h3)
           have R3 := Lib.hid r3)
        | (go_at_call 12; with_reducible refine (same_k A2 A3 n n c2 c3 ts ts 0 _ (by omega) HN.out HN.out R2.out R3.out (SameBy.refl _) HOF.out).mono ?_; rintro e w4 ⟨rfl, h4⟩
           have H4 := Lib.hid (bel_step H3.out h4)))
      all_goals (try (exfalso; omega))
      go_ret
      exact ⟨rfl, H4.out⟩
    | err er p =>
      have HR := Lib.hid hr
      have hs2 : s.size ≤ 20000 := by omega
      clear hr
      go_enter Try.func3, Try.ntmps3
      go_wp2_with (first
        | (go_at_call 9; with_reducible refine (head_any _).mono ?_; rintro e w1 ⟨rfl, h1⟩)
        | (go_at_call 10; with_reducible refine (lex_e s er p _ hs2 HR.out).mono ?_; rintro e w2 ⟨rfl, h2⟩
           have H2 := Lib.hid (bel_step h1 h2))
        | (go_at_call 11; with_reducible refine (rlex_e s er p _ hs2 HR.out).mono ?_; rintro e w3 ⟨rfl, h3⟩
           have H3 := Lib.hid (bel_step H2.out h3))
        | (go_at_call 12; with_reducible refine (same_k none none 0 0 0 0 [] [] 0 _ (by omega) rfl rfl RL_nil RL_nil (SameBy.refl _) (fun t ht => by simp at ht)).mono ?_; rintro e w4 ⟨rfl, h4⟩
           have H4 := Lib.hid (bel_step H3.out h4)))
      all_goals (try (exfalso; omega))
      go_ret
      exact ⟨rfl, H4.out⟩
end Go.Proofs.Ytkmjflkodckflaa
