/-
  THE LAW LexerJoins, walked.
-/
import Derived.Test.YtkmjflkodckflaaVisit
namespace Go.Proofs.Ytkmjflkodckflaa
open Go.RowKit
set_option linter.unusedVariables false
set_option linter.unusedSimpArgs false
attribute [local go_sem ↓] Go.wp_at_zero Go.wp_at_succ

/-- two sources joined by a line feed -/
theorem lexS_join {a b : List Nat} {l m : List Tok} (ha : lexS a = .ok l) (hb : lexS b = .ok m) :
    (8000 < a.length + b.length + 1 → lexS (a ++ 10 :: b) = .err 2 0) ∧
    (a.length + b.length + 1 ≤ 8000 → 2000 < l.length + m.length → ∃ p, a.length < p ∧ lexS (a ++ 10 :: b) = .err 2 p) ∧
    (a.length + b.length + 1 ≤ 8000 → l.length + m.length ≤ 2000 → lexS (a ++ 10 :: b) = .ok (l ++ m.map (sh (a.length + 1)))) := by
  obtain ⟨_, ha2, hl, _⟩ := lexS_bd ha
  obtain ⟨_, hb2, hm, _⟩ := lexS_bd hb
  have hlen : (a ++ 10 :: b).length = a.length + b.length + 1 := by simp; omega
  have hj := lexA_join a.length a 0 0 l b (Nat.le_refl _) ha2
  rw [Nat.zero_add, Nat.zero_add] at hj
  have hs := lexA_sh b.length b 0 0 m (a.length + 1) l.length (Nat.le_refl _) hb2 hl
  rw [Nat.zero_add] at hs
  refine ⟨fun h => ?_, fun h h2 => ?_, fun h h2 => ?_⟩
  · unfold lexS; rw [if_pos (by omega)]
  · obtain ⟨p, hp, hx⟩ := hs.2 h2
    exact ⟨p, by omega, by unfold lexS; rw [if_neg (by omega), hj, hx]; rfl⟩
  · unfold lexS; rw [if_neg (by omega), hj, hs.1 h2]; rfl
theorem bl_join (a b : ByteArray) : bl (a ++ ⟨#[10]⟩ ++ b) = bl a ++ 10 :: bl b := by rw [bl_append, bl_append]; simp [bl]
theorem same_pre (l m : List Tok) : SameBy 0 l ((l ++ m).take l.length) := by
  have : (l ++ m).take l.length = l := by simp
  rw [this]
  exact SameBy.refl l
theorem atK_map {d : Nat} {m : List Tok} {i : Nat} (h : i < m.length) : atK (m.map (sh d)) i = sh d (atK m i) := by
  simp [atK, List.getD_eq_getElem?_getD, h]
theorem same_sh (d : Nat) (m : List Tok) : SameBy (d : Int) m (m.map (sh d)) := by
  refine ⟨by simp, fun i hi => ?_⟩
  rw [atK_map hi]
  exact ⟨rfl, rfl, rfl, by simp [sh]⟩
theorem cK_take : ∀ (l : List Tok) (k : Nat), cK (l.take k) = (cK l).take (k * 4) := by
  intro l
  induction l with
  | nil => intro k; simp [cK]
  | cons t l ih =>
    intro k
    cases k with
    | zero => simp [cK]
    | succ k => rw [show (k + 1) * 4 = k * 4 + 1 + 1 + 1 + 1 by omega]; simp [cK, ih]
theorem cK_drop : ∀ (l : List Tok) (k : Nat), cK (l.drop k) = (cK l).drop (k * 4) := by
  intro l
  induction l with
  | nil => intro k; simp [cK]
  | cons t l ih =>
    intro k
    cases k with
    | zero => simp
    | succ k => rw [show (k + 1) * 4 = k * 4 + 1 + 1 + 1 + 1 by omega]; simp [cK, ih]
theorem RL.tk {w : World} {A : Option Addr} {l : List Tok} (x : RL w A (cK l)) (k : Nat) : RL w A (cK (l.take k)) := by
  rw [cK_take]
  exact x.take _
theorem RL.dk {w : World} {b o : Nat} {l : List Tok} (x : RL w (some ⟨b, o, none⟩) (cK l)) (k : Nat) : RL w (some ⟨b, o + k * 4, none⟩) (cK (l.drop k)) := by
  rw [cK_drop]
  intro j v hv
  rw [List.getElem?_drop] at hv
  obtain ⟨b', o', e, hl, hc⟩ := x _ v hv
  cases e
  exact ⟨b, o + k * 4, rfl, hl, by rw [show o + k * 4 + j = o + (k * 4 + j) by omega]; exact hc⟩
theorem lexA_ne : ∀ (N : Nat) (r : List Nat) (a n : Nat) (e : Int) (p : Nat), r.length ≤ N → lexA r a n = .err e p → e ≠ 0 := by
  intro N
  induction N with
  | zero =>
    intro r a n e p hr h
    obtain rfl : r = [] := List.eq_nil_of_length_eq_zero (by omega)
    rw [lexA_eq] at h
    simp [lexB] at h
  | succ N ih =>
    intro r a n e p hr h
    rw [lexA_eq] at h
    cases hd : r.drop (gapN false r) with
    | nil => rw [hd] at h; simp [lexB] at h
    | cons c t =>
      rw [hd] at h
      have hl : (r.drop (gapN false r)).length = t.length + 1 := by rw [hd]; rfl
      rw [List.length_drop] at hl
      simp only [lexB] at h
      split at h
      · injection h with h1 _; rw [← h1]; decide
      · split at h
        · cases hx : lexA (t.drop ((tok1 (c :: t)).2.1 - 1)) (a + gapN false r + (tok1 (c :: t)).2.1) (n + 1) with
          | ok rest => rw [hx] at h; simp [Res.pre] at h
          | err e2 p2 =>
            rw [hx] at h
            simp only [Res.pre] at h
            injection h with h1 _
            rw [← h1]
            exact ih _ _ _ _ _ (by simp; omega) hx
        · rename_i he
          injection h with h1 _
          rw [← h1]
          exact he
theorem lexS_ne {l : List Nat} {e : Int} {p : Nat} (h : lexS l = .err e p) : e ≠ 0 := by
  unfold lexS at h
  split at h
  · injection h with h1 _; rw [← h1]; decide
  · exact lexA_ne _ _ _ _ _ _ (Nat.le_refl _) h
set_option maxRecDepth 100000 in
set_option maxHeartbeats 4000000 in
theorem joins_no (a b : ByteArray) (w : World) (hab : 8000 < a.size ∨ 8000 < b.size) (ha : a.size ≤ 9223372036854775807) (hb : b.size ≤ 9223372036854775807) :
    Calls Try.prog 6 #[.string a, .string b] w fun e w' => e = .returned (.bool true) ∧ Below w.heap.size w w' := by
  by_cases h1 : 8000 < a.size
  · have e1 : decide ((8000 : Int) < (a.size : Int)) = true := decide_eq_true (by omega)
    go_enter Try.func6, Try.ntmps6
    go_wp2_with (first | (go_at_call 9; with_reducible refine (head_any _).mono ?_; rintro e w1 ⟨rfl, h1⟩))
    all_goals (try (exfalso; omega))
    go_ret
    exact ⟨rfl, h1⟩
  · have e1 : decide ((8000 : Int) < (a.size : Int)) = false := decide_eq_false (by omega)
    have e2 : decide ((8000 : Int) < (b.size : Int)) = true := decide_eq_true (by omega)
    go_enter Try.func6, Try.ntmps6
    go_wp2_with (first | (go_at_call 9; with_reducible refine (head_any _).mono ?_; rintro e w1 ⟨rfl, h1⟩))
    all_goals (try (exfalso; omega))
    go_ret
    exact ⟨rfl, h1⟩
set_option maxRecDepth 100000 in
set_option maxHeartbeats 4000000 in
theorem joins_err (a b : ByteArray) (w : World) (ha : a.size ≤ 8000) (hb : b.size ≤ 8000) (er : Int) (p : Nat) (hr : lexS (bl a) = .err er p) :
    Calls Try.prog 6 #[.string a, .string b] w fun e w' => e = .returned (.bool true) ∧ Below w.heap.size w w' := by
  have hz : (er != 0) = true := by simpa using lexS_ne hr
  have HR := Lib.hid hr
  clear hr
  have e1 : decide ((8000 : Int) < (a.size : Int)) = false := decide_eq_false (by omega)
  have e2 : decide ((8000 : Int) < (b.size : Int)) = false := decide_eq_false (by omega)
  cases hb2 : lexS (bl b) with
  | ok m =>
    have hlo := fun W => lex_o b m W (by omega) hb2
    obtain ⟨k, hk⟩ : ∃ k, m.length = k := ⟨_, rfl⟩
    rw [hk] at hlo
    have HLO := Lib.hid hlo
    clear hb2 hlo hk
    go_enter Try.func6, Try.ntmps6
    go_wp2_with (first
      | (go_at_call 9; with_reducible refine (head_any _).mono ?_; rintro e w1 ⟨rfl, h1⟩)
      | (go_at_call 10; with_reducible refine (lex_e a er p _ (by omega) HR.out).mono ?_; rintro e w2 ⟨rfl, h2⟩
         have H2 := Lib.hid (bel_step h1 h2))
      | (go_at_call 10; with_reducible refine (HLO.out _).mono ?_; rintro e w3 ⟨A3, c3, rfl, _, h3⟩
         have H3 := Lib.hid (bel_step H2.out h3)))
    all_goals (try (exfalso; omega))
    go_ret
    exact ⟨rfl, H3.out⟩
  | err er2 p2 =>
    have HR2 := Lib.hid hb2
    clear hb2
    go_enter Try.func6, Try.ntmps6
    go_wp2_with (first
      | (go_at_call 9; with_reducible refine (head_any _).mono ?_; rintro e w1 ⟨rfl, h1⟩)
      | (go_at_call 10; with_reducible refine (lex_e a er p _ (by omega) HR.out).mono ?_; rintro e w2 ⟨rfl, h2⟩
         have H2 := Lib.hid (bel_step h1 h2))
      | (go_at_call 10; with_reducible refine (lex_e b er2 p2 _ (by omega) HR2.out).mono ?_; rintro e w3 ⟨rfl, h3⟩
         have H3 := Lib.hid (bel_step H2.out h3)))
    all_goals (try (exfalso; omega))
    go_ret
    exact ⟨rfl, H3.out⟩
end Go.Proofs.Ytkmjflkodckflaa
