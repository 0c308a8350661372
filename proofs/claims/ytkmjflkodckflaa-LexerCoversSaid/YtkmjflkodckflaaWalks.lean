/-
  THE WALKS over package lexer, first part: bytes, spans, values.
-/
import Derived.Test.YtkmjflkodckflaaPlain
import Derived.WalkSpells
import Derived.WalkLawsBesides
import Derived.BigGuardPart
import Derived.StillTailTactics
import Derived.Deep.QuietTactic
import Derived.BigQuiet
import Derived.IntWalk
import Derived.Lib.Hide
import Derived.Outline
import Derived.Deep.RegionHeld3
import Derived.Deep.RegionLaw
import Derived.Deep.DrawnRows
import Derived.Deep.AppendLies
import Derived.Deep.DeepCutAuto
import Derived.Handy
import Derived.Laws.DeepStrings4
namespace Go.Proofs.Ytkmjflkodckflaa
open Go.RowKit
set_option linter.unusedVariables false
attribute [local go_sem ↓] Go.wp_at_zero Go.wp_at_succ

theorem ret_bool {a b : Bool} (h : a = b) : Ending.returned (.bool a) = .returned (.bool b) := by rw [h]
theorem ret_int {a b : Int} (h : a = b) : Ending.returned (.int .i64 a) = .returned (.int .i64 b) := by rw [h]
theorem isGap_any (c : Nat) (w : World) : Calls Try.prog 21 #[.int .u8 c] w fun e w' => e = .returned (.bool (gapB c)) ∧ w' = w := by
  by_cases h32 : c = 32
  · subst h32
    go_enter Try.func21, Try.ntmps21
    go_wp2
    go_ret
    exact ⟨rfl, rfl⟩
  have e32 : ((c : Int) == 32) = false := by simp; omega
  by_cases h9 : c = 9
  · subst h9
    go_enter Try.func21, Try.ntmps21
    go_wp2
    go_ret
    exact ⟨rfl, rfl⟩
  have e9 : ((c : Int) == 9) = false := by simp; omega
  by_cases h10 : c = 10
  · subst h10
    go_enter Try.func21, Try.ntmps21
    go_wp2
    go_ret
    exact ⟨rfl, rfl⟩
  have e10 : ((c : Int) == 10) = false := by simp; omega
  have hr : Hid (false = gapB c) := Lib.hid (by simp [gapB]; omega)
  go_enter Try.func21, Try.ntmps21
  go_wp2
  all_goals (try (exfalso; omega))
  go_ret
  exact ⟨ret_bool hr.out, rfl⟩
theorem isPunct_any (c : Nat) (w : World) : Calls Try.prog 29 #[.int .u8 c] w fun e w' => e = .returned (.bool (punB c)) ∧ w' = w := by
  by_cases h59 : c = 59
  · subst h59
    go_enter Try.func29, Try.ntmps29
    go_wp2
    go_ret
    exact ⟨rfl, rfl⟩
  have e59 : ((c : Int) == 59) = false := by simp; omega
  by_cases h123 : c = 123
  · subst h123
    go_enter Try.func29, Try.ntmps29
    go_wp2
    go_ret
    exact ⟨rfl, rfl⟩
  have e123 : ((c : Int) == 123) = false := by simp; omega
  by_cases h125 : c = 125
  · subst h125
    go_enter Try.func29, Try.ntmps29
    go_wp2
    go_ret
    exact ⟨rfl, rfl⟩
  have e125 : ((c : Int) == 125) = false := by simp; omega
  have hr : Hid (false = punB c) := Lib.hid (by simp [punB]; omega)
  go_enter Try.func29, Try.ntmps29
  go_wp2
  all_goals (try (exfalso; omega))
  go_ret
  exact ⟨ret_bool hr.out, rfl⟩
theorem isLower_any (c : Nat) (w : World) : Calls Try.prog 27 #[.int .u8 c] w fun e w' => e = .returned (.bool (lowB c)) ∧ w' = w := by
  by_cases h1 : 97 ≤ c
  · have e1 : decide ((97 : Int) ≤ (c : Int)) = true := decide_eq_true (by omega)
    have hr : Hid (decide ((c : Int) ≤ 122) = lowB c) := Lib.hid (by simp [lowB, h1]; omega)
    go_enter Try.func27, Try.ntmps27
    go_wp2
    all_goals (try (exfalso; omega))
    go_ret
    exact ⟨ret_bool hr.out, rfl⟩
  · have e1 : decide ((97 : Int) ≤ (c : Int)) = false := decide_eq_false (by omega)
    have hr : Hid (false = lowB c) := Lib.hid (by simp [lowB, h1])
    go_enter Try.func27, Try.ntmps27
    go_wp2
    all_goals (try (exfalso; omega))
    go_ret
    exact ⟨ret_bool hr.out, rfl⟩
theorem isDigit_any (c : Nat) (w : World) : Calls Try.prog 28 #[.int .u8 c] w fun e w' => e = .returned (.bool (digB c)) ∧ w' = w := by
  by_cases h1 : 48 ≤ c
  · have e1 : decide ((48 : Int) ≤ (c : Int)) = true := decide_eq_true (by omega)
    have hr : Hid (decide ((c : Int) ≤ 57) = digB c) := Lib.hid (by simp [digB, h1]; omega)
    go_enter Try.func28, Try.ntmps28
    go_wp2
    all_goals (try (exfalso; omega))
    go_ret
    exact ⟨ret_bool hr.out, rfl⟩
  · have e1 : decide ((48 : Int) ≤ (c : Int)) = false := decide_eq_false (by omega)
    have hr : Hid (false = digB c) := Lib.hid (by simp [digB, h1])
    go_enter Try.func28, Try.ntmps28
    go_wp2
    all_goals (try (exfalso; omega))
    go_ret
    exact ⟨ret_bool hr.out, rfl⟩
theorem letter_any (c : Nat) (w : World) : Calls Try.prog 25 #[.int .u8 c] w fun e w' => e = .returned (.bool (lowB c)) ∧ w' = w := by
  by_cases h1 : 97 ≤ c
  · have e1 : decide ((97 : Int) ≤ (c : Int)) = true := decide_eq_true (by omega)
    have hr : Hid (decide ((c : Int) ≤ 122) = lowB c) := Lib.hid (by simp [lowB, h1]; omega)
    go_enter Try.func25, Try.ntmps25
    go_wp2
    all_goals (try (exfalso; omega))
    go_ret
    exact ⟨ret_bool hr.out, rfl⟩
  · have e1 : decide ((97 : Int) ≤ (c : Int)) = false := decide_eq_false (by omega)
    have hr : Hid (false = lowB c) := Lib.hid (by simp [lowB, h1])
    go_enter Try.func25, Try.ntmps25
    go_wp2
    all_goals (try (exfalso; omega))
    go_ret
    exact ⟨ret_bool hr.out, rfl⟩
theorem digit_any (c : Nat) (w : World) : Calls Try.prog 26 #[.int .u8 c] w fun e w' => e = .returned (.bool (digB c)) ∧ w' = w := by
  by_cases h1 : 48 ≤ c
  · have e1 : decide ((48 : Int) ≤ (c : Int)) = true := decide_eq_true (by omega)
    have hr : Hid (decide ((c : Int) ≤ 57) = digB c) := Lib.hid (by simp [digB, h1]; omega)
    go_enter Try.func26, Try.ntmps26
    go_wp2
    all_goals (try (exfalso; omega))
    go_ret
    exact ⟨ret_bool hr.out, rfl⟩
  · have e1 : decide ((48 : Int) ≤ (c : Int)) = false := decide_eq_false (by omega)
    have hr : Hid (false = digB c) := Lib.hid (by simp [digB, h1])
    go_enter Try.func26, Try.ntmps26
    go_wp2
    all_goals (try (exfalso; omega))
    go_ret
    exact ⟨ret_bool hr.out, rfl⟩
theorem notNl_any (c : Nat) (w : World) : Calls Try.prog 18 #[.int .u8 c] w fun e w' => e = .returned (.bool (nlB c)) ∧ w' = w := by
  have hr : Hid (((c : Int) != 10) = nlB c) := Lib.hid (by
    by_cases h : c = 10
    · subst h; rfl
    · have : ((c : Int) != 10) = true := by simp; omega
      rw [this]; simp [nlB, h])
  go_enter Try.func18, Try.ntmps18
  go_wp2
  all_goals (try (exfalso; omega))
  go_ret
  exact ⟨ret_bool hr.out, rfl⟩
set_option maxHeartbeats 1000000 in
theorem isNamePart_any (c : Nat) (w : World) : Calls Try.prog 30 #[.int .u8 c] w fun e w' => e = .returned (.bool (namB c)) ∧ w' = w := by
  have HN : Hid (namB c = (lowB c || digB c || decide (c = 95))) := Lib.hid rfl
  cases h1 : lowB c
  · have HL := Lib.hid h1
    cases h2 : digB c
    · have HD := Lib.hid h2
      have hr : Hid (((c : Int) == 95) = namB c) := Lib.hid (by
        rw [HN.out, h1, h2]
        by_cases h : c = 95
        · subst h; rfl
        · have : ((c : Int) == 95) = false := by simp; omega
          rw [this]; simp [h])
      clear h1 h2
      go_enter Try.func30, Try.ntmps30
      go_wp2_with (first
        | (go_at_call 27; with_reducible refine (isLower_any c _).mono ?_; rintro e w1 ⟨rfl, rfl⟩; rw [HL.out])
        | (go_at_call 28; with_reducible refine (isDigit_any c _).mono ?_; rintro e w1 ⟨rfl, rfl⟩; rw [HD.out]))
      all_goals (try (exfalso; omega))
      go_ret
      exact ⟨ret_bool hr.out, rfl⟩
    · have HD := Lib.hid h2
      have hr : Hid (true = namB c) := Lib.hid (by rw [HN.out, h1, h2]; rfl)
      clear h1 h2
      go_enter Try.func30, Try.ntmps30
      go_wp2_with (first
        | (go_at_call 27; with_reducible refine (isLower_any c _).mono ?_; rintro e w1 ⟨rfl, rfl⟩; rw [HL.out])
        | (go_at_call 28; with_reducible refine (isDigit_any c _).mono ?_; rintro e w1 ⟨rfl, rfl⟩; rw [HD.out]))
      go_ret
      exact ⟨ret_bool hr.out, rfl⟩
  · have HL := Lib.hid h1
    have hr : Hid (true = namB c) := Lib.hid (by rw [HN.out, h1]; rfl)
    clear h1
    go_enter Try.func30, Try.ntmps30
    go_wp2_with (first
      | (go_at_call 27; with_reducible refine (isLower_any c _).mono ?_; rintro e w1 ⟨rfl, rfl⟩; rw [HL.out]))
    go_ret
    exact ⟨ret_bool hr.out, rfl⟩
set_option maxHeartbeats 2000000 in
theorem kindOf_any (c : Nat) (w : World) : Calls Try.prog 19 #[.int .u8 c] w fun e w' => e = .returned (.int .i64 (kindB c)) ∧ w' = w := by
  have HK : Hid (kindB c = if gapB c = true then 1 else if c = 35 then 2 else if lowB c = true then 3 else if digB c = true then 4 else if punB c = true then 5 else 0) := Lib.hid rfl
  obtain ⟨g, hg⟩ : ∃ g, gapB c = g := ⟨_, rfl⟩
  obtain ⟨l, hl⟩ : ∃ g, lowB c = g := ⟨_, rfl⟩
  obtain ⟨d, hd⟩ : ∃ g, digB c = g := ⟨_, rfl⟩
  obtain ⟨p, hp⟩ : ∃ g, punB c = g := ⟨_, rfl⟩
  have HG := Lib.hid hg
  have HL := Lib.hid hl
  have HD := Lib.hid hd
  have HP := Lib.hid hp
  rw [hg, hl, hd, hp] at HK
  clear hg hl hd hp
  obtain ⟨b35, e35, h35⟩ : ∃ b : Bool, ((c : Int) == 35) = b ∧ (c = 35 ↔ b = true) := ⟨_, rfl, by simp; omega⟩
  cases g
  · cases b35
    · have hc : ¬ c = 35 := fun e => by have := h35.1 e; cases this
      cases l
      · cases d
        · cases p
          all_goals
            simp only [Bool.false_eq_true, if_false, if_true, hc] at HK
            clear h35 hc
            go_enter Try.func19, Try.ntmps19
            go_wp2_with (first
      | (go_at_call 21; with_reducible refine (isGap_any c _).mono ?_; rintro e w1 ⟨rfl, rfl⟩; rw [HG.out])
      | (go_at_call 27; with_reducible refine (isLower_any c _).mono ?_; rintro e w1 ⟨rfl, rfl⟩; rw [HL.out])
      | (go_at_call 28; with_reducible refine (isDigit_any c _).mono ?_; rintro e w1 ⟨rfl, rfl⟩; rw [HD.out])
      | (go_at_call 29; with_reducible refine (isPunct_any c _).mono ?_; rintro e w1 ⟨rfl, rfl⟩; rw [HP.out]))
            go_ret
            exact ⟨ret_int HK.out.symm, rfl⟩
        · simp only [Bool.false_eq_true, if_false, if_true, hc] at HK
          clear h35 hc
          go_enter Try.func19, Try.ntmps19
          go_wp2_with (first
      | (go_at_call 21; with_reducible refine (isGap_any c _).mono ?_; rintro e w1 ⟨rfl, rfl⟩; rw [HG.out])
      | (go_at_call 27; with_reducible refine (isLower_any c _).mono ?_; rintro e w1 ⟨rfl, rfl⟩; rw [HL.out])
      | (go_at_call 28; with_reducible refine (isDigit_any c _).mono ?_; rintro e w1 ⟨rfl, rfl⟩; rw [HD.out])
      | (go_at_call 29; with_reducible refine (isPunct_any c _).mono ?_; rintro e w1 ⟨rfl, rfl⟩; rw [HP.out]))
          go_ret
          exact ⟨ret_int HK.out.symm, rfl⟩
      · simp only [Bool.false_eq_true, if_false, if_true, hc] at HK
        clear h35 hc
        go_enter Try.func19, Try.ntmps19
        go_wp2_with (first
      | (go_at_call 21; with_reducible refine (isGap_any c _).mono ?_; rintro e w1 ⟨rfl, rfl⟩; rw [HG.out])
      | (go_at_call 27; with_reducible refine (isLower_any c _).mono ?_; rintro e w1 ⟨rfl, rfl⟩; rw [HL.out])
      | (go_at_call 28; with_reducible refine (isDigit_any c _).mono ?_; rintro e w1 ⟨rfl, rfl⟩; rw [HD.out])
      | (go_at_call 29; with_reducible refine (isPunct_any c _).mono ?_; rintro e w1 ⟨rfl, rfl⟩; rw [HP.out]))
        go_ret
        exact ⟨ret_int HK.out.symm, rfl⟩
    · have hc : c = 35 := h35.2 rfl
      simp only [Bool.false_eq_true, if_false, if_true, hc] at HK
      have HC := Lib.hid hc
      clear h35 hc
      go_enter Try.func19, Try.ntmps19
      go_wp2_with (first
      | (go_at_call 21; with_reducible refine (isGap_any c _).mono ?_; rintro e w1 ⟨rfl, rfl⟩; rw [HG.out])
      | (go_at_call 27; with_reducible refine (isLower_any c _).mono ?_; rintro e w1 ⟨rfl, rfl⟩; rw [HL.out])
      | (go_at_call 28; with_reducible refine (isDigit_any c _).mono ?_; rintro e w1 ⟨rfl, rfl⟩; rw [HD.out])
      | (go_at_call 29; with_reducible refine (isPunct_any c _).mono ?_; rintro e w1 ⟨rfl, rfl⟩; rw [HP.out]))
      go_ret
      exact ⟨ret_int (by rw [HC.out]; rfl), rfl⟩
  · simp only [if_true] at HK
    clear h35
    go_enter Try.func19, Try.ntmps19
    go_wp2_with (first
      | (go_at_call 21; with_reducible refine (isGap_any c _).mono ?_; rintro e w1 ⟨rfl, rfl⟩; rw [HG.out])
      | (go_at_call 27; with_reducible refine (isLower_any c _).mono ?_; rintro e w1 ⟨rfl, rfl⟩; rw [HL.out])
      | (go_at_call 28; with_reducible refine (isDigit_any c _).mono ?_; rintro e w1 ⟨rfl, rfl⟩; rw [HD.out])
      | (go_at_call 29; with_reducible refine (isPunct_any c _).mono ?_; rintro e w1 ⟨rfl, rfl⟩; rw [HP.out]))
    go_ret
    exact ⟨ret_int HK.out.symm, rfl⟩
set_option maxHeartbeats 1000000 in
theorem span_gap (s : ByteArray) (a : Nat) (w : World) (hs : s.size ≤ 20000) (ha : a ≤ s.size) :
    Calls Try.prog 20 #[.string s, .int .i64 a, .func (.func 21) #[] #[]] w fun e w' => e = .returned (.int .i64 (spn gapB (bl s) a : Nat)) ∧ w = w' := by
  have HL := Lib.hid (bl_len s)
  go_enter Try.func20, Try.ntmps20
  go_wp2_with fail
  go_loopw [7] (fun i wr => ∃ k : Nat, k ≤ s.size ∧ i = .int .i64 k ∧ spn gapB (bl s) k = spn gapB (bl s) a ∧ w = wr) (fun i _ => s.size - (intOf i).toNat)
  case atStart => exact ⟨a, ha, rfl, rfl, rfl⟩
  case round =>
    obtain ⟨k, hk, rfl, hsp, rfl⟩ := hrel
    have HS := Lib.hid hsp
    clear hsp
    by_cases hlt : k < s.size
    · have i0 : (0 : Int) ≤ (k : Int) := by omega
      have i1 : (k : Int) < (s.size : Int) := by omega
      obtain ⟨c, hc⟩ : ∃ c, s[k].toNat = c := ⟨_, rfl⟩
      have HC : Hid ((bl s)[k]? = some c) := Lib.hid (by rw [bl_get hlt, hc])
      cases hp : gapB c
      · have HP := Lib.hid hp
        have hres : Hid ((k : Int) = (spn gapB (bl s) a : Nat)) := Lib.hid (by rw [← HS.out, spn_stop HC.out hp])
        clear hp
        go_wp2_with (go_at_call 21; with_reducible refine (isGap_any c _).mono ?_; rintro e w1 ⟨rfl, rfl⟩; rw [HP.out])
        go_ret
        exact ⟨ret_int hres.out, rfl⟩
      · have HP := Lib.hid hp
        have HN : Hid (spn gapB (bl s) (k + 1) = spn gapB (bl s) a) := Lib.hid (by rw [← HS.out, spn_on HC.out hp])
        clear hp
        go_wp2_with (go_at_call 21; with_reducible refine (isGap_any c _).mono ?_; rintro e w1 ⟨rfl, rfl⟩; rw [HP.out])
        go_roundw
        case rel => exact ⟨k + 1, by omega, by go_num, HN.out, by simp⟩
        case measure => simp [intOf] <;> omega
    · have hres : Hid ((k : Int) = (spn gapB (bl s) a : Nat)) := Lib.hid (by rw [← HS.out, spn_end (by have := HL.out; omega)])
      go_wp2_with fail
      all_goals (try (exfalso; omega))
      go_ret
      exact ⟨ret_int hres.out, rfl⟩
set_option maxHeartbeats 1000000 in
theorem span_nam (s : ByteArray) (a : Nat) (w : World) (hs : s.size ≤ 20000) (ha : a ≤ s.size) :
    Calls Try.prog 20 #[.string s, .int .i64 a, .func (.func 30) #[] #[]] w fun e w' => e = .returned (.int .i64 (spn namB (bl s) a : Nat)) ∧ w = w' := by
  have HL := Lib.hid (bl_len s)
  go_enter Try.func20, Try.ntmps20
  go_wp2_with fail
  go_loopw [7] (fun i wr => ∃ k : Nat, k ≤ s.size ∧ i = .int .i64 k ∧ spn namB (bl s) k = spn namB (bl s) a ∧ w = wr) (fun i _ => s.size - (intOf i).toNat)
  case atStart => exact ⟨a, ha, rfl, rfl, rfl⟩
  case round =>
    obtain ⟨k, hk, rfl, hsp, rfl⟩ := hrel
    have HS := Lib.hid hsp
    clear hsp
    by_cases hlt : k < s.size
    · have i0 : (0 : Int) ≤ (k : Int) := by omega
      have i1 : (k : Int) < (s.size : Int) := by omega
      obtain ⟨c, hc⟩ : ∃ c, s[k].toNat = c := ⟨_, rfl⟩
      have HC : Hid ((bl s)[k]? = some c) := Lib.hid (by rw [bl_get hlt, hc])
      cases hp : namB c
      · have HP := Lib.hid hp
        have hres : Hid ((k : Int) = (spn namB (bl s) a : Nat)) := Lib.hid (by rw [← HS.out, spn_stop HC.out hp])
        clear hp
        go_wp2_with (go_at_call 30; with_reducible refine (isNamePart_any c _).mono ?_; rintro e w1 ⟨rfl, rfl⟩; rw [HP.out])
        go_ret
        exact ⟨ret_int hres.out, rfl⟩
      · have HP := Lib.hid hp
        have HN : Hid (spn namB (bl s) (k + 1) = spn namB (bl s) a) := Lib.hid (by rw [← HS.out, spn_on HC.out hp])
        clear hp
        go_wp2_with (go_at_call 30; with_reducible refine (isNamePart_any c _).mono ?_; rintro e w1 ⟨rfl, rfl⟩; rw [HP.out])
        go_roundw
        case rel => exact ⟨k + 1, by omega, by go_num, HN.out, by simp⟩
        case measure => simp [intOf] <;> omega
    · have hres : Hid ((k : Int) = (spn namB (bl s) a : Nat)) := Lib.hid (by rw [← HS.out, spn_end (by have := HL.out; omega)])
      go_wp2_with fail
      all_goals (try (exfalso; omega))
      go_ret
      exact ⟨ret_int hres.out, rfl⟩
set_option maxHeartbeats 1000000 in
theorem span_dig (s : ByteArray) (a : Nat) (w : World) (hs : s.size ≤ 20000) (ha : a ≤ s.size) :
    Calls Try.prog 20 #[.string s, .int .i64 a, .func (.func 28) #[] #[]] w fun e w' => e = .returned (.int .i64 (spn digB (bl s) a : Nat)) ∧ w = w' := by
  have HL := Lib.hid (bl_len s)
  go_enter Try.func20, Try.ntmps20
  go_wp2_with fail
  go_loopw [7] (fun i wr => ∃ k : Nat, k ≤ s.size ∧ i = .int .i64 k ∧ spn digB (bl s) k = spn digB (bl s) a ∧ w = wr) (fun i _ => s.size - (intOf i).toNat)
  case atStart => exact ⟨a, ha, rfl, rfl, rfl⟩
  case round =>
    obtain ⟨k, hk, rfl, hsp, rfl⟩ := hrel
    have HS := Lib.hid hsp
    clear hsp
    by_cases hlt : k < s.size
    · have i0 : (0 : Int) ≤ (k : Int) := by omega
      have i1 : (k : Int) < (s.size : Int) := by omega
      obtain ⟨c, hc⟩ : ∃ c, s[k].toNat = c := ⟨_, rfl⟩
      have HC : Hid ((bl s)[k]? = some c) := Lib.hid (by rw [bl_get hlt, hc])
      cases hp : digB c
      · have HP := Lib.hid hp
        have hres : Hid ((k : Int) = (spn digB (bl s) a : Nat)) := Lib.hid (by rw [← HS.out, spn_stop HC.out hp])
        clear hp
        go_wp2_with (go_at_call 28; with_reducible refine (isDigit_any c _).mono ?_; rintro e w1 ⟨rfl, rfl⟩; rw [HP.out])
        go_ret
        exact ⟨ret_int hres.out, rfl⟩
      · have HP := Lib.hid hp
        have HN : Hid (spn digB (bl s) (k + 1) = spn digB (bl s) a) := Lib.hid (by rw [← HS.out, spn_on HC.out hp])
        clear hp
        go_wp2_with (go_at_call 28; with_reducible refine (isDigit_any c _).mono ?_; rintro e w1 ⟨rfl, rfl⟩; rw [HP.out])
        go_roundw
        case rel => exact ⟨k + 1, by omega, by go_num, HN.out, by simp⟩
        case measure => simp [intOf] <;> omega
    · have hres : Hid ((k : Int) = (spn digB (bl s) a : Nat)) := Lib.hid (by rw [← HS.out, spn_end (by have := HL.out; omega)])
      go_wp2_with fail
      all_goals (try (exfalso; omega))
      go_ret
      exact ⟨ret_int hres.out, rfl⟩
set_option maxHeartbeats 1000000 in
theorem span_nl (s : ByteArray) (a : Nat) (w : World) (hs : s.size ≤ 20000) (ha : a ≤ s.size) :
    Calls Try.prog 20 #[.string s, .int .i64 a, .func (.func 18) #[] #[]] w fun e w' => e = .returned (.int .i64 (spn nlB (bl s) a : Nat)) ∧ w = w' := by
  have HL := Lib.hid (bl_len s)
  go_enter Try.func20, Try.ntmps20
  go_wp2_with fail
  go_loopw [7] (fun i wr => ∃ k : Nat, k ≤ s.size ∧ i = .int .i64 k ∧ spn nlB (bl s) k = spn nlB (bl s) a ∧ w = wr) (fun i _ => s.size - (intOf i).toNat)
  case atStart => exact ⟨a, ha, rfl, rfl, rfl⟩
  case round =>
    obtain ⟨k, hk, rfl, hsp, rfl⟩ := hrel
    have HS := Lib.hid hsp
    clear hsp
    by_cases hlt : k < s.size
    · have i0 : (0 : Int) ≤ (k : Int) := by omega
      have i1 : (k : Int) < (s.size : Int) := by omega
      obtain ⟨c, hc⟩ : ∃ c, s[k].toNat = c := ⟨_, rfl⟩
      have HC : Hid ((bl s)[k]? = some c) := Lib.hid (by rw [bl_get hlt, hc])
      cases hp : nlB c
      · have HP := Lib.hid hp
        have hres : Hid ((k : Int) = (spn nlB (bl s) a : Nat)) := Lib.hid (by rw [← HS.out, spn_stop HC.out hp])
        clear hp
        go_wp2_with (go_at_call 18; with_reducible refine (notNl_any c _).mono ?_; rintro e w1 ⟨rfl, rfl⟩; rw [HP.out])
        go_ret
        exact ⟨ret_int hres.out, rfl⟩
      · have HP := Lib.hid hp
        have HN : Hid (spn nlB (bl s) (k + 1) = spn nlB (bl s) a) := Lib.hid (by rw [← HS.out, spn_on HC.out hp])
        clear hp
        go_wp2_with (go_at_call 18; with_reducible refine (notNl_any c _).mono ?_; rintro e w1 ⟨rfl, rfl⟩; rw [HP.out])
        go_roundw
        case rel => exact ⟨k + 1, by omega, by go_num, HN.out, by simp⟩
        case measure => simp [intOf] <;> omega
    · have hres : Hid ((k : Int) = (spn nlB (bl s) a : Nat)) := Lib.hid (by rw [← HS.out, spn_end (by have := HL.out; omega)])
      go_wp2_with fail
      all_goals (try (exfalso; omega))
      go_ret
      exact ⟨ret_int hres.out, rfl⟩
end Go.Proofs.Ytkmjflkodckflaa
