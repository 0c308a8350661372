/-
  THE WALKS over the reference: Gap, End, Token.
-/
import Derived.Test.YtkmjflkodckflaaLex
namespace Go.Proofs.Ytkmjflkodckflaa
open Go.RowKit
set_option linter.unusedVariables false
set_option linter.unusedSimpArgs false
attribute [local go_sem ↓] Go.wp_at_zero Go.wp_at_succ

/-- the offset behind the gap at an offset -/
def gapE (l : List Nat) (a : Nat) : Nat := a + gapN false (l.drop a)
theorem gapN_le (b : Bool) (r : List Nat) : gapN b r ≤ r.length := by
  induction r generalizing b with
  | nil => cases b <;> simp [gapN]
  | cons c t ih =>
    have h1 := ih true
    have h2 := ih false
    cases b <;> simp only [gapN, List.length_cons] <;> split <;> (try split) <;> omega
theorem gapE_le {l : List Nat} {a : Nat} (h : a ≤ l.length) : gapE l a ≤ l.length := by
  have := gapN_le false (l.drop a)
  simp only [gapE, List.length_drop] at *
  omega
theorem nb {c n : Nat} (h : c ≠ n) : ((c : Int) == (n : Int)) = false ∧ ((c : Int) != (n : Int)) = true := by
  have : ¬ (c : Int) = (n : Int) := by omega
  simp [this]
set_option maxRecDepth 100000 in
set_option maxHeartbeats 4000000 in
theorem rgap_any (s : ByteArray) (a : Nat) (w : World) (hs : s.size ≤ 20000) (ha : a ≤ s.size) :
    Calls Try.prog 14 #[.string s, .int .i64 a] w fun e w' => e = .returned (.int .i64 (gapE (bl s) a : Nat)) ∧ w = w' := by
  have HL := Lib.hid (bl_len s)
  go_enter Try.func14, Try.ntmps14
  go_wp2_with fail
  go_loopw [1, 5] (fun i q wr => ∃ (k : Nat) (bb : Bool), k ≤ s.size ∧ i = .int .i64 k ∧ q = .bool bb ∧ k + gapN bb ((bl s).drop k) = gapE (bl s) a ∧ w = wr) (fun i _ _ => s.size - (intOf i).toNat)
  case atStart => exact ⟨a, false, ha, rfl, rfl, rfl, rfl⟩
  case round =>
    obtain ⟨k, bb, hk, rfl, rfl, hg, rfl⟩ := hrel
    have HG := Lib.hid hg
    clear hg
    by_cases hlt : k < s.size
    · have i0 : (0 : Int) ≤ (k : Int) := by omega
      have i1 : (k : Int) < (s.size : Int) := by omega
      obtain ⟨c, hc⟩ : ∃ c, s[k].toNat = c := ⟨_, rfl⟩
      have HC : Hid ((bl s)[k]? = some c) := Lib.hid (by rw [bl_get hlt, hc])
      have HD := Lib.hid (drop_cons HC.out)
      cases bb
      rotate_left
      · skip
        by_cases h10 : c = 10
        · subst h10
          have HN : Hid (k + 1 + gapN false ((bl s).drop (k + 1)) = gapE (bl s) a) := Lib.hid (by rw [← HG.out, HD.out]; simp [gapN, gapB]; omega)
          go_wp2_with fail
          all_goals (try (exfalso; omega))
          go_roundw
          case rel => exact ⟨k + 1, false, by omega, by go_num, rfl, HN.out, by simp⟩
          case measure => simp [intOf] <;> omega
        by_cases h35 : c = 35
        · subst h35
          have HN : Hid (k + 1 + gapN true ((bl s).drop (k + 1)) = gapE (bl s) a) := Lib.hid (by rw [← HG.out, HD.out]; simp [gapN, gapB]; omega)
          go_wp2_with fail
          all_goals (try (exfalso; omega))
          go_roundw
          case rel => exact ⟨k + 1, true, by omega, by go_num, rfl, HN.out, by simp⟩
          case measure => simp [intOf] <;> omega
        by_cases h32 : c = 32
        · subst h32
          have HN : Hid (k + 1 + gapN true ((bl s).drop (k + 1)) = gapE (bl s) a) := Lib.hid (by rw [← HG.out, HD.out]; simp [gapN, gapB]; omega)
          go_wp2_with fail
          all_goals (try (exfalso; omega))
          go_roundw
          case rel => exact ⟨k + 1, true, by omega, by go_num, rfl, HN.out, by simp⟩
          case measure => simp [intOf] <;> omega
        by_cases h9 : c = 9
        · subst h9
          have HN : Hid (k + 1 + gapN true ((bl s).drop (k + 1)) = gapE (bl s) a) := Lib.hid (by rw [← HG.out, HD.out]; simp [gapN, gapB]; omega)
          go_wp2_with fail
          all_goals (try (exfalso; omega))
          go_roundw
          case rel => exact ⟨k + 1, true, by omega, by go_num, rfl, HN.out, by simp⟩
          case measure => simp [intOf] <;> omega
        have n10 : ((c : Int) == 10) = false := by simp; omega
        have n35 : ((c : Int) == 35) = false := by simp; omega
        have HN : Hid (k + 1 + gapN true ((bl s).drop (k + 1)) = gapE (bl s) a) := Lib.hid (by rw [← HG.out, HD.out]; simp [gapN, h10]; omega)
        clear h10 h35 h32 h9
        go_wp2_with fail
        all_goals (try (exfalso; omega))
        go_roundw
        case rel => exact ⟨k + 1, true, by omega, by go_num, rfl, HN.out, by simp⟩
        case measure => simp [intOf] <;> omega
      · skip
        by_cases h10 : c = 10
        · subst h10
          have HN : Hid (k + 1 + gapN false ((bl s).drop (k + 1)) = gapE (bl s) a) := Lib.hid (by rw [← HG.out, HD.out]; simp [gapN, gapB]; omega)
          go_wp2_with fail
          all_goals (try (exfalso; omega))
          go_roundw
          case rel => exact ⟨k + 1, false, by omega, by go_num, rfl, HN.out, by simp⟩
          case measure => simp [intOf] <;> omega
        by_cases h35 : c = 35
        · subst h35
          have HN : Hid (k + 1 + gapN true ((bl s).drop (k + 1)) = gapE (bl s) a) := Lib.hid (by rw [← HG.out, HD.out]; simp [gapN, gapB]; omega)
          go_wp2_with fail
          all_goals (try (exfalso; omega))
          go_roundw
          case rel => exact ⟨k + 1, true, by omega, by go_num, rfl, HN.out, by simp⟩
          case measure => simp [intOf] <;> omega
        by_cases h32 : c = 32
        · subst h32
          have HN : Hid (k + 1 + gapN false ((bl s).drop (k + 1)) = gapE (bl s) a) := Lib.hid (by rw [← HG.out, HD.out]; simp [gapN, gapB]; omega)
          go_wp2_with fail
          all_goals (try (exfalso; omega))
          go_roundw
          case rel => exact ⟨k + 1, false, by omega, by go_num, rfl, HN.out, by simp⟩
          case measure => simp [intOf] <;> omega
        by_cases h9 : c = 9
        · subst h9
          have HN : Hid (k + 1 + gapN false ((bl s).drop (k + 1)) = gapE (bl s) a) := Lib.hid (by rw [← HG.out, HD.out]; simp [gapN, gapB]; omega)
          go_wp2_with fail
          all_goals (try (exfalso; omega))
          go_roundw
          case rel => exact ⟨k + 1, false, by omega, by go_num, rfl, HN.out, by simp⟩
          case measure => simp [intOf] <;> omega
        have a10 : ((c : Int) == 10) = false := by simp; omega
        have b10 : ((c : Int) != 10) = true := by simp; omega
        have a35 : ((c : Int) == 35) = false := by simp; omega
        have b35 : ((c : Int) != 35) = true := by simp; omega
        have a32 : ((c : Int) == 32) = false := by simp; omega
        have b32 : ((c : Int) != 32) = true := by simp; omega
        have a9 : ((c : Int) == 9) = false := by simp; omega
        have b9 : ((c : Int) != 9) = true := by simp; omega
        have hres : Hid ((k : Int) = (gapE (bl s) a : Nat)) := Lib.hid (by rw [← HG.out, HD.out]; simp [gapN, gapB, h10, h35, h32, h9])
        clear h10 h35 h32 h9
        go_wp2_with fail
        go_ret
        exact ⟨ret_int hres.out, rfl⟩
    · have hres : Hid ((k : Int) = (gapE (bl s) a : Nat)) := Lib.hid (by rw [← HG.out, List.drop_eq_nil_of_le (by have := HL.out; omega)]; cases bb <;> simp [gapN])
      go_wp2_with fail
      all_goals (try (exfalso; omega))
      go_ret
      exact ⟨ret_int hres.out, rfl⟩
set_option maxRecDepth 100000 in
set_option maxHeartbeats 4000000 in
theorem rend_any (s : ByteArray) (a c : Nat) (w : World) (hs : s.size ≤ 20000) (hc0 : (bl s)[a]? = some c) :
    Calls Try.prog 16 #[.string s, .int .i64 a] w fun e w' => e = .returned (.int .i64 ((a + (tok1 ((bl s).drop a)).2.1 : Nat) : Int)) ∧ w = w' := by
  have HL := Lib.hid (bl_len s)
  have ha : a < s.size := by have := (List.getElem?_eq_some_iff.1 hc0).1; have := bl_len s; omega
  have hc : s[a].toNat = c := by have q := bl_get ha; rw [hc0] at q; exact (Option.some.inj q).symm
  have hdc := drop_cons hc0
  have HC := Lib.hid hc0
  have j0 : (0 : Int) ≤ (a : Int) := by omega
  have j1 : (a : Int) < (s.size : Int) := by omega
  have j2 : ¬ (s.size : Int) ≤ (a : Int) := by omega
  clear hc0
  cases hp : punB c
  · have p59 : c ≠ 59 := fun e => by subst e; cases hp
    have p123 : c ≠ 123 := fun e => by subst e; cases hp
    have p125 : c ≠ 125 := fun e => by subst e; cases hp
    have q59 : ((c : Int) == 59) = false := by simp; omega
    have q123 : ((c : Int) == 123) = false := by simp; omega
    have q125 : ((c : Int) == 125) = false := by simp; omega
    clear p59 p123 p125
    cases hl : lowB c
    · cases hd : digB c
      · have hres : Hid ((a : Int) = ((a + (tok1 ((bl s).drop a)).2.1 : Nat) : Int)) := Lib.hid (by rw [hdc]; simp [tok1, hl, hd, hp])
        have HLE := Lib.hid hl
        have HDI := Lib.hid hd
        clear hl hd hp hdc
        go_enter Try.func16, Try.ntmps16
        go_wp2_with (first
          | (go_at_call 25; with_reducible refine (letter_any c _).mono ?_; rintro e w1 ⟨rfl, hw1⟩; obtain rfl := hw1.symm; rw [HLE.out])
          | (go_at_call 26; with_reducible refine (digit_any c _).mono ?_; rintro e w1 ⟨rfl, hw1⟩; obtain rfl := hw1.symm; rw [HDI.out]))
        all_goals (try (exfalso; omega))
        go_ret
        exact ⟨ret_int hres.out, rfl⟩
      · have HR : Hid (a + (tok1 ((bl s).drop a)).2.1 = spn digB (bl s) a) := Lib.hid (by
          unfold spn
          rw [hdc]
          simp only [tok1, hl, hd, Bool.false_eq_true, if_false, if_true]
          split <;> rfl)
        have HLE := Lib.hid hl
        have HDI := Lib.hid hd
        clear hl hd hp hdc
        go_enter Try.func16, Try.ntmps16
        go_wp2_with (first
          | (go_at_call 25; with_reducible refine (letter_any c _).mono ?_; rintro e w1 ⟨rfl, hw1⟩; obtain rfl := hw1.symm; rw [HLE.out])
          | (go_at_call 26; with_reducible refine (digit_any c _).mono ?_; rintro e w1 ⟨rfl, hw1⟩; obtain rfl := hw1.symm; rw [HDI.out]))
        all_goals (try (exfalso; omega))
        go_loopw [6] (fun i wr => ∃ k : Nat, k ≤ s.size ∧ i = .int .i64 k ∧ spn digB (bl s) k = spn digB (bl s) a ∧ w = wr) (fun i _ => s.size - (intOf i).toNat)
        case atStart => exact ⟨a, by omega, rfl, rfl, rfl⟩
        case round =>
          obtain ⟨k, hk, rfl, hsp, rfl⟩ := hrel
          have HS := Lib.hid hsp
          clear hsp
          by_cases hlt : k < s.size
          · have i0 : (0 : Int) ≤ (k : Int) := by omega
            have i1 : (k : Int) < (s.size : Int) := by omega
            obtain ⟨c2, hc2⟩ : ∃ c, s[k].toNat = c := ⟨_, rfl⟩
            have HC2 : Hid ((bl s)[k]? = some c2) := Lib.hid (by rw [bl_get hlt, hc2])
            cases hd2 : digB c2
            · have hres : Hid ((k : Int) = ((a + (tok1 ((bl s).drop a)).2.1 : Nat) : Int)) := Lib.hid (by rw [HR.out, ← HS.out, spn_stop HC2.out hd2])
              have HDI2 := Lib.hid hd2
              clear hd2
              go_wp2_with (first
                | (go_at_call 26; with_reducible refine (digit_any c2 _).mono ?_; rintro e w1 ⟨rfl, rfl⟩; rw [HDI2.out]))
              go_ret
              exact ⟨ret_int hres.out, rfl⟩
            · have HN : Hid (spn digB (bl s) (k + 1) = spn digB (bl s) a) := Lib.hid (by rw [← HS.out, spn_on HC2.out hd2])
              have HDI2 := Lib.hid hd2
              clear hd2
              go_wp2_with (first
                | (go_at_call 26; with_reducible refine (digit_any c2 _).mono ?_; rintro e w1 ⟨rfl, rfl⟩; rw [HDI2.out]))
              go_roundw
              case rel => exact ⟨k + 1, by omega, by go_num, HN.out, by simp⟩
              case measure => simp [intOf] <;> omega
          · have hres : Hid ((k : Int) = ((a + (tok1 ((bl s).drop a)).2.1 : Nat) : Int)) := Lib.hid (by rw [HR.out, ← HS.out, spn_end (by have := HL.out; omega)])
            go_wp2_with fail
            all_goals (try (exfalso; omega))
            go_ret
            exact ⟨ret_int hres.out, rfl⟩
    · have HR : Hid (a + (tok1 ((bl s).drop a)).2.1 = spn namB (bl s) a) := Lib.hid (by
        unfold spn
        rw [hdc]
        simp only [tok1, hl, if_true]
        split <;> rfl)
      have HLE := Lib.hid hl
      clear hl hp hdc
      go_enter Try.func16, Try.ntmps16
      go_wp2_with (first
        | (go_at_call 25; with_reducible refine (letter_any c _).mono ?_; rintro e w1 ⟨rfl, hw1⟩; obtain rfl := hw1.symm; rw [HLE.out]))
      all_goals (try (exfalso; omega))
      go_loopw [6] (fun i wr => ∃ k : Nat, k ≤ s.size ∧ i = .int .i64 k ∧ spn namB (bl s) k = spn namB (bl s) a ∧ w = wr) (fun i _ => s.size - (intOf i).toNat)
      case atStart => exact ⟨a, by omega, rfl, rfl, rfl⟩
      case round =>
        obtain ⟨k, hk, rfl, hsp, rfl⟩ := hrel
        have HS := Lib.hid hsp
        clear hsp
        by_cases hlt : k < s.size
        · have i0 : (0 : Int) ≤ (k : Int) := by omega
          have i1 : (k : Int) < (s.size : Int) := by omega
          obtain ⟨c2, hc2⟩ : ∃ c, s[k].toNat = c := ⟨_, rfl⟩
          have HC2 : Hid ((bl s)[k]? = some c2) := Lib.hid (by rw [bl_get hlt, hc2])
          cases hl2 : lowB c2
          · cases hd2 : digB c2
            · by_cases h95 : c2 = 95
              · subst h95
                have HN : Hid (spn namB (bl s) (k + 1) = spn namB (bl s) a) := Lib.hid (by rw [← HS.out, spn_on HC2.out (by decide)])
                have HLE2 := Lib.hid hl2
                have HDI2 := Lib.hid hd2
                clear hl2 hd2
                go_wp2_with (first
                  | (go_at_call 25; refine (letter_any 95 _).mono ?_; rintro e w1 ⟨rfl, rfl⟩; rw [HLE2.out])
                  | (go_at_call 26; refine (digit_any 95 _).mono ?_; rintro e w1 ⟨rfl, rfl⟩; rw [HDI2.out]))
                go_roundw
                case rel => exact ⟨k + 1, by omega, by go_num, HN.out, by simp⟩
                case measure => simp [intOf] <;> omega
              · have n95 : ((c2 : Int) == 95) = false := by simp; omega
                have hres : Hid ((k : Int) = ((a + (tok1 ((bl s).drop a)).2.1 : Nat) : Int)) := Lib.hid (by rw [HR.out, ← HS.out, spn_stop HC2.out (by simp [namB, hl2, hd2, h95])])
                have HLE2 := Lib.hid hl2
                have HDI2 := Lib.hid hd2
                clear hl2 hd2 h95
                go_wp2_with (first
                  | (go_at_call 25; with_reducible refine (letter_any c2 _).mono ?_; rintro e w1 ⟨rfl, rfl⟩; rw [HLE2.out])
                  | (go_at_call 26; with_reducible refine (digit_any c2 _).mono ?_; rintro e w1 ⟨rfl, rfl⟩; rw [HDI2.out]))
                go_ret
                exact ⟨ret_int hres.out, rfl⟩
            · have HN : Hid (spn namB (bl s) (k + 1) = spn namB (bl s) a) := Lib.hid (by rw [← HS.out, spn_on HC2.out (by simp [namB, hd2])])
              have HLE2 := Lib.hid hl2
              have HDI2 := Lib.hid hd2
              clear hl2 hd2
              go_wp2_with (first
                | (go_at_call 25; with_reducible refine (letter_any c2 _).mono ?_; rintro e w1 ⟨rfl, rfl⟩; rw [HLE2.out])
                | (go_at_call 26; with_reducible refine (digit_any c2 _).mono ?_; rintro e w1 ⟨rfl, rfl⟩; rw [HDI2.out]))
              go_roundw
              case rel => exact ⟨k + 1, by omega, by go_num, HN.out, by simp⟩
              case measure => simp [intOf] <;> omega
          · have HN : Hid (spn namB (bl s) (k + 1) = spn namB (bl s) a) := Lib.hid (by rw [← HS.out, spn_on HC2.out (by simp [namB, hl2])])
            have HLE2 := Lib.hid hl2
            clear hl2
            go_wp2_with (first
              | (go_at_call 25; with_reducible refine (letter_any c2 _).mono ?_; rintro e w1 ⟨rfl, rfl⟩; rw [HLE2.out]))
            go_roundw
            case rel => exact ⟨k + 1, by omega, by go_num, HN.out, by simp⟩
            case measure => simp [intOf] <;> omega
        · have hres : Hid ((k : Int) = ((a + (tok1 ((bl s).drop a)).2.1 : Nat) : Int)) := Lib.hid (by rw [HR.out, ← HS.out, spn_end (by have := HL.out; omega)])
          go_wp2_with fail
          all_goals (try (exfalso; omega))
          go_ret
          exact ⟨ret_int hres.out, rfl⟩
  · have h3 : c = 59 ∨ c = 123 ∨ c = 125 := by simpa [punB] using hp
    have hres : Hid ((a : Int) + 1 = ((a + (tok1 ((bl s).drop a)).2.1 : Nat) : Int)) := Lib.hid (by
      rw [hdc]
      rcases h3 with rfl | rfl | rfl
      · simp [tok1, lowB, digB, punB]
      · simp [tok1, lowB, digB, punB]
      · simp [tok1, lowB, digB, punB])
    clear hdc HC hp
    rcases h3 with rfl | rfl | rfl
    all_goals
      go_enter Try.func16, Try.ntmps16
      go_wp2_with fail
      all_goals (try (exfalso; omega))
      go_ret
      exact ⟨ret_int hres.out, rfl⟩
end Go.Proofs.Ytkmjflkodckflaa
