/-
  THE LAW LexerCovers, walked.
-/
import Derived.Test.YtkmjflkodckflaaNum
namespace Go.Proofs.Ytkmjflkodckflaa
open Go.RowKit
set_option linter.unusedVariables false
set_option linter.unusedSimpArgs false
attribute [local go_sem ↓] Go.wp_at_zero Go.wp_at_succ

set_option maxRecDepth 100000 in
set_option maxHeartbeats 4000000 in
theorem cov_no (s : ByteArray) (w : World) (h1 : 8000 < s.size) (hs : s.size ≤ 9223372036854775807) :
    Calls Try.prog 4 #[.string s] w fun e w' => e = .returned (.bool true) ∧ Below w.heap.size w w' := by
  have e1 : decide ((8000 : Int) < (s.size : Int)) = true := decide_eq_true (by omega)
  go_enter Try.func4, Try.ntmps4
  go_wp2_with (first | (go_at_call 9; with_reducible refine (head_any _).mono ?_; rintro e w1 ⟨rfl, h1⟩))
  all_goals (try (exfalso; omega))
  go_ret
  exact ⟨rfl, h1⟩
set_option maxRecDepth 100000 in
set_option maxHeartbeats 4000000 in
theorem cov_err (s : ByteArray) (w : World) (hs : s.size ≤ 8000) (er : Int) (p : Nat) (hr : lexS (bl s) = .err er p) :
    Calls Try.prog 4 #[.string s] w fun e w' => e = .returned (.bool true) ∧ Below w.heap.size w w' := by
  have e1 : decide ((8000 : Int) < (s.size : Int)) = false := decide_eq_false (by omega)
  have hz : (er != 0) = true := by simpa using lexS_ne hr
  have HE := Lib.hid (fun W => lex_e s er p W (by omega) hr)
  clear hr
  go_enter Try.func4, Try.ntmps4
  go_wp2_with (first
    | (go_at_call 9; with_reducible refine (head_any _).mono ?_; rintro e w1 ⟨rfl, h1⟩)
    | (go_at_call 10; with_reducible refine (HE.out _).mono ?_; rintro e w2 ⟨rfl, h2⟩
       have H2 := Lib.hid (bel_step h1 h2)))
  all_goals (try (exfalso; omega))
  go_ret
  exact ⟨rfl, H2.out⟩
/-- what holds of the source at offset a, k tokens having come -/
def CovR (L : List Nat) (ts : List Tok) (n : Nat) (w : World) (i at_ : Value) (wr : World) : Prop := ∃ k a : Nat, k ≤ n ∧ i = .int .i64 k ∧ at_ = .int .i64 a ∧ Cov L a (ts.drop k) ∧ Below w.heap.size w wr
theorem rgap_same (s : ByteArray) (a : Nat) (W : World) (hs : s.size ≤ 20000) (ha : a ≤ s.size) :
    Calls Try.prog 14 #[.string s, .int .i64 a] W fun e w' => e = .returned (.int .i64 (gapE (bl s) a : Nat)) ∧ w' = W := (rgap_any s a W hs ha).mono fun _ _ h => ⟨h.1, h.2.symm⟩
theorem ne_isEmpty {T : ByteArray} (h : 0 < T.size) : T.toList.isEmpty = false := by
  rw [ByteArray.toList_eq]
  cases hx : T.data.toList with
  | nil =>
    have : T.data.toList.length = T.size := by rw [Array.length_toList]; rfl
    rw [hx] at this
    simp at this
    omega
  | cons c t => rfl
theorem drop_atK {ts : List Tok} {k : Nat} (h : k < ts.length) : ts.drop k = atK ts k :: ts.drop (k + 1) := by
  rw [List.drop_eq_getElem_cons h]
  have := atK_get h
  rw [List.getElem?_eq_getElem h] at this
  injection this with this
  rw [this]
set_option maxRecDepth 100000 in
set_option maxHeartbeats 4000000 in
theorem cov_ok (s : ByteArray) (w : World) (hs : s.size ≤ 8000) (ts : List Tok) (hl : lexS (bl s) = .ok ts) :
    Calls Try.prog 4 #[.string s] w fun e w' => e = .returned (.bool true) ∧ Below w.heap.size w w' := by
  have e1 : decide ((8000 : Int) < (s.size : Int)) = false := decide_eq_false (by omega)
  have hcov := lexS_cov hl
  obtain ⟨h8, _, hlen, hoff⟩ := lexS_bd hl
  obtain ⟨n, hn⟩ : ∃ n, ts.length = n := ⟨_, rfl⟩
  have hlo := fun W => lex_o s ts W (by omega) hl
  rw [hn] at hlo hlen
  have HLO := Lib.hid hlo
  have HN := Lib.hid hn
  have HC := Lib.hid hcov
  clear hl hlo hn hcov h8 hoff
  go_enter Try.func4, Try.ntmps4
  go_wp2_with (first
    | (go_at_call 9; with_reducible refine (head_any _).mono ?_; rintro e w1 ⟨rfl, h1⟩)
    | (go_at_call 10; with_reducible refine (HLO.out _).mono ?_; rintro e w2 ⟨A2, c2, rfl, ⟨r2, _, k2⟩, h2⟩
       have H2 := Lib.hid (bel_step h1 h2)
       have R2 := Lib.hid r2
       clear r2))
  all_goals (try (exfalso; omega))
  go_loopw [32, 7] (fun i a wr => CovR (bl s) ts n w2 i a wr) (fun i _ _ => n - (intOf i).toNat)
  case atStart => exact ⟨0, 0, Nat.zero_le _, rfl, rfl, HC.out, Below.refl _ _⟩
  case round =>
    obtain ⟨k, a, hk, rfl, rfl, hcv, hwr⟩ := hrel
    have HW := Lib.hid hwr
    by_cases hlt : k < n
    · obtain ⟨b, o, rfl, hb, x0, x1, x2, x3⟩ := (R2.out.keep hwr).k (i := k) (by have := HN.out; omega)
      have hd : ts.drop k = atK ts k :: ts.drop (k + 1) := drop_atK (by have := HN.out; omega)
      rw [hd] at hcv
      obtain ⟨z1, z2, z3, z4, z5, z6, ⟨z7, z8⟩, z9⟩ := hcv
      rw [bl_len] at z1 z5
      generalize atK ts k = t at *
      obtain ⟨K1, t1, n1, p⟩ := t
      simp only [] at z2 z3 z4 z5 z6 z7 z8 z9 x0 x1 x2 x3
      obtain ⟨N1, rfl⟩ : ∃ N1 : Nat, n1 = N1 := ⟨n1.toNat, by omega⟩
      obtain ⟨T, hT⟩ : ∃ T, ba (txt (K1, t1, (N1 : Int), p)) = T := ⟨_, rfl⟩
      obtain ⟨m, hm⟩ : ∃ m, (txt (K1, t1, (N1 : Int), p)).length = m := ⟨_, rfl⟩
      have HT := Lib.hid (fun W => text_any K1 t1 N1 p W (by omega))
      rw [hT] at HT
      have hTm : T.size = m := by rw [← hT, ba_size, hm]
      have hne : T.toList.isEmpty = false := ne_isEmpty (by rw [hTm, ← hm]; exact List.length_pos_iff.2 z3)
      have hx : s.extract p (p + m) = T := by
        refine bl_inj ?_
        rw [bl_extract, Nat.add_sub_cancel_left, ← hm, z6, ← hT]
        refine (bl_ba fun c hc => ?_).symm
        rw [← z6] at hc
        exact bl_lt c (List.mem_of_mem_drop (List.mem_of_mem_take hc))
      have HG := Lib.hid (fun W => rgap_same s a W (by omega) z1)
      rw [z2] at HG
      rw [hm] at z5 z9
      have i0 : (0 : Int) ≤ (k : Int) := by omega
      have i1 : (k : Int) < (n : Int) := by omega
      clear hm hT z3 z6 z2 hd
      go_upto_region 12 with (first
        | (go_at_call 13; with_reducible refine (HT.out _).mono ?_; rintro e w3 ⟨rfl, h3⟩))
      all_goals (try (exfalso; omega))
      obtain rfl := hTm
      have c3 : w3.cell? ⟨wr.heap.size, 3, none⟩ = some (.int .i64 (p : Int)) := old_at (by simp [go_sem]) h3
      have H3 := Lib.hid (bel_step (bel_alloc HW.out _) h3)
      clear x0 x1 x2 x3 HT HW hwr h3
      have wr3 : IntKind.i64.wrap ((p : Int) + (T.size : Int)) = (p : Int) + (T.size : Int) := IntWalk.i64_in _ (by omega)
      have q1 : (0 : Int) ≤ (p : Int) := by omega
      have q2 : (p : Int) ≤ (p : Int) + (T.size : Int) := by omega
      have q3 : (p : Int) + (T.size : Int) ≤ (s.size : Int) := by omega
      have q4 : decide (p < a) = false := decide_eq_false (by omega)
      have q5 : decide ((s.size : Int) < (p : Int) + (T.size : Int)) = false := decide_eq_false (by omega)
      have q6 : decide (s.size < p + T.size) = false := decide_eq_false (by omega)
      go_quiet ((go_at_call 14; exact Calls.quiet_of_same (HG.out _)))
      go_wp2_with fail
      have hrel : CovR (bl s) ts n w2 (Value.int IntKind.i64 (↑k + 1)) (Value.int IntKind.i64 (↑p + ↑T.size)) (w3.drewN nq) := ⟨k + 1, p + T.size, by omega, by go_num, by go_num, z9, below_drewN H3.out _⟩
      all_goals (try (exfalso; omega))
      go_roundw
      case rel => exact hrel
      case measure => simp [intOf] <;> omega
    · obtain rfl : k = n := by omega
      have ha : a ≤ s.size ∧ gapE (bl s) a = s.size := by
        rw [List.drop_of_length_le (by have := HN.out; omega)] at hcv
        exact ⟨by simpa [bl_len] using hcv.1, by simpa [bl_len] using hcv.2⟩
      have HG := Lib.hid (fun W => rgap_same s a W (by omega) ha.1)
      rw [ha.2] at HG
      clear ha hcv
      go_wp2_with (first
        | (go_at_call 14; with_reducible refine (HG.out _).mono ?_; rintro e w4 ⟨rfl, rfl⟩))
      all_goals (try (exfalso; omega))
      go_ret
      exact ⟨rfl, bel_step H2.out HW.out⟩
theorem cov_all (s : ByteArray) (w : World) (hs : s.size ≤ 9223372036854775807) :
    Calls Try.prog 4 #[.string s] w fun e w' => e = .returned (.bool true) ∧ Below w.heap.size w w' := by
  by_cases h1 : 8000 < s.size
  · exact cov_no s w h1 hs
  · cases hl : lexS (bl s) with
    | err er p => exact cov_err s w (by omega) er p hl
    | ok l => exact cov_ok s w (by omega) l hl
end Go.Proofs.Ytkmjflkodckflaa
