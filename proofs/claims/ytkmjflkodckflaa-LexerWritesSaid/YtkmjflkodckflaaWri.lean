/-
  THE LAW LexerWrites, walked.
-/
import Derived.Test.YtkmjflkodckflaaCov
namespace Go.Proofs.Ytkmjflkodckflaa
open Go.RowKit
set_option linter.unusedVariables false
set_option linter.unusedSimpArgs false
attribute [local go_sem ↓] Go.wp_at_zero Go.wp_at_succ

set_option maxRecDepth 100000 in
set_option maxHeartbeats 4000000 in
theorem wri_no (s : ByteArray) (w : World) (h1 : 8000 < s.size) (hs : s.size ≤ 9223372036854775807) :
    Calls Try.prog 7 #[.string s] w fun e w' => e = .returned (.bool true) ∧ Below w.heap.size w w' := by
  have e1 : decide ((8000 : Int) < (s.size : Int)) = true := decide_eq_true (by omega)
  go_enter Try.func7, Try.ntmps7
  go_wp2_with (first | (go_at_call 9; with_reducible refine (head_any _).mono ?_; rintro e w1 ⟨rfl, h1⟩))
  all_goals (try (exfalso; omega))
  go_ret
  exact ⟨rfl, h1⟩
set_option maxRecDepth 100000 in
set_option maxHeartbeats 4000000 in
theorem wri_err (s : ByteArray) (w : World) (hs : s.size ≤ 8000) (er : Int) (p : Nat) (hr : lexS (bl s) = .err er p) :
    Calls Try.prog 7 #[.string s] w fun e w' => e = .returned (.bool true) ∧ Below w.heap.size w w' := by
  have e1 : decide ((8000 : Int) < (s.size : Int)) = false := decide_eq_false (by omega)
  have hz : (er != 0) = true := by simpa using lexS_ne hr
  have HE := Lib.hid (fun W => lex_e s er p W (by omega) hr)
  clear hr
  go_enter Try.func7, Try.ntmps7
  go_wp2_with (first
    | (go_at_call 9; with_reducible refine (head_any _).mono ?_; rintro e w1 ⟨rfl, h1⟩)
    | (go_at_call 10; with_reducible refine (HE.out _).mono ?_; rintro e w2 ⟨rfl, h2⟩
       have H2 := Lib.hid (bel_step h1 h2)))
  all_goals (try (exfalso; omega))
  go_ret
  exact ⟨rfl, H2.out⟩
theorem wr_app (a b : List Tok) : wrT (a ++ b) = wrT a ++ wrT b := by
  induction a with
  | nil => rfl
  | cons t a ih => simp [wrT, ih]
theorem cov_len {L : List Nat} : ∀ {ts : List Tok} {a : Nat}, Cov L a ts → (wrT ts).length + a ≤ L.length + ts.length := by
  intro ts
  induction ts with
  | nil => intro a h; simpa [wrT] using h.1
  | cons t ts ih =>
    intro a h
    obtain ⟨_, _, _, h4, _, _, _, h8⟩ := h
    have := ih h8
    simp only [wrT, List.length_append, List.length_cons, List.length_nil]
    omega
theorem cov_num {L : List Nat} : ∀ {ts : List Tok} {a : Nat}, Cov L a ts → ∀ t ∈ ts, 0 ≤ t.2.2.1 ∧ t.2.2.1 ≤ 1000000 := by
  intro ts
  induction ts with
  | nil => intro a h t ht; simp at ht
  | cons u ts ih =>
    intro a h t ht
    obtain ⟨_, _, _, _, _, _, h7, h8⟩ := h
    rcases List.mem_cons.1 ht with rfl | ht
    · exact h7
    · exact ih h8 t ht
theorem cov_lt {s : ByteArray} : ∀ {ts : List Tok} {a : Nat}, Cov (bl s) a ts → ∀ c ∈ wrT ts, c < 256 := by
  intro ts
  induction ts with
  | nil => intro a h c hc; simp [wrT] at hc
  | cons u ts ih =>
    intro a h c hc
    obtain ⟨_, _, _, _, _, h6, _, h8⟩ := h
    simp only [wrT, List.mem_append, List.mem_cons, List.not_mem_nil, or_false] at hc
    rcases hc with (hc | rfl) | hc
    · rw [← h6] at hc
      exact bl_lt c (List.mem_of_mem_drop (List.mem_of_mem_take hc))
    · omega
    · exact ih h8 c hc
theorem take_atK {ts : List Tok} {k : Nat} (h : k < ts.length) : ts.take (k + 1) = ts.take k ++ [atK ts k] := by
  rw [List.take_succ_eq_append_getElem h]
  have := atK_get h
  rw [List.getElem?_eq_getElem h] at this
  injection this with this
  rw [this]
/-- the text of the first k tokens -/
def WriR (ts : List Tok) (n : Nat) (w : World) (i t : Value) (wrT' : World) : Prop := ∃ k : Nat, k ≤ n ∧ i = .int .i64 k ∧ t = .string (ba (wrT (ts.take k))) ∧ Below w.heap.size w wrT'
set_option maxRecDepth 100000 in
set_option maxHeartbeats 4000000 in
theorem wri_ok (s : ByteArray) (w : World) (hs : s.size ≤ 8000) (ts : List Tok) (hl : lexS (bl s) = .ok ts) :
    Calls Try.prog 7 #[.string s] w fun e w' => e = .returned (.bool true) ∧ Below w.heap.size w w' := by
  have e1 : decide ((8000 : Int) < (s.size : Int)) = false := decide_eq_false (by omega)
  have hcov := lexS_cov hl
  have hwr := lexS_wr hl
  have hcl := cov_len hcov
  have hcn := cov_num hcov
  have HLT := Lib.hid (cov_lt hcov)
  rw [bl_len] at hcl
  obtain ⟨h8, _, hlen, hoff⟩ := lexS_bd hl
  obtain ⟨n, hn⟩ : ∃ n, ts.length = n := ⟨_, rfl⟩
  have hlo := fun W => lex_o s ts W (by omega) hl
  rw [hn] at hlo hlen hcl
  have HLO := Lib.hid hlo
  have HN := Lib.hid hn
  have HC := Lib.hid hcn
  have HWR := Lib.hid hwr
  have HCL : Hid ((wrT ts).length ≤ 10000) := Lib.hid (by omega)
  clear hl hlo hn hcov h8 hoff hwr hcl hcn
  go_enter Try.func7, Try.ntmps7
  go_wp2_with (first
    | (go_at_call 9; with_reducible refine (head_any _).mono ?_; rintro e w1 ⟨rfl, h1⟩)
    | (go_at_call 10; with_reducible refine (HLO.out _).mono ?_; rintro e w2 ⟨A2, c2, rfl, ⟨r2, _, k2⟩, h2⟩
       have H2 := Lib.hid (bel_step h1 h2)
       have R2 := Lib.hid r2
       clear r2))
  all_goals (try (exfalso; omega))
  go_loopw [29, 7] (fun i t wr => WriR ts n w2 i t wr) (fun i _ _ => n - (intOf i).toNat)
  case atStart => exact ⟨0, Nat.zero_le _, rfl, by rfl, Below.refl _ _⟩
  case round =>
    obtain ⟨k, hk, rfl, rfl, hwr⟩ := hrel
    have HW := Lib.hid hwr
    by_cases hlt : k < n
    · obtain ⟨b, o, rfl, hb, x0, x1, x2, x3⟩ := (R2.out.keep hwr).k (i := k) (by have := HN.out; omega)
      have hd : ts.take (k + 1) = ts.take k ++ [atK ts k] := take_atK (by have := HN.out; omega)
      have hsz : (wrT (ts.take (k + 1))).length ≤ 10000 := by
        have h1 := HCL.out
        have h2 : wrT ts = wrT (ts.take (k + 1)) ++ wrT (ts.drop (k + 1)) := by rw [← wr_app, List.take_append_drop]
        rw [h2, List.length_append] at h1
        omega
      have hnum := HC.out (atK ts k) (List.mem_of_getElem? (atK_get (by have := HN.out; omega)))
      generalize atK ts k = t at *
      obtain ⟨K1, t1, n1, p⟩ := t
      rw [hd, wr_app, show wrT [(K1, t1, n1, p)] = txt (K1, t1, n1, p) ++ [32] from by simp [wrT], List.length_append, List.length_append, List.length_cons, List.length_nil, ← ba_size, ← ba_size] at hsz
      have hg : ba (wrT (ts.take k)) ++ (ba (txt (K1, t1, n1, p)) ++ ⟨#[32]⟩) = ba (wrT (ts.take (k + 1))) := by
        rw [hd, wr_app, show wrT [(K1, t1, n1, p)] = txt (K1, t1, n1, p) ++ [32] from by simp [wrT], show (⟨#[32]⟩ : ByteArray) = ba [32] from rfl, ba_app, ba_app]
      simp only [] at hnum x0 x1 x2 x3
      obtain ⟨N1, rfl⟩ : ∃ N1 : Nat, n1 = N1 := ⟨n1.toNat, by omega⟩
      have HT := Lib.hid (fun W => text_any K1 t1 N1 p W (by omega))
      have HG := Lib.hid hg
      clear hg hd
      generalize ba (txt (K1, t1, (N1 : Int), p)) = T at *
      obtain ⟨U', hU⟩ : ∃ U', ba (wrT (ts.take (k + 1))) = U' := ⟨_, rfl⟩
      have HU := Lib.hid hU
      rw [hU] at HG
      clear hU
      generalize ba (wrT (ts.take k)) = U at *
      have i0 : (0 : Int) ≤ (k : Int) := by omega
      have i1 : (k : Int) < (n : Int) := by omega
      have lt1 : ¬ 9223372036854775807 < T.size + 1 := by omega
      have lt2 : ¬ 9223372036854775807 < U.size + (T.size + 1) := by omega
      go_wp2_with (first
        | (go_at_call 13; with_reducible refine (HT.out _).mono ?_; rintro e w3 ⟨rfl, h3⟩
           have H3 := Lib.hid (bel_step (bel_alloc HW.out _) h3)))
      all_goals (try (exfalso; omega))
      go_roundw
      case rel => exact ⟨k + 1, by omega, by go_num, by rw [HG.out, HU.out], H3.out⟩
      case measure => simp [intOf] <;> omega
    · obtain rfl : k = n := by omega
      have ht : ts.take k = ts := List.take_of_length_le (by have := HN.out; omega)
      have hw1 := HWR.out
      have hcl := HCL.out
      have hb : bl (ba (wrT ts)) = wrT ts := bl_ba HLT.out
      have hz := ba_size (wrT ts)
      rw [ht]
      obtain ⟨U, hU⟩ : ∃ U, ba (wrT ts) = U := ⟨_, rfl⟩
      rw [hU] at hb hz ⊢
      rw [← hz, ← hb] at hw1
      rw [← hz] at hcl
      clear ht hb hz hU
      by_cases h8 : U.size ≤ 8000
      · obtain ⟨us, h1, h2⟩ := hw1.1 h8
        have e5 : decide ((8000 : Int) < (U.size : Int)) = false := decide_eq_false (by omega)
        have hul : us.length = k := by have := h2.1; have := HN.out; omega
        have hlo := fun W => lex_o U us W (by omega) h1
        rw [hul] at hlo
        have HLO2 := Lib.hid hlo
        have HAL := Lib.hid h2
        have HUL := Lib.hid hul
        clear hw1 h1 h2 hlo hul
        go_wp2_with (first
          | (go_at_call 10; with_reducible refine (HLO2.out _).mono ?_; rintro e w4 ⟨A4, c4, rfl, ⟨r4, _, k4⟩, h4⟩
             have RA := Lib.hid ((R2.out.keep HW.out).keep h4)
             have RB := Lib.hid r4
             have H4 := Lib.hid (bel_step (bel_step H2.out HW.out) h4)
             clear r4 h4)
          | (go_at_call 15; with_reducible refine (alike_k A2 A4 k k c2 c4 ts us _ (by omega) HN.out HUL.out RA.out RB.out HAL.out).mono ?_; rintro e w5 ⟨rfl, h5⟩
             have H5 := Lib.hid (bel_step H4.out h5)))
        all_goals (try (exfalso; omega))
        go_ret
        exact ⟨rfl, H5.out⟩
      · have h1 := hw1.2 (by omega)
        have e5 : decide ((8000 : Int) < (U.size : Int)) = true := decide_eq_true (by omega)
        have HLE := Lib.hid (fun W => lex_e U 2 0 W (by omega) h1)
        clear hw1 h1
        go_wp2_with (first
          | (go_at_call 10; with_reducible refine (HLE.out _).mono ?_; rintro e w4 ⟨rfl, h4⟩
             have H4 := Lib.hid (bel_step (bel_step H2.out HW.out) h4)
             clear h4))
        all_goals (try (exfalso; omega))
        go_ret
        exact ⟨rfl, H4.out⟩
theorem wri_all (s : ByteArray) (w : World) (hs : s.size ≤ 9223372036854775807) :
    Calls Try.prog 7 #[.string s] w fun e w' => e = .returned (.bool true) ∧ Below w.heap.size w w' := by
  by_cases h1 : 8000 < s.size
  · exact wri_no s w h1 hs
  · cases hl : lexS (bl s) with
    | err er p => exact wri_err s w (by omega) er p hl
    | ok l => exact wri_ok s w (by omega) l hl
end Go.Proofs.Ytkmjflkodckflaa
