/-
  THE WALKS over package lexer, second part: value, token.
-/
import Derived.Test.YtkmjflkodckflaaMem
import Derived.Test.YtkmjflkodckflaaGap
namespace Go.Proofs.Ytkmjflkodckflaa
open Go.RowKit
set_option linter.unusedVariables false
set_option linter.unusedSimpArgs false
attribute [local go_sem ↓] Go.wp_at_zero Go.wp_at_succ

theorem ret_2 {a b c d : Int} (h1 : a = c) (h2 : b = d) : Ending.returned (.tuple #[.int .i64 a, .int .i64 b]) = .returned (.tuple #[.int .i64 c, .int .i64 d]) := by rw [h1, h2]
theorem u8_sub {c : Nat} (h : 48 ≤ c ∧ c ≤ 57) : IntKind.u8.wrap ((c : Int) - 48) = (c : Int) - 48 := by
  have : 0 ≤ (c : Int) - 48 ∧ (c : Int) - 48 ≤ 9 := by omega
  obtain ⟨k, hk⟩ : ∃ k : Nat, (c : Int) - 48 = k := ⟨c - 48, by omega⟩
  rw [hk]
  have hk9 : k ≤ 9 := by omega
  match k, hk9 with
  | 0, _ => rfl
  | 1, _ => rfl
  | 2, _ => rfl
  | 3, _ => rfl
  | 4, _ => rfl
  | 5, _ => rfl
  | 6, _ => rfl
  | 7, _ => rfl
  | 8, _ => rfl
  | 9, _ => rfl
set_option maxRecDepth 100000 in
set_option maxHeartbeats 2000000 in
theorem value_any (s : ByteArray) (w : World) (hs : s.size ≤ 20000) (hd : ∀ c ∈ bl s, digB c = true) :
    Calls Try.prog 31 #[.string s] w fun e w' => e = .returned (.tuple #[.int .i64 (valD (bl s)).1, .int .i64 (valD (bl s)).2]) ∧ w = w' := by
  have HL := Lib.hid (bl_len s)
  have HD := Lib.hid hd
  clear hd
  by_cases hz : 1 < s.size ∧ (bl s).head? = some 48
  · have hv : Hid (valD (bl s) = (0, 7)) := Lib.hid (by unfold valD; rw [if_pos ⟨by have := HL.out; omega, hz.2⟩])
    have h0 : 0 < s.size := by omega
    have hc : s[0].toNat = 48 := by
      have q := bl_get h0
      rw [← List.head?_eq_getElem?] at q
      rw [hz.2] at q
      exact (Option.some.inj q).symm
    have hz1 := hz.1
    have e48 : (((48 : Nat) : Int) == 48) = true := rfl
    have e1 : decide ((1 : Int) < (s.size : Int)) = true := decide_eq_true (by omega)
    clear hz
    go_enter Try.func31, Try.ntmps31
    go_wp2_with fail
    go_ret2
    exact ⟨by rw [hv.out]; rfl, rfl⟩
  · have hv : Hid (valD (bl s) = valG 0 (bl s)) := Lib.hid (by unfold valD; rw [if_neg (fun q => hz ⟨by have := HL.out; omega, q.2⟩)])
    have HZ := Lib.hid hz
    clear hz
    go_enter Try.func31, Try.ntmps31
    by_cases h1 : 1 < s.size
    · obtain ⟨c0, hc0⟩ : ∃ c, s[0].toNat = c := ⟨_, rfl⟩
      have hne : ((c0 : Int) == 48) = false := by
        have : c0 ≠ 48 := fun e => HZ.out ⟨h1, by
          have q := bl_get (show 0 < s.size by omega)
          rw [← List.head?_eq_getElem?] at q
          rw [q, hc0, e]⟩
        simp; omega
      have e1 : decide ((1 : Int) < (s.size : Int)) = true := decide_eq_true (by omega)
      go_wp2_with fail
      go_loopw [4, 5] (fun v i wr => ∃ (k : Nat) (n : Int), k ≤ s.size ∧ i = .int .i64 k ∧ v = .int .i64 n ∧ (0 ≤ n ∧ n ≤ 1000000) ∧ valG n ((bl s).drop k) = valG 0 (bl s) ∧ w = wr) (fun _ i _ => s.size - (intOf i).toNat)
      case atStart => exact ⟨0, 0, Nat.zero_le _, rfl, rfl, by omega, rfl, rfl⟩
      case round =>
        obtain ⟨k, n, hk, rfl, rfl, hn, hg, rfl⟩ := hrel
        have HG := Lib.hid hg
        clear hg
        by_cases hlt : k < s.size
        · have i0 : (0 : Int) ≤ (k : Int) := by omega
          have i1 : (k : Int) < (s.size : Int) := by omega
          obtain ⟨c, hc⟩ : ∃ c, s[k].toNat = c := ⟨_, rfl⟩
          have HC : Hid ((bl s)[k]? = some c) := Lib.hid (by rw [bl_get hlt, hc])
          have hcd : 48 ≤ c ∧ c ≤ 57 := by
            have := HD.out c (List.mem_of_getElem? HC.out)
            simpa [digB] using this
          have hsub := u8_sub hcd
          by_cases hbig : 1000000 < 10 * n + ((c : Int) - 48)
          · have e7 : decide (1000000 < 10 * n + ((c : Int) - 48)) = true := decide_eq_true hbig
            have hres : Hid (valD (bl s) = (0, 3)) := Lib.hid (by rw [hv.out, ← HG.out, drop_cons HC.out]; simp only [valG, if_pos hbig])
            go_wp2_with fail
            all_goals (try (exfalso; omega))
            go_ret2
            exact ⟨by rw [hres.out]; rfl, rfl⟩
          · have e7 : decide (1000000 < 10 * n + ((c : Int) - 48)) = false := decide_eq_false hbig
            have HN : Hid (valG (10 * n + ((c : Int) - 48)) ((bl s).drop (k + 1)) = valG 0 (bl s)) := Lib.hid (by rw [← HG.out, drop_cons HC.out]; simp only [valG, if_neg hbig])
            go_wp2_with fail
            all_goals (try (exfalso; omega))
            go_roundw
            case rel => exact ⟨k + 1, _, by omega, by go_num, by go_num, by omega, HN.out, by simp⟩
            case measure => simp [intOf] <;> omega
        · have hres : Hid (valD (bl s) = (n, 0)) := Lib.hid (by rw [hv.out, ← HG.out, List.drop_eq_nil_of_le (by have := HL.out; omega)]; rfl)
          go_wp2_with fail
          all_goals (try (exfalso; omega))
          go_ret2
          exact ⟨by rw [hres.out]; rfl, rfl⟩
    · have e1 : decide ((1 : Int) < (s.size : Int)) = false := decide_eq_false (by omega)
      go_wp2_with fail
      all_goals (try (exfalso; omega))
      go_loopw [4, 5] (fun v i wr => ∃ (k : Nat) (n : Int), k ≤ s.size ∧ i = .int .i64 k ∧ v = .int .i64 n ∧ (0 ≤ n ∧ n ≤ 1000000) ∧ valG n ((bl s).drop k) = valG 0 (bl s) ∧ w = wr) (fun _ i _ => s.size - (intOf i).toNat)
      case atStart => exact ⟨0, 0, Nat.zero_le _, rfl, rfl, by omega, rfl, rfl⟩
      case round =>
        obtain ⟨k, n, hk, rfl, rfl, hn, hg, rfl⟩ := hrel
        have HG := Lib.hid hg
        clear hg
        by_cases hlt : k < s.size
        · have i0 : (0 : Int) ≤ (k : Int) := by omega
          have i1 : (k : Int) < (s.size : Int) := by omega
          obtain ⟨c, hc⟩ : ∃ c, s[k].toNat = c := ⟨_, rfl⟩
          have HC : Hid ((bl s)[k]? = some c) := Lib.hid (by rw [bl_get hlt, hc])
          have hcd : 48 ≤ c ∧ c ≤ 57 := by
            have := HD.out c (List.mem_of_getElem? HC.out)
            simpa [digB] using this
          have hsub := u8_sub hcd
          by_cases hbig : 1000000 < 10 * n + ((c : Int) - 48)
          · have e7 : decide (1000000 < 10 * n + ((c : Int) - 48)) = true := decide_eq_true hbig
            have hres : Hid (valD (bl s) = (0, 3)) := Lib.hid (by rw [hv.out, ← HG.out, drop_cons HC.out]; simp only [valG, if_pos hbig])
            go_wp2_with fail
            all_goals (try (exfalso; omega))
            go_ret2
            exact ⟨by rw [hres.out]; rfl, rfl⟩
          · have e7 : decide (1000000 < 10 * n + ((c : Int) - 48)) = false := decide_eq_false hbig
            have HN : Hid (valG (10 * n + ((c : Int) - 48)) ((bl s).drop (k + 1)) = valG 0 (bl s)) := Lib.hid (by rw [← HG.out, drop_cons HC.out]; simp only [valG, if_neg hbig])
            go_wp2_with fail
            all_goals (try (exfalso; omega))
            go_roundw
            case rel => exact ⟨k + 1, _, by omega, by go_num, by go_num, by omega, HN.out, by simp⟩
            case measure => simp [intOf] <;> omega
        · have hres : Hid (valD (bl s) = (n, 0)) := Lib.hid (by rw [hv.out, ← HG.out, List.drop_eq_nil_of_le (by have := HL.out; omega)]; rfl)
          go_wp2_with fail
          all_goals (try (exfalso; omega))
          go_ret2
          exact ⟨by rw [hres.out]; rfl, rfl⟩

theorem take_while (p : Nat → Bool) (l : List Nat) : l.take (l.takeWhile p).length = l.takeWhile p := List.prefix_iff_eq_take.1 (List.takeWhile_prefix p) |>.symm
theorem text_span (s : ByteArray) (p : Nat → Bool) (a : Nat) : s.extract a (spn p (bl s) a) = ba (((bl s).drop a).takeWhile p) := by
  rw [← ba_bl (s.extract a (spn p (bl s) a)), bl_extract]
  congr 1
  rw [show spn p (bl s) a - a = (((bl s).drop a).takeWhile p).length by unfold spn; omega, take_while]
theorem text_one {s : ByteArray} {a c : Nat} (h : (bl s)[a]? = some c) : s.extract a (a + 1) = ba [c] := by
  rw [← ba_bl (s.extract a (a + 1)), bl_extract, drop_cons h, show a + 1 - a = 1 by omega]
  rfl
/-- what token answers -/
def TokE (s : ByteArray) (a : Nat) : Ending :=
  .returned (.tuple #[(if (tok1 ((bl s).drop a)).2.2 = 0 then .agg #[.int .i64 (tok1 ((bl s).drop a)).1.1, .string (ba (tok1 ((bl s).drop a)).1.2.1), .int .i64 (tok1 ((bl s).drop a)).1.2.2, .int .i64 (a : Int)] else .agg #[.int .i64 0, .string (ba []), .int .i64 0, .int .i64 0]), .int .i64 ((a + (tok1 ((bl s).drop a)).2.1 : Nat) : Int), .int .i64 (tok1 ((bl s).drop a)).2.2])
theorem tokE_of {s : ByteArray} {a : Nat} {k n er : Int} {t : List Nat} {m : Nat} (h : tok1 ((bl s).drop a) = ((k, t, n), m, er)) :
    TokE s a = .returned (.tuple #[(if er = 0 then .agg #[.int .i64 k, .string (ba t), .int .i64 n, .int .i64 (a : Int)] else .agg #[.int .i64 0, .string (ba []), .int .i64 0, .int .i64 0]), .int .i64 ((a + m : Nat) : Int), .int .i64 er]) := by
  unfold TokE
  rw [h]
set_option maxRecDepth 100000 in
set_option maxHeartbeats 4000000 in
theorem token_any (s : ByteArray) (a c : Nat) (w : World) (hs : s.size ≤ 20000) (hc : (bl s)[a]? = some c) (hg : gapB c = false) (h35 : c ≠ 35) :
    Calls Try.prog 22 #[.string s, .int .i64 a, .int .i64 (kindB c)] w fun e w' => e = TokE s a ∧ Below w.heap.size w w' := by
  have HL := Lib.hid (bl_len s)
  have HC := Lib.hid hc
  have ha : a < s.size := by have := (List.getElem?_eq_some_iff.1 hc).1; have := bl_len s; omega
  have HB := Lib.hid (fun o => bel_a w o)
  have hdc := drop_cons hc
  clear hc
  cases hl : lowB c
  · cases hd : digB c
    · cases hp : punB c
      · have hk : kindB c = 0 := by unfold kindB; rw [hg, hl, hd, hp]; simp [h35]
        have ht : tok1 ((bl s).drop a) = ((0, [], 0), 0, 7) := by rw [hdc]; simp only [tok1, hl, hd, hp]; rfl
        have hr := Lib.hid (tokE_of ht)
        rw [hk]
        clear hk ht hdc hl hd hp hg
        go_enter Try.func22, Try.ntmps22
        go_wp2_with fail
        go_returns
        rw [hr.out]
        exact ⟨rfl, HB.out _⟩
      · have hk : kindB c = 5 := by unfold kindB; rw [hg, hl, hd, hp]; simp [h35]
        have ht : tok1 ((bl s).drop a) = ((3, [c], 0), 1, 0) := by rw [hdc]; simp only [tok1, hl, hd, hp]; rfl
        have hr := Lib.hid (tokE_of ht)
        have hx := text_one HC.out
        rw [hk]
        clear hk ht hdc hl hd hp hg
        go_enter Try.func22, Try.ntmps22
        go_wp2_with fail
        all_goals (try (exfalso; omega))
        go_returns
        rw [hr.out]
        exact ⟨rfl, HB.out _⟩
    · have hk : kindB c = 4 := by unfold kindB; rw [hg, hl, hd]; simp [h35]
      have hsl := spn_le (p := digB) (l := bl s) (a := a) (by have := HL.out; omega)
      rw [HL.out] at hsl
      have hsg := spn_ge digB (bl s) a
      have hx := text_span s digB a
      have hbd : bl (ba (((bl s).drop a).takeWhile digB)) = ((bl s).drop a).takeWhile digB := bl_ba fun q hq => bl_lt q (List.mem_of_mem_drop ((List.takeWhile_prefix _).mem hq))
      have HVC : Hid (∀ W : World, Calls Try.prog 31 #[.string (ba (((bl s).drop a).takeWhile digB))] W fun e w' => e = .returned (.tuple #[.int .i64 (valD (((bl s).drop a).takeWhile digB)).1, .int .i64 (valD (((bl s).drop a).takeWhile digB)).2]) ∧ W = w') := Lib.hid fun W => by
        have q := value_any (ba (((bl s).drop a).takeWhile digB)) W (by rw [← bl_len, hbd]; have := (List.takeWhile_prefix digB (l := (bl s).drop a)).length_le; simp at this; have := HL.out; omega) (by rw [hbd]; exact fun q hq => List.all_eq_true.1 List.all_takeWhile q hq)
        rw [hbd] at q
        exact q
      have ht : ∀ n er, valD (((bl s).drop a).takeWhile digB) = (n, er) → tok1 ((bl s).drop a) = (if er = 0 then ((2, [], n), (((bl s).drop a).takeWhile digB).length, 0) else ((0, [], 0), (((bl s).drop a).takeWhile digB).length, er)) := by
        intro n er e
        rw [hdc] at e ⊢
        simp only [tok1, hl, hd, e, Bool.false_eq_true, if_false, if_true]
      obtain ⟨n, er, hve⟩ : ∃ n er, valD (((bl s).drop a).takeWhile digB) = (n, er) := ⟨_, _, rfl⟩
      have ht2 := ht n er hve
      have hse : a + (((bl s).drop a).takeWhile digB).length = spn digB (bl s) a := rfl
      rw [hve] at HVC
      rw [hk]
      by_cases he : er = 0
      · subst he
        rw [if_pos rfl] at ht2
        have hr := Lib.hid (tokE_of ht2)
        rw [hse] at hr
        clear hk ht hdc hl hd hg ht2 hve hbd hse
        obtain ⟨e0, he0⟩ : ∃ e0, spn digB (bl s) a = e0 := ⟨_, rfl⟩
        rw [he0] at hsl hsg hx hr
        have HE0 := Lib.hid he0
        clear he0
        go_enter Try.func22, Try.ntmps22
        go_wp2_with (first
          | (go_at_call 20; refine (span_dig s a _ hs (by omega)).mono ?_; rintro e w1 ⟨rfl, rfl⟩; rw [HE0.out])
          | (go_at_call 31; with_reducible refine (HVC.out _).mono ?_; rintro e w1 ⟨rfl, rfl⟩))
        all_goals (try (exfalso; omega))
        go_returns
        rw [hr.out]
        exact ⟨rfl, HB.out _⟩
      · rw [if_neg he] at ht2
        have hr := Lib.hid (tokE_of ht2)
        rw [hse] at hr
        have e5 : (er != 0) = true := by simpa using he
        have HEZ := Lib.hid he
        clear hk ht hdc hl hd hg ht2 hve hbd hse he
        obtain ⟨e0, he0⟩ : ∃ e0, spn digB (bl s) a = e0 := ⟨_, rfl⟩
        rw [he0] at hsl hsg hx hr
        have HE0 := Lib.hid he0
        clear he0
        go_enter Try.func22, Try.ntmps22
        go_wp2_with (first
          | (go_at_call 20; refine (span_dig s a _ hs (by omega)).mono ?_; rintro e w1 ⟨rfl, rfl⟩; rw [HE0.out])
          | (go_at_call 31; with_reducible refine (HVC.out _).mono ?_; rintro e w1 ⟨rfl, rfl⟩))
        all_goals (try (exfalso; omega))
        go_returns
        rw [hr.out, if_neg HEZ.out]
        exact ⟨rfl, HB.out _⟩
  · have hk : kindB c = 3 := by unfold kindB; rw [hg, hl]; simp [h35]
    have hsl := spn_le (p := namB) (l := bl s) (a := a) (by have := HL.out; omega)
    rw [HL.out] at hsl
    have hsg := spn_ge namB (bl s) a
    have hx := text_span s namB a
    have hse : a + (((bl s).drop a).takeWhile namB).length = spn namB (bl s) a := rfl
    have ht2 : tok1 ((bl s).drop a) = (if 12 < (((bl s).drop a).takeWhile namB).length then ((0, [], 0), (((bl s).drop a).takeWhile namB).length, 3) else ((1, ((bl s).drop a).takeWhile namB, 0), (((bl s).drop a).takeWhile namB).length, 0)) := by
      rw [hdc]
      simp only [tok1, hl, if_true]
    rw [hk]
    by_cases he : 12 < (((bl s).drop a).takeWhile namB).length
    · rw [if_pos he] at ht2
      have hr := Lib.hid (tokE_of ht2)
      rw [hse] at hr
      have h12 : 12 < spn namB (bl s) a - a := by omega
      clear hk hdc hl hg ht2 he hse
      obtain ⟨e0, he0⟩ : ∃ e0, spn namB (bl s) a = e0 := ⟨_, rfl⟩
      rw [he0] at hsl hsg hx hr h12
      have HE0 := Lib.hid he0
      clear he0
      go_enter Try.func22, Try.ntmps22
      go_wp2_with (first
        | (go_at_call 20; refine (span_nam s a _ hs (by omega)).mono ?_; rintro e w1 ⟨rfl, rfl⟩; rw [HE0.out]))
      all_goals (try (exfalso; omega))
      go_returns
      rw [hr.out]
      exact ⟨rfl, HB.out _⟩
    · rw [if_neg he] at ht2
      have hr := Lib.hid (tokE_of ht2)
      rw [hse] at hr
      have h12 : spn namB (bl s) a - a ≤ 12 := by omega
      clear hk hdc hl hg ht2 he hse
      obtain ⟨e0, he0⟩ : ∃ e0, spn namB (bl s) a = e0 := ⟨_, rfl⟩
      rw [he0] at hsl hsg hx hr h12
      have HE0 := Lib.hid he0
      clear he0
      go_enter Try.func22, Try.ntmps22
      go_wp2_with (first
        | (go_at_call 20; refine (span_nam s a _ hs (by omega)).mono ?_; rintro e w1 ⟨rfl, rfl⟩; rw [HE0.out]))
      all_goals (try (exfalso; omega))
      go_returns
      rw [hr.out]
      exact ⟨rfl, HB.out _⟩
end Go.Proofs.Ytkmjflkodckflaa
