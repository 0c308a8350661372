/-
  THE WALKS over the reference, second part: Token.
-/
import Derived.Test.YtkmjflkodckflaaRef
namespace Go.Proofs.Ytkmjflkodckflaa
open Go.RowKit
set_option linter.unusedVariables false
set_option linter.unusedSimpArgs false
attribute [local go_sem ↓] Go.wp_at_zero Go.wp_at_succ

theorem OW.set4 {W : World} {b : Nat} {t : TypeId} {a0 a1 a2 a3 : Value} (h : OW W b t [a0, a1, a2, a3]) (z0 z1 z2 z3 : Value) : OW ((((W.setCell ⟨b, 0, none⟩ z0).setCell ⟨b, 1, none⟩ z1).setCell ⟨b, 2, none⟩ z2).setCell ⟨b, 3, none⟩ z3) b t [z0, z1, z2, z3] := (((h.set 0 z0).set 1 z1).set 2 z2).set 3 z3
theorem bel_set4 {B : Nat} {a w : World} (h : Below B a w) {b : Nat} (hb : B ≤ b) (j0 j1 j2 j3 : Nat) (z0 z1 z2 z3 : Value) : Below B a ((((w.setCell ⟨b, j0, none⟩ z0).setCell ⟨b, j1, none⟩ z1).setCell ⟨b, j2, none⟩ z2).setCell ⟨b, j3, none⟩ z3) := (((h.setCell hb z0).setCell hb z1).setCell hb z2).setCell hb z3
set_option maxRecDepth 100000 in
set_option maxHeartbeats 2000000 in
theorem rtok_low (s : ByteArray) (c : Nat) (w : World) (hs : s.size ≤ 20000) (hc0 : (bl s)[0]? = some c) (hl : lowB c = true) :
    Calls Try.prog 23 #[.string s] w fun e w' => e = (if 12 < s.size then .returned (.tuple #[.agg #[.int .i64 0, .string (ba []), .int .i64 0, .int .i64 0], .int .i64 3]) else .returned (.tuple #[.agg #[.int .i64 1, .string s, .int .i64 0, .int .i64 0], .int .i64 0])) ∧ Below w.heap.size w w' := by
  have HL := Lib.hid (bl_len s)
  have h0 : 0 < s.size := by have := (List.getElem?_eq_some_iff.1 hc0).1; have := bl_len s; omega
  have hc : s[0].toNat = c := by have q := bl_get h0; rw [hc0] at q; exact (Option.some.inj q).symm
  have HB := Lib.hid (fun o => bel_a w o)
  have HC := Lib.hid hc0
  clear hc0
  have HLE := Lib.hid hl
  clear hl
  by_cases h12 : 12 < s.size
  · rw [if_pos h12]
    go_enter Try.func23, Try.ntmps23
    go_wp2_with (first | (go_at_call 25; with_reducible refine (letter_any c _).mono ?_; rintro e w1 ⟨rfl, hw1⟩; obtain rfl := hw1.symm; rw [HLE.out]))
    all_goals (try (exfalso; omega))
    go_returns
    exact ⟨rfl, HB.out _⟩
  · rw [if_neg h12]
    go_enter Try.func23, Try.ntmps23
    go_wp2_with (first | (go_at_call 25; with_reducible refine (letter_any c _).mono ?_; rintro e w1 ⟨rfl, hw1⟩; obtain rfl := hw1.symm; rw [HLE.out]))
    all_goals (try (exfalso; omega))
    go_returns
    exact ⟨rfl, HB.out _⟩
set_option maxRecDepth 100000 in
set_option maxHeartbeats 2000000 in
theorem rtok_pun (s : ByteArray) (c : Nat) (w : World) (hs : s.size ≤ 20000) (hc0 : (bl s)[0]? = some c) (hl : lowB c = false) (hd : digB c = false) :
    Calls Try.prog 23 #[.string s] w fun e w' => e = .returned (.tuple #[.agg #[.int .i64 3, .string s, .int .i64 0, .int .i64 0], .int .i64 0]) ∧ Below w.heap.size w w' := by
  have HL := Lib.hid (bl_len s)
  have h0 : 0 < s.size := by have := (List.getElem?_eq_some_iff.1 hc0).1; have := bl_len s; omega
  have hc : s[0].toNat = c := by have q := bl_get h0; rw [hc0] at q; exact (Option.some.inj q).symm
  have HB := Lib.hid (fun o => bel_a w o)
  have HC := Lib.hid hc0
  clear hc0
  have HLE := Lib.hid hl
  have HDI := Lib.hid hd
  clear hl hd
  go_enter Try.func23, Try.ntmps23
  go_wp2_with (first | (go_at_call 25; with_reducible refine (letter_any c _).mono ?_; rintro e w1 ⟨rfl, hw1⟩; obtain rfl := hw1.symm; rw [HLE.out]) | (go_at_call 26; with_reducible refine (digit_any c _).mono ?_; rintro e w1 ⟨rfl, hw1⟩; obtain rfl := hw1.symm; rw [HDI.out]))
  go_returns
  exact ⟨rfl, HB.out _⟩
/-- what it answers of digits -/
def RDig (l : List Nat) : Ending := if (valD l).2 = 0 then .returned (.tuple #[.agg #[.int .i64 2, .string (ba []), .int .i64 (valD l).1, .int .i64 0], .int .i64 0]) else .returned (.tuple #[.agg #[.int .i64 0, .string (ba []), .int .i64 0, .int .i64 0], .int .i64 (valD l).2])
set_option maxRecDepth 100000 in
set_option maxHeartbeats 2000000 in
theorem rtok_dig (s : ByteArray) (c : Nat) (w : World) (hs : s.size ≤ 20000) (hc0 : (bl s)[0]? = some c) (hl : lowB c = false) (hall : ∀ c ∈ bl s, digB c = true) :
    Calls Try.prog 23 #[.string s] w fun e w' => e = RDig (bl s) ∧ Below w.heap.size w w' := by
  have HDI := Lib.hid (hall c (List.mem_of_getElem? hc0))
  have HL := Lib.hid (bl_len s)
  have h0 : 0 < s.size := by have := (List.getElem?_eq_some_iff.1 hc0).1; have := bl_len s; omega
  have hc : s[0].toNat = c := by have q := bl_get h0; rw [hc0] at q; exact (Option.some.inj q).symm
  have HB := Lib.hid (fun o => bel_a w o)
  have HC := Lib.hid hc0
  clear hc0
  have HD := Lib.hid hall
  have HLE := Lib.hid hl
  clear hl hall
  by_cases h1 : 1 < s.size
  · have e1 : decide ((1 : Int) < (s.size : Int)) = true := decide_eq_true (by omega)
    by_cases h48 : c = 48
    · subst h48
      have hv : Hid (valD (bl s) = (0, 7)) := Lib.hid (by unfold valD; rw [if_pos ⟨by have := HL.out; omega, by rw [List.head?_eq_getElem?]; exact HC.out⟩])
      have e48 : (((48 : Nat) : Int) == 48) = true := rfl
      go_enter Try.func23, Try.ntmps23
      go_wp2_with (first | (go_at_call 25; refine (letter_any 48 _).mono ?_; rintro e w1 ⟨rfl, hw1⟩; obtain rfl := hw1.symm; rw [HLE.out]) | (go_at_call 26; refine (digit_any 48 _).mono ?_; rintro e w1 ⟨rfl, hw1⟩; obtain rfl := hw1.symm; rw [HDI.out]))
      go_returns
      exact ⟨by unfold RDig; rw [hv.out]; rfl, HB.out _⟩
    · have e48 : ((c : Int) == 48) = false := by simp; omega
      have hv : Hid (valD (bl s) = valG 0 (bl s)) := Lib.hid (by unfold valD; rw [if_neg (fun q => h48 (by have := q.2; rw [List.head?_eq_getElem?, HC.out] at this; exact Option.some.inj this))])
      clear h48
      go_enter Try.func23, Try.ntmps23
      go_wp2_with (first | (go_at_call 25; with_reducible refine (letter_any c _).mono ?_; rintro e w1 ⟨rfl, hw1⟩; obtain rfl := hw1.symm; rw [HLE.out]) | (go_at_call 26; with_reducible refine (digit_any c _).mono ?_; rintro e w1 ⟨rfl, hw1⟩; obtain rfl := hw1.symm; rw [HDI.out]))
      have HBA := Lib.hid (HB.out (.cells #[.int .i64 0, .string ⟨#[]⟩, .int .i64 0, .int .i64 0] 30))
      have HOW := Lib.hid (OW.new w 30 [.int .i64 0, .string ⟨#[]⟩, .int .i64 0, .int .i64 0])
      obtain ⟨wa, ewa⟩ : ∃ wa, w.alloc (.cells #[.int .i64 0, .string ⟨#[]⟩, .int .i64 0, .int .i64 0] 30) = wa := ⟨_, rfl⟩
      rw [ewa] at HBA HOW ⊢
      clear ewa
      obtain ⟨bx, eB⟩ : ∃ b, w.heap.size = b := ⟨_, rfl⟩
      have hbx : w.heap.size ≤ bx := by omega
      rw [eB] at HOW ⊢
      clear eB
      go_loopw [5, 6] (fun v i wr => ∃ (k : Nat) (n : Int), k ≤ s.size ∧ i = .int .i64 k ∧ v = .int .i64 n ∧ (0 ≤ n ∧ n ≤ 1000000) ∧ valG n ((bl s).drop k) = valG 0 (bl s) ∧ wa = wr) (fun _ i _ => s.size - (intOf i).toNat)
      case atStart => exact ⟨0, 0, Nat.zero_le _, rfl, rfl, by omega, rfl, rfl⟩
      case round =>
        obtain ⟨k, n, hk, rfl, rfl, hn, hg, rfl⟩ := hrel
        have HG := Lib.hid hg
        clear hg
        obtain ⟨y0, y1, y2, y3⟩ := cell4 HOW.out
        have z0 := HOW.out.thaw 0
        have z1 := HOW.out.thaw 1
        have z2 := HOW.out.thaw 2
        have z3 := HOW.out.thaw 3
        by_cases hlt : k < s.size
        · have i0 : (0 : Int) ≤ (k : Int) := by omega
          have i1 : (k : Int) < (s.size : Int) := by omega
          obtain ⟨c2, hc2⟩ : ∃ c, s[k].toNat = c := ⟨_, rfl⟩
          have HC2 : Hid ((bl s)[k]? = some c2) := Lib.hid (by rw [bl_get hlt, hc2])
          have hcd : 48 ≤ c2 ∧ c2 ≤ 57 := by
            have := HD.out c2 (List.mem_of_getElem? HC2.out)
            simpa [digB] using this
          have hsub := u8_sub hcd
          by_cases hbig : 1000000 < 10 * n + ((c2 : Int) - 48)
          · have e7 : decide (1000000 < 10 * n + ((c2 : Int) - 48)) = true := decide_eq_true hbig
            have hres : Hid (valD (bl s) = (0, 3)) := Lib.hid (by rw [hv.out, ← HG.out, drop_cons HC2.out]; simp only [valG, if_pos hbig])
            go_wp2_with fail
            all_goals (try (exfalso; omega))
            have f1 := OW.set4 HOW.out (.int .i64 0) (.string ⟨#[]⟩) (.int .i64 0) (.int .i64 0)
            have fb := bel_set4 HBA.out hbx 0 1 2 3 (.int .i64 0) (.string ⟨#[]⟩) (.int .i64 0) (.int .i64 0)
            obtain ⟨wF, hwF⟩ : ∃ wF, (((wa.setCell ⟨bx, 0, none⟩ (.int .i64 0)).setCell ⟨bx, 1, none⟩ (.string ⟨#[]⟩)).setCell ⟨bx, 2, none⟩ (.int .i64 0)).setCell ⟨bx, 3, none⟩ (.int .i64 0) = wF := ⟨_, rfl⟩
            rw [hwF] at f1 fb ⊢
            obtain ⟨d0, d1, d2, d3⟩ := cell4 f1
            (try simp only [Exit.inBlock, Exit.then])
            refine bodyPost_ret (by simp [results, Try.results23, go_sem, d0, d1, d2, d3]; try rfl) rfl ?_
            exact ⟨by unfold RDig; rw [hres.out]; rfl, fb⟩
          · have e7 : decide (1000000 < 10 * n + ((c2 : Int) - 48)) = false := decide_eq_false hbig
            have HN : Hid (valG (10 * n + ((c2 : Int) - 48)) ((bl s).drop (k + 1)) = valG 0 (bl s)) := Lib.hid (by rw [← HG.out, drop_cons HC2.out]; simp only [valG, if_neg hbig])
            go_wp2_with fail
            all_goals (try (exfalso; omega))
            go_roundw
            case rel => exact ⟨k + 1, _, by omega, by go_num, by go_num, by omega, HN.out, by simp⟩
            case measure => simp [intOf] <;> omega
        · have hres : Hid (valD (bl s) = (n, 0)) := Lib.hid (by rw [hv.out, ← HG.out, List.drop_eq_nil_of_le (by have := HL.out; omega)]; rfl)
          go_wp2_with fail
          all_goals (try (exfalso; omega))
          have f1 := OW.set4 HOW.out (.int .i64 2) (.string ⟨#[]⟩) (.int .i64 n) (.int .i64 0)
          have fb := bel_set4 HBA.out hbx 0 1 2 3 (.int .i64 2) (.string ⟨#[]⟩) (.int .i64 n) (.int .i64 0)
          obtain ⟨wF, hwF⟩ : ∃ wF, (((wa.setCell ⟨bx, 0, none⟩ (.int .i64 2)).setCell ⟨bx, 1, none⟩ (.string ⟨#[]⟩)).setCell ⟨bx, 2, none⟩ (.int .i64 n)).setCell ⟨bx, 3, none⟩ (.int .i64 0) = wF := ⟨_, rfl⟩
          rw [hwF] at f1 fb ⊢
          obtain ⟨d0, d1, d2, d3⟩ := cell4 f1
          (try simp only [Exit.inBlock, Exit.then])
          refine bodyPost_ret (by simp [results, Try.results23, go_sem, d0, d1, d2, d3]; try rfl) rfl ?_
          exact ⟨by unfold RDig; rw [hres.out]; rfl, fb⟩
  · have e1 : decide ((1 : Int) < (s.size : Int)) = false := decide_eq_false (by omega)
    have hv : Hid (valD (bl s) = valG 0 (bl s)) := Lib.hid (by unfold valD; rw [if_neg (fun q => by have := q.1; have := HL.out; omega)])
    go_enter Try.func23, Try.ntmps23
    go_wp2_with (first | (go_at_call 25; with_reducible refine (letter_any c _).mono ?_; rintro e w1 ⟨rfl, hw1⟩; obtain rfl := hw1.symm; rw [HLE.out]) | (go_at_call 26; with_reducible refine (digit_any c _).mono ?_; rintro e w1 ⟨rfl, hw1⟩; obtain rfl := hw1.symm; rw [HDI.out]))
    have HBA := Lib.hid (HB.out (.cells #[.int .i64 0, .string ⟨#[]⟩, .int .i64 0, .int .i64 0] 30))
    have HOW := Lib.hid (OW.new w 30 [.int .i64 0, .string ⟨#[]⟩, .int .i64 0, .int .i64 0])
    obtain ⟨wa, ewa⟩ : ∃ wa, w.alloc (.cells #[.int .i64 0, .string ⟨#[]⟩, .int .i64 0, .int .i64 0] 30) = wa := ⟨_, rfl⟩
    rw [ewa] at HBA HOW ⊢
    clear ewa
    obtain ⟨bx, eB⟩ : ∃ b, w.heap.size = b := ⟨_, rfl⟩
    have hbx : w.heap.size ≤ bx := by omega
    rw [eB] at HOW ⊢
    clear eB
    go_loopw [5, 6] (fun v i wr => ∃ (k : Nat) (n : Int), k ≤ s.size ∧ i = .int .i64 k ∧ v = .int .i64 n ∧ (0 ≤ n ∧ n ≤ 1000000) ∧ valG n ((bl s).drop k) = valG 0 (bl s) ∧ wa = wr) (fun _ i _ => s.size - (intOf i).toNat)
    case atStart => exact ⟨0, 0, Nat.zero_le _, rfl, rfl, by omega, rfl, rfl⟩
    case round =>
      obtain ⟨k, n, hk, rfl, rfl, hn, hg, rfl⟩ := hrel
      have HG := Lib.hid hg
      clear hg
      obtain ⟨y0, y1, y2, y3⟩ := cell4 HOW.out
      have z0 := HOW.out.thaw 0
      have z1 := HOW.out.thaw 1
      have z2 := HOW.out.thaw 2
      have z3 := HOW.out.thaw 3
      by_cases hlt : k < s.size
      · have i0 : (0 : Int) ≤ (k : Int) := by omega
        have i1 : (k : Int) < (s.size : Int) := by omega
        obtain ⟨c2, hc2⟩ : ∃ c, s[k].toNat = c := ⟨_, rfl⟩
        have HC2 : Hid ((bl s)[k]? = some c2) := Lib.hid (by rw [bl_get hlt, hc2])
        have hcd : 48 ≤ c2 ∧ c2 ≤ 57 := by
          have := HD.out c2 (List.mem_of_getElem? HC2.out)
          simpa [digB] using this
        have hsub := u8_sub hcd
        by_cases hbig : 1000000 < 10 * n + ((c2 : Int) - 48)
        · have e7 : decide (1000000 < 10 * n + ((c2 : Int) - 48)) = true := decide_eq_true hbig
          have hres : Hid (valD (bl s) = (0, 3)) := Lib.hid (by rw [hv.out, ← HG.out, drop_cons HC2.out]; simp only [valG, if_pos hbig])
          go_wp2_with fail
          all_goals (try (exfalso; omega))
          have f1 := OW.set4 HOW.out (.int .i64 0) (.string ⟨#[]⟩) (.int .i64 0) (.int .i64 0)
          have fb := bel_set4 HBA.out hbx 0 1 2 3 (.int .i64 0) (.string ⟨#[]⟩) (.int .i64 0) (.int .i64 0)
          obtain ⟨wF, hwF⟩ : ∃ wF, (((wa.setCell ⟨bx, 0, none⟩ (.int .i64 0)).setCell ⟨bx, 1, none⟩ (.string ⟨#[]⟩)).setCell ⟨bx, 2, none⟩ (.int .i64 0)).setCell ⟨bx, 3, none⟩ (.int .i64 0) = wF := ⟨_, rfl⟩
          rw [hwF] at f1 fb ⊢
          obtain ⟨d0, d1, d2, d3⟩ := cell4 f1
          (try simp only [Exit.inBlock, Exit.then])
          refine bodyPost_ret (by simp [results, Try.results23, go_sem, d0, d1, d2, d3]; try rfl) rfl ?_
          exact ⟨by unfold RDig; rw [hres.out]; rfl, fb⟩
        · have e7 : decide (1000000 < 10 * n + ((c2 : Int) - 48)) = false := decide_eq_false hbig
          have HN : Hid (valG (10 * n + ((c2 : Int) - 48)) ((bl s).drop (k + 1)) = valG 0 (bl s)) := Lib.hid (by rw [← HG.out, drop_cons HC2.out]; simp only [valG, if_neg hbig])
          go_wp2_with fail
          all_goals (try (exfalso; omega))
          go_roundw
          case rel => exact ⟨k + 1, _, by omega, by go_num, by go_num, by omega, HN.out, by simp⟩
          case measure => simp [intOf] <;> omega
      · have hres : Hid (valD (bl s) = (n, 0)) := Lib.hid (by rw [hv.out, ← HG.out, List.drop_eq_nil_of_le (by have := HL.out; omega)]; rfl)
        go_wp2_with fail
        all_goals (try (exfalso; omega))
        have f1 := OW.set4 HOW.out (.int .i64 2) (.string ⟨#[]⟩) (.int .i64 n) (.int .i64 0)
        have fb := bel_set4 HBA.out hbx 0 1 2 3 (.int .i64 2) (.string ⟨#[]⟩) (.int .i64 n) (.int .i64 0)
        obtain ⟨wF, hwF⟩ : ∃ wF, (((wa.setCell ⟨bx, 0, none⟩ (.int .i64 2)).setCell ⟨bx, 1, none⟩ (.string ⟨#[]⟩)).setCell ⟨bx, 2, none⟩ (.int .i64 n)).setCell ⟨bx, 3, none⟩ (.int .i64 0) = wF := ⟨_, rfl⟩
        rw [hwF] at f1 fb ⊢
        obtain ⟨d0, d1, d2, d3⟩ := cell4 f1
        (try simp only [Exit.inBlock, Exit.then])
        refine bodyPost_ret (by simp [results, Try.results23, go_sem, d0, d1, d2, d3]; try rfl) rfl ?_
        exact ⟨by unfold RDig; rw [hres.out]; rfl, fb⟩
end Go.Proofs.Ytkmjflkodckflaa
