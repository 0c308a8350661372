/-
  NAMES, fourth part: the reference's test and the search in a list, as functions of what they are given.
-/
import Derived.Test.YtkhmlbkkdflnoaaSit
namespace Go.Proofs.Ytkhmlbkkdflnoaa.Nm
open Go.RowKit Go.Proofs.Ytkhmlbkkdflnoaa Go
set_option linter.unusedVariables false
attribute [local go_sem ↓] Go.wp_at_zero Go.wp_at_succ

set_option maxHeartbeats 1000000 in
theorem in_no (A : Option Addr) (n c : Nat) (L : Nat → ByteArray) (s : ByteArray) (w : World) (hn : n ≤ 1000) (hR : RS w A n L) (hne : ∀ i, i < n → ((L i).toList == s.toList) = false) :
    Calls Try.prog 130 #[.slice A n c, .string s] w fun e w' => e = .returned (.int .i64 (-1)) ∧ w' = w := by
  have HR := Lib.hid hR
  have HE := Lib.hid hne
  clear hR hne
  go_enter Try.func130, Try.ntmps130
  go_wp2
  go_loopw [5] (fun i wr => ∃ k : Nat, k ≤ n ∧ i = .int .i64 k ∧ w = wr) (fun i _ => n - (intOf i).toNat)
  case atStart => exact ⟨0, by omega, rfl, rfl⟩
  case round =>
    obtain ⟨k, hk, rfl, rfl⟩ := hrel
    by_cases hlt : k < n
    · obtain ⟨b, o, rfl, hl, hc⟩ := HR.out k hlt
      have he := HE.out k hlt
      go_wp2
      all_goals (try (exfalso; omega))
      go_roundw
      case rel => exact ⟨k + 1, by omega, by go_num, by simp⟩
      case measure => simp [intOf] <;> omega
    · obtain rfl : k = n := by omega
      go_wp2
      all_goals (try (exfalso; omega))
      go_ret
      exact ⟨rfl, rfl⟩
theorem none_to {l : List (List UInt8)} {s : ByteArray} (h : noneOf l s) : ∀ i, i < l.length → ((tx l i).toList == s.toList) = false := fun i hi => by
  have := h l[i] (List.getElem_mem hi)
  unfold tx
  rw [toList_mk, show l.getD i [] = l[i] by simp [List.getD, hi]]
  rw [Bool.eq_false_iff] at this ⊢
  intro e
  apply this
  rw [beq_iff_eq] at e ⊢
  exact e.symm
set_option maxRecDepth 100000 in
set_option maxHeartbeats 4000000 in
theorem name_yes (s : ByteArray) (w : World) (hN : NameP s) : Calls Try.prog 109 #[.string s] w fun e w' => e = .returned (.bool true) ∧ Below w.heap.size w w' := by
  have H := Lib.hid hN
  have l0 := hN.low
  have l1 := hN.high
  clear hN
  go_enter Try.func109, Try.ntmps109
  go_wp2_with fail
  go_loopw [3] (fun i wr => ∃ k : Nat, k ≤ s.size ∧ i = .int .i64 k ∧ w = wr) (fun i _ => s.size - (intOf i).toNat)
  case atStart => exact ⟨0, by omega, rfl, rfl⟩
  case round =>
    obtain ⟨k, hk, rfl, rfl⟩ := hrel
    by_cases hlt : k < s.size
    · have i1 : (0 : Int) ≤ (k : Int) := by omega
      have i2 : (k : Int) < (s.size : Int) := by omega
      obtain ⟨d, hd⟩ : ∃ d, s[k].toNat = d := ⟨_, rfl⟩
      have HOK : Hid (okc k d) := Lib.hid (by rw [← hd]; exact H.out.okc k hlt)
      go_wp2_with fail
      all_goals (try (exfalso; rcases HOK.out with h | ⟨h, h | h⟩ <;> simp_all <;> omega))
      all_goals (
        go_roundw
        case rel => exact ⟨k + 1, by omega, by go_num, by simp⟩
        case measure => simp [intOf] <;> omega)
    · obtain rfl : k = s.size := by omega
      have N1 := Lib.hid (none_to H.out.kinds)
      have N2 := Lib.hid (none_to H.out.attrs)
      have N3 := Lib.hid (none_to H.out.arts)
      have N4 := Lib.hid (none_to H.out.words)
      go_wp2_with (first
        | (go_at_call 131; with_reducible refine (kinds_any _).mono ?_; rintro e w1 ⟨rfl, hr1, hb1⟩)
        | (go_at_call 132; with_reducible refine (attrs_any _).mono ?_; rintro e w2 ⟨rfl, hr2, hb2⟩)
        | (go_at_call 133; with_reducible refine (arts_any _).mono ?_; rintro e w3 ⟨rfl, hr3, hb3⟩)
        | (go_at_call 134; with_reducible refine (words_any _).mono ?_; rintro e w4 ⟨rfl, hr4, hb4⟩)
        | (go_at_call 130; with_reducible refine (in_no _ _ _ _ s _ (by decide) hr1 N1.out).mono ?_; rintro e w1' ⟨rfl, rfl⟩)
        | (go_at_call 130; with_reducible refine (in_no _ _ _ _ s _ (by decide) hr2 N2.out).mono ?_; rintro e w2' ⟨rfl, rfl⟩)
        | (go_at_call 130; with_reducible refine (in_no _ _ _ _ s _ (by decide) hr3 N3.out).mono ?_; rintro e w3' ⟨rfl, rfl⟩)
        | (go_at_call 130; with_reducible refine (in_no _ _ _ _ s _ (by decide) hr4 N4.out).mono ?_; rintro e w4' ⟨rfl, rfl⟩))
      all_goals (try (exfalso; omega))
      go_ret
      exact ⟨rfl, hb1.trans ((hb2.trans ((hb3.trans (hb4.mono hb3.size)).mono hb2.size)).mono hb1.size)⟩
open Classical in
/-- what the reference's Name answers -/
noncomputable def nmB (s : ByteArray) : Bool := decide (NameP s)
theorem nmB_iff {s : ByteArray} : nmB s = true ↔ NameP s := by simp [nmB]
theorem name_det (s : ByteArray) (w : World) (hs : s.size ≤ maxLen) : Calls Try.prog 109 #[.string s] w fun e w' => e = .returned (.bool (nmB s)) ∧ Below w.heap.size w w' := by
  cases h : nmB s
  · refine (name_any s w hs).mono ?_
    rintro e w' ⟨⟨r, rfl, hr⟩, hb⟩
    cases r
    · exact ⟨rfl, hb⟩
    · have := nmB_iff.2 (hr rfl)
      rw [h] at this
      cases this
  · exact name_yes s w (nmB_iff.1 h)
/-- is a text among the first n? -/
def hasB (L : Nat → ByteArray) (n : Nat) (s : ByteArray) : Bool := (List.range n).any fun i => (L i).toList == s.toList
theorem hasB_no {L : Nat → ByteArray} {n : Nat} {s : ByteArray} : hasB L n s = false ↔ ∀ i, i < n → ((L i).toList == s.toList) = false := by
  simp [hasB]
set_option maxHeartbeats 1000000 in
theorem has_det (A : Option Addr) (n c : Nat) (L : Nat → ByteArray) (s : ByteArray) (w : World) (hn : n ≤ 1000) (hR : RS w A n L) :
    Calls Try.prog 110 #[.slice A n c, .string s] w fun e w' => e = .returned (.bool (hasB L n s)) ∧ w' = w := by
  have HR := Lib.hid hR
  clear hR
  go_enter Try.func110, Try.ntmps110
  go_wp2
  go_loopw [5] (fun i wr => ∃ k : Nat, k ≤ n ∧ i = .int .i64 k ∧ (∀ j, j < k → ((L j).toList == s.toList) = false) ∧ w = wr) (fun i _ => n - (intOf i).toNat)
  case atStart => exact ⟨0, by omega, rfl, fun j h => absurd h (by omega), rfl⟩
  case round =>
    obtain ⟨k, hk, rfl, hall, rfl⟩ := hrel
    have HA := Lib.hid hall
    clear hall
    by_cases hlt : k < n
    · obtain ⟨b, o, rfl, hl, hc⟩ := HR.out k hlt
      cases he : ((L k).toList == s.toList)
      · have HE := Lib.hid he
        go_wp2
        all_goals (try (exfalso; omega))
        go_roundw
        case rel => exact ⟨k + 1, by omega, by go_num, all_snoc HA.out HE.out, by simp⟩
        case measure => simp [intOf] <;> omega
      · have hres : Hid (true = hasB L n s) := Lib.hid (by
          cases hb : hasB L n s
          · have := hasB_no.1 hb k hlt
            rw [he] at this
            cases this
          · rfl)
        go_wp2
        all_goals (try (exfalso; omega))
        go_ret
        exact ⟨ret_bool hres.out, rfl⟩
    · obtain rfl : k = n := by omega
      have hres : Hid (false = hasB L k s) := Lib.hid (hasB_no.2 HA.out).symm
      go_wp2
      all_goals (try (exfalso; omega))
      go_ret
      exact ⟨ret_bool hres.out, rfl⟩
end Go.Proofs.Ytkhmlbkkdflnoaa.Nm
