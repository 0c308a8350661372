/-
  NAMES: what the reference takes for a name is one for the parser (printed by gen_nam.py).
-/
import Derived.Test.YtkhmlbkkdflnoaaMem
import Derived.Laws.DeepStrings4
import Derived.Deep.DeepCutAuto
import Derived.Handy
import Derived.WalkMore
namespace Go.Proofs.Ytkhmlbkkdflnoaa.Nm
open Go.RowKit Go.Proofs.Ytkhmlbkkdflnoaa Go
set_option linter.unusedVariables false
attribute [local go_sem ↓] Go.wp_at_zero Go.wp_at_succ
theorem ret_bool {a b : Bool} (h : a = b) : Ending.returned (.bool a) = .returned (.bool b) := by rw [h]

def kK : List (List UInt8) := [[102, 101, 101, 100, 101, 114], [99, 97, 98, 108, 101], [111, 119, 110, 101, 114], [99, 111, 110, 116, 114, 97, 99, 116], [99, 104, 97, 114, 103, 101, 114], [98, 97, 121], [116, 97, 114, 105, 102, 102]]
def kA : List (List UInt8) := [[108, 105, 109, 105, 116], [110, 101, 117, 116, 114, 97, 108], [102, 117, 115, 101], [116, 104, 101, 114, 109, 97, 108], [102, 114, 111, 109], [97, 116], [112, 104, 97, 115, 101, 115], [97, 109, 112, 115], [102, 97, 108, 108, 98, 97, 99, 107], [111, 119, 110, 101, 114], [99, 97, 114, 100], [114, 97, 110, 107], [99, 104, 97, 114, 103, 101, 114]]
def kR : List (List UInt8) := [[115, 116, 97, 114, 116], [101, 110, 101, 114, 103, 121], [116, 105, 109, 101], [105, 100, 108, 101], [99, 97, 112], [116, 97, 120]]
def kW : List (List UInt8) := [[111, 110], [119, 111, 114, 107], [115, 97, 116, 117, 114, 100, 97, 121], [115, 117, 110, 100, 97, 121], [98, 101, 116, 119, 101, 101, 110], [112, 101, 114], [102, 114, 101, 101]]
/-- a text that is none of a list of texts -/
def noneOf (l : List (List UInt8)) (s : ByteArray) : Prop := ∀ k ∈ l, (s.toList == k) = false
theorem kindOf_no (s : ByteArray) (w : World) (h : noneOf kK s) : Calls Try.prog 159 #[.string s] w fun e w' => e = .returned (.int .i64 0) ∧ w' = w := by
  have e0 : (s.toList == [102, 101, 101, 100, 101, 114]) = false := h _ (by simp [kK])
  have e1 : (s.toList == [99, 97, 98, 108, 101]) = false := h _ (by simp [kK])
  have e2 : (s.toList == [111, 119, 110, 101, 114]) = false := h _ (by simp [kK])
  have e3 : (s.toList == [99, 111, 110, 116, 114, 97, 99, 116]) = false := h _ (by simp [kK])
  have e4 : (s.toList == [99, 104, 97, 114, 103, 101, 114]) = false := h _ (by simp [kK])
  have e5 : (s.toList == [98, 97, 121]) = false := h _ (by simp [kK])
  have e6 : (s.toList == [116, 97, 114, 105, 102, 102]) = false := h _ (by simp [kK])
  clear h
  go_enter Try.func159, Try.ntmps159
  go_wp2
  all_goals (try (exfalso; simp_all; done))
  go_ret
  exact ⟨rfl, rfl⟩
theorem isAttr_no (s : ByteArray) (w : World) (h : noneOf kA s) : Calls Try.prog 156 #[.string s] w fun e w' => e = .returned (.bool false) ∧ w' = w := by
  have e0 : (s.toList == [108, 105, 109, 105, 116]) = false := h _ (by simp [kA])
  have e1 : (s.toList == [110, 101, 117, 116, 114, 97, 108]) = false := h _ (by simp [kA])
  have e2 : (s.toList == [102, 117, 115, 101]) = false := h _ (by simp [kA])
  have e3 : (s.toList == [116, 104, 101, 114, 109, 97, 108]) = false := h _ (by simp [kA])
  have e4 : (s.toList == [102, 114, 111, 109]) = false := h _ (by simp [kA])
  have e5 : (s.toList == [97, 116]) = false := h _ (by simp [kA])
  have e6 : (s.toList == [112, 104, 97, 115, 101, 115]) = false := h _ (by simp [kA])
  have e7 : (s.toList == [97, 109, 112, 115]) = false := h _ (by simp [kA])
  have e8 : (s.toList == [102, 97, 108, 108, 98, 97, 99, 107]) = false := h _ (by simp [kA])
  have e9 : (s.toList == [111, 119, 110, 101, 114]) = false := h _ (by simp [kA])
  have e10 : (s.toList == [99, 97, 114, 100]) = false := h _ (by simp [kA])
  have e11 : (s.toList == [114, 97, 110, 107]) = false := h _ (by simp [kA])
  have e12 : (s.toList == [99, 104, 97, 114, 103, 101, 114]) = false := h _ (by simp [kA])
  clear h
  go_enter Try.func156, Try.ntmps156
  go_wp2
  all_goals (try (exfalso; simp_all; done))
  go_ret
  exact ⟨rfl, rfl⟩
theorem isArticle_no (s : ByteArray) (w : World) (h : noneOf kR s) : Calls Try.prog 157 #[.string s] w fun e w' => e = .returned (.bool false) ∧ w' = w := by
  have e0 : (s.toList == [115, 116, 97, 114, 116]) = false := h _ (by simp [kR])
  have e1 : (s.toList == [101, 110, 101, 114, 103, 121]) = false := h _ (by simp [kR])
  have e2 : (s.toList == [116, 105, 109, 101]) = false := h _ (by simp [kR])
  have e3 : (s.toList == [105, 100, 108, 101]) = false := h _ (by simp [kR])
  have e4 : (s.toList == [99, 97, 112]) = false := h _ (by simp [kR])
  have e5 : (s.toList == [116, 97, 120]) = false := h _ (by simp [kR])
  clear h
  go_enter Try.func157, Try.ntmps157
  go_wp2
  all_goals (try (exfalso; simp_all; done))
  go_ret
  exact ⟨rfl, rfl⟩
theorem isWord_no (s : ByteArray) (w : World) (h : noneOf kW s) : Calls Try.prog 160 #[.string s] w fun e w' => e = .returned (.bool false) ∧ w' = w := by
  have e0 : (s.toList == [111, 110]) = false := h _ (by simp [kW])
  have e1 : (s.toList == [119, 111, 114, 107]) = false := h _ (by simp [kW])
  have e2 : (s.toList == [115, 97, 116, 117, 114, 100, 97, 121]) = false := h _ (by simp [kW])
  have e3 : (s.toList == [115, 117, 110, 100, 97, 121]) = false := h _ (by simp [kW])
  have e4 : (s.toList == [98, 101, 116, 119, 101, 101, 110]) = false := h _ (by simp [kW])
  have e5 : (s.toList == [112, 101, 114]) = false := h _ (by simp [kW])
  have e6 : (s.toList == [102, 114, 101, 101]) = false := h _ (by simp [kW])
  clear h
  go_enter Try.func160, Try.ntmps160
  go_wp2
  all_goals (try (exfalso; simp_all; done))
  go_ret
  exact ⟨rfl, rfl⟩

/-- a byte that a name may have at a place -/
def okc (i c : Nat) : Prop := (97 ≤ c ∧ c ≤ 122) ∨ (i ≠ 0 ∧ ((48 ≤ c ∧ c ≤ 57) ∨ c = 95))
/-- the reference's names -/
structure NameP (s : ByteArray) : Prop where
  kinds : noneOf kK s
  attrs : noneOf kA s
  arts : noneOf kR s
  words : noneOf kW s
  low : 1 ≤ s.size
  high : s.size ≤ 12
  okc : ∀ i (h : i < s.size), okc i s[i].toNat

theorem isKey_no (s : ByteArray) (w : World) (h : NameP s) : Calls Try.prog 155 #[.string s] w fun e w' => e = .returned (.bool false) ∧ w' = w := by
  have H1 := Lib.hid h.kinds
  have H2 := Lib.hid h.attrs
  have H3 := Lib.hid h.arts
  have H4 := Lib.hid h.words
  clear h
  go_enter Try.func155, Try.ntmps155
  go_wp2_with (first
    | (go_at_call 159; with_reducible refine (kindOf_no s _ H1.out).mono ?_; rintro e w1 ⟨rfl, rfl⟩)
    | (go_at_call 156; with_reducible refine (isAttr_no s _ H2.out).mono ?_; rintro e w1 ⟨rfl, rfl⟩)
    | (go_at_call 157; with_reducible refine (isArticle_no s _ H3.out).mono ?_; rintro e w1 ⟨rfl, rfl⟩)
    | (go_at_call 160; with_reducible refine (isWord_no s _ H4.out).mono ?_; rintro e w1 ⟨rfl, rfl⟩))
  go_ret
  exact ⟨rfl, rfl⟩
set_option maxHeartbeats 1000000 in
theorem goodWord_yes (s : ByteArray) (w : World) (h : NameP s) : Calls Try.prog 154 #[.string s] w fun e w' => e = .returned (.bool true) ∧ w' = w := by
  have l0 := h.low
  have l1 := h.high
  have HO : Hid (∀ i (h : i < s.size), okc i s[i].toNat) := Lib.hid h.okc
  clear h
  have i0 : (0 : Int) < (s.size : Int) := by omega
  obtain ⟨c, hc⟩ : ∃ c, s[0].toNat = c := ⟨_, rfl⟩
  have hok := HO.out 0 (by omega)
  have b0 : 97 ≤ c ∧ c ≤ 122 := by
    rcases hok with h | h
    · rw [← hc]; exact h
    · exact absurd rfl h.1
  obtain ⟨b1, b2⟩ := b0
  clear hok
  go_enter Try.func154, Try.ntmps154
  go_wp2
  all_goals (try (exfalso; omega))
  go_loopw [3] (fun i wr => ∃ k : Nat, 1 ≤ k ∧ k ≤ s.size ∧ i = .int .i64 k ∧ w = wr) (fun i _ => s.size - (intOf i).toNat)
  case atStart => exact ⟨1, by omega, by omega, rfl, rfl⟩
  case round =>
    obtain ⟨k, hk1, hk, rfl, rfl⟩ := hrel
    by_cases hlt : k < s.size
    · have i1 : (0 : Int) ≤ (k : Int) := by omega
      have i2 : (k : Int) < (s.size : Int) := by omega
      have hok := HO.out k hlt
      obtain ⟨d, hd⟩ : ∃ d, s[k].toNat = d := ⟨_, rfl⟩
      rw [hd] at hok
      have HOK := Lib.hid hok
      clear hok
      go_wp2
      all_goals (try (exfalso; rcases HOK.out with h | h <;> omega))
      all_goals (try (exfalso; rcases HOK.out with h | ⟨h, h | h⟩ <;> simp_all <;> omega))
      all_goals (
        go_roundw
        case rel => exact ⟨k + 1, by omega, by omega, by go_num, by simp⟩
        case measure => simp [intOf] <;> omega)
    · go_wp2
      all_goals (try (exfalso; omega))
      go_ret
      exact ⟨rfl, rfl⟩
theorem goodName_yes (s : ByteArray) (w : World) (h : NameP s) : Calls Try.prog 152 #[.string s] w fun e w' => e = .returned (.bool true) ∧ w' = w := by
  have H := Lib.hid h
  clear h
  go_enter Try.func152, Try.ntmps152
  go_wp2_with (first
    | (go_at_call 154; with_reducible refine (goodWord_yes s _ H.out).mono ?_; rintro e w1 ⟨rfl, rfl⟩)
    | (go_at_call 155; with_reducible refine (isKey_no s _ H.out).mono ?_; rintro e w1 ⟨rfl, rfl⟩))
  go_ret
  exact ⟨rfl, rfl⟩
end Go.Proofs.Ytkhmlbkkdflnoaa.Nm
