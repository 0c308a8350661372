/-
  NAMES, third part: the reference's test of a name.
-/
import Derived.Test.YtkhmlbkkdflnoaaNamb
namespace Go.Proofs.Ytkhmlbkkdflnoaa.Nm
open Go.RowKit Go.Proofs.Ytkhmlbkkdflnoaa Go
set_option linter.unusedVariables false
attribute [local go_sem ↓] Go.wp_at_zero Go.wp_at_succ

/-- an answer that is true only where P holds -/
def yesP (P : Prop) (e : Ending) : Prop := ∃ r : Bool, e = .returned (.bool r) ∧ (r = true → P)
theorem yes_no (P : Prop) : yesP P (.returned (.bool false)) := ⟨false, rfl, fun h => by cases h⟩
theorem yes_if {P : Prop} {b : Bool} (h : b = true → P) : yesP P (.returned (.bool b)) := ⟨b, rfl, h⟩
/-- the texts of a list of texts -/
def tx (l : List (List UInt8)) (i : Nat) : ByteArray := ⟨(l.getD i []).toArray⟩
theorem toList_mk (l : List UInt8) : ByteArray.toList ⟨l.toArray⟩ = l := by
  simp
theorem RS_block {w : World} {b : Nat} {t : TypeId} {l : List (List UInt8)} (h : w.heap[b]? = some (.cells (l.map fun k => Value.string ⟨k.toArray⟩).toArray t (0, 0))) : RS w (some ⟨b, 0, none⟩) l.length (tx l) := fun i hi => by
  have hb : b < w.heap.size := (Array.getElem?_eq_some_iff.1 h).1
  refine ⟨b, 0, rfl, hb, ?_⟩
  rw [Nat.zero_add, cell_of_row w _ i _ _ (0, 0) h]
  simp [tx, List.getD, hi]
theorem none_of {l : List (List UInt8)} {s : ByteArray} (h : ∀ i, i < l.length → ((tx l i).toList == s.toList) = false) : noneOf l s := fun k hk => by
  obtain ⟨i, hi, rfl⟩ := List.mem_iff_getElem.1 hk
  have := h i hi
  unfold tx at this
  rw [toList_mk] at this
  rw [show l.getD i [] = l[i] by simp [List.getD, hi]] at this
  rw [Bool.eq_false_iff] at this ⊢
  intro e
  apply this
  rw [beq_iff_eq] at e ⊢
  exact e.symm
theorem kinds_any (w : World) : Calls Try.prog 131 #[] w fun e w' => e = .returned (.slice (some ⟨w.heap.size, 0, none⟩) kK.length kK.length) ∧ RS w' (some ⟨w.heap.size, 0, none⟩) kK.length (tx kK) ∧ Below w.heap.size w w' := by
  go_enter Try.func131, Try.ntmps131
  go_wp2
  go_ret
  exact ⟨rfl, RS_block (heap_alloc_new w _), (Below.refl _ w).alloc (Nat.le_refl _) _⟩
theorem attrs_any (w : World) : Calls Try.prog 132 #[] w fun e w' => e = .returned (.slice (some ⟨w.heap.size, 0, none⟩) kA.length kA.length) ∧ RS w' (some ⟨w.heap.size, 0, none⟩) kA.length (tx kA) ∧ Below w.heap.size w w' := by
  go_enter Try.func132, Try.ntmps132
  go_wp2
  go_ret
  exact ⟨rfl, RS_block (heap_alloc_new w _), (Below.refl _ w).alloc (Nat.le_refl _) _⟩
theorem arts_any (w : World) : Calls Try.prog 133 #[] w fun e w' => e = .returned (.slice (some ⟨w.heap.size, 0, none⟩) kR.length kR.length) ∧ RS w' (some ⟨w.heap.size, 0, none⟩) kR.length (tx kR) ∧ Below w.heap.size w w' := by
  go_enter Try.func133, Try.ntmps133
  go_wp2
  go_ret
  exact ⟨rfl, RS_block (heap_alloc_new w _), (Below.refl _ w).alloc (Nat.le_refl _) _⟩
theorem words_any (w : World) : Calls Try.prog 134 #[] w fun e w' => e = .returned (.slice (some ⟨w.heap.size, 0, none⟩) kW.length kW.length) ∧ RS w' (some ⟨w.heap.size, 0, none⟩) kW.length (tx kW) ∧ Below w.heap.size w w' := by
  go_enter Try.func134, Try.ntmps134
  go_wp2
  go_ret
  exact ⟨rfl, RS_block (heap_alloc_new w _), (Below.refl _ w).alloc (Nat.le_refl _) _⟩
set_option maxRecDepth 100000 in
set_option maxHeartbeats 4000000 in
theorem name_any (s : ByteArray) (w : World) (hs : s.size ≤ maxLen) : Calls Try.prog 109 #[.string s] w fun e w' => yesP (NameP s) e ∧ Below w.heap.size w w' := by
  have hs' : s.size ≤ 9223372036854775807 := by unfold maxLen at hs; omega
  clear hs
  go_enter Try.func109, Try.ntmps109
  go_wp2_with fail
  go_loopw [3] (fun i wr => ∃ k : Nat, k ≤ s.size ∧ i = .int .i64 k ∧ (∀ j (h : j < s.size), j < k → okc j s[j].toNat) ∧ w = wr) (fun i _ => s.size - (intOf i).toNat)
  case atStart => exact ⟨0, by omega, rfl, fun j _ h => absurd h (by omega), rfl⟩
  case round =>
    obtain ⟨k, hk, rfl, hall, rfl⟩ := hrel
    have HA := Lib.hid hall
    clear hall
    by_cases hlt : k < s.size
    · have i1 : (0 : Int) ≤ (k : Int) := by omega
      have i2 : (k : Int) < (s.size : Int) := by omega
      obtain ⟨d, hd⟩ : ∃ d, s[k].toNat = d := ⟨_, rfl⟩
      by_cases hok : okc k d
      · have HOK := Lib.hid hok
        have HN : Hid (∀ j (h : j < s.size), j < k + 1 → okc j s[j].toNat) := Lib.hid fun j h hj => by
          rcases Nat.lt_or_ge j k with h1 | h1
          · exact HA.out j h h1
          · obtain rfl : j = k := by omega
            rw [hd]; exact hok
        clear hok
        go_wp2_with fail
        all_goals (try (exfalso; rcases HOK.out with h | ⟨h, h | h⟩ <;> simp_all <;> omega))
        all_goals (
          go_roundw
          case rel => exact ⟨k + 1, by omega, by go_num, HN.out, by simp⟩
          case measure => simp [intOf] <;> omega)
      · have HOK := Lib.hid hok
        clear hok
        go_wp2_with fail
        all_goals (first
          | (go_ret; exact ⟨yes_no _, Below.refl _ _⟩)
          | (exfalso; apply HOK.out; unfold okc; simp_all <;> omega))
    · obtain rfl : k = s.size := by omega
      have HB := Lib.hid (Below.refl w.heap.size w)
      go_upto_region 8 with (first
        | (go_at_call 131; with_reducible refine (kinds_any _).mono ?_; rintro e w1 ⟨rfl, hr1, hb1⟩)
        | (go_at_call 132; with_reducible refine (attrs_any _).mono ?_; rintro e w2 ⟨rfl, hr2, hb2⟩)
        | (go_at_call 133; with_reducible refine (arts_any _).mono ?_; rintro e w3 ⟨rfl, hr3, hb3⟩)
        | (go_at_call 134; with_reducible refine (words_any _).mono ?_; rintro e w4 ⟨rfl, hr4, hb4⟩)
        | (go_at_call 130; with_reducible refine (in_any _ _ _ _ s _ (by decide) hr1).mono ?_; rintro e w1' ⟨⟨r1, rfl, hn1⟩, rfl⟩)
        | (go_at_call 130; with_reducible refine (in_any _ _ _ _ s _ (by decide) hr2).mono ?_; rintro e w2' ⟨⟨r2, rfl, hn2⟩, rfl⟩)
        | (go_at_call 130; with_reducible refine (in_any _ _ _ _ s _ (by decide) hr3).mono ?_; rintro e w3' ⟨⟨r3, rfl, hn3⟩, rfl⟩)
        | (go_at_call 130; with_reducible refine (in_any _ _ _ _ s _ (by decide) hr4).mono ?_; rintro e w4' ⟨⟨r4, rfl, hn4⟩, rfl⟩))
      · go_wp2
        all_goals (go_ret; exact ⟨yes_no _, hb1⟩)
      · go_wp2
        all_goals (go_ret; exact ⟨yes_no _, hb1.trans (hb2.mono hb1.size)⟩)
      · go_wp2
        all_goals (go_ret; exact ⟨yes_no _, hb1.trans ((hb2.trans (hb3.mono hb2.size)).mono hb1.size)⟩)
      · have HBB : Below w.heap.size w w4' := hb1.trans ((hb2.trans ((hb3.trans (hb4.mono hb3.size)).mono hb2.size)).mono hb1.size)
        have H1 := none_of (hn1 (by omega))
        have H2 := none_of (hn2 (by omega))
        have H3 := none_of (hn3 (by omega))
        have HYes : Hid (r4 < 0 → 1 ≤ s.size → s.size ≤ 12 → NameP s) := Lib.hid fun h l0 l1 => ⟨H1, H2, H3, none_of (hn4 h), l0, l1, fun i hi => HA.out i hi hi⟩
        clear H1 H2 H3 hn1 hn2 hn3 hn4 hr1 hr2 hr3 hr4 hb1 hb2 hb3 hb4
        by_cases h4 : r4 < 0
        · go_wp2
          all_goals (go_ret; first | exact ⟨yes_no _, HBB⟩ | exact ⟨yes_if fun h => HYes.out (by omega) (by omega) (by simp_all <;> omega), HBB⟩)
        · go_wp2
          all_goals (go_ret; first | exact ⟨yes_no _, HBB⟩)
end Go.Proofs.Ytkhmlbkkdflnoaa.Nm
