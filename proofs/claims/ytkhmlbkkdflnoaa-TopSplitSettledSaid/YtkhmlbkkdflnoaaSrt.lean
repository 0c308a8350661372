/-
  slices.SortStableFunc over few numbers: the row stays a row of numbers of which each lies in a range; no other block is written.
-/
import Derived.Test.YtkhmlbkkdflnoaaSet
namespace Go.Proofs.Ytkhmlbkkdflnoaa.Sp
open Go.RowKit
set_option linter.unusedVariables false
set_option linter.unusedSimpArgs false
attribute [local go_sem ↓] Go.wp_at_zero Go.wp_at_succ

/-- all blocks but g are as they were -/
structure Kb (g : Nat) (w w' : World) : Prop where
  os : w'.os = w.os
  tape : w'.tape = w.tape
  output : w'.output = w.output
  size : w.heap.size ≤ w'.heap.size
  block : ∀ k, k < w.heap.size → k ≠ g → w'.heap[k]? = w.heap[k]?
theorem Kb.refl (g : Nat) (w : World) : Kb g w w := ⟨rfl, rfl, rfl, Nat.le_refl _, fun _ _ _ => rfl⟩
theorem Kb.trans {g : Nat} {a b c : World} (h : Kb g a b) (k : Kb g b c) : Kb g a c :=
  ⟨k.os.trans h.os, k.tape.trans h.tape, k.output.trans h.output, Nat.le_trans h.size k.size, fun i hi hg => (k.block i (Nat.lt_of_lt_of_le hi h.size) hg).trans (h.block i hi hg)⟩
theorem Kb.drewN {g : Nat} {a b : World} (h : Kb g a b) (n : Nat) : Kb g a (b.drewN n) := ⟨h.os, h.tape, h.output, h.size, h.block⟩
theorem Kb.set {g : Nat} {a b : World} (h : Kb g a b) (s : Nat) (u : Value) : Kb g a (b.setCell ⟨g, s, none⟩ u) :=
  h.trans ⟨rfl, rfl, rfl, by simp [World.setCell], fun k hk hg => Below.heap_setCell _ _ _ _ hg⟩
theorem Kb.cell {g : Nat} {a b : World} (h : Kb g a b) {p : Addr} {v : Value} (hp : p.block ≠ g) (hc : a.cell? p = some v) : b.cell? p = some v :=
  (World.cell?_of_block (w := a) (h.block p.block (World.block_lt_of_cell? a p hc) hp)).trans hc

theorem isNan (x : Int) (w : World) : Calls Try.prog 108 #[.int .i64 x] w fun e w' => e = .returned (.bool false) ∧ w = w' := by
  go_enter Try.func108, Try.ntmps108
  go_wp2
  go_ret
  exact ⟨rfl, rfl⟩
/-- what Compare returns -/
def cmpI (x y : Int) : Int := if x < y then -1 else if y < x then 1 else 0
theorem cmp_any (x y : Int) (w : World) : Calls Try.prog 68 #[.int .i64 x, .int .i64 y] w fun e w' => e = .returned (.int .i64 (cmpI x y)) ∧ w' = w := by
  by_cases h1 : x < y
  · have hr : Hid (-1 = cmpI x y) := by show _ = _; simp [cmpI, h1]
    go_enter Try.func68, Try.ntmps68
    go_wp2_with (go_at_call 108; with_reducible refine (isNan _ _).mono ?_; rintro e w1 ⟨rfl, rfl⟩)
    go_ret
    exact ⟨ret_int hr.out, rfl⟩
  · by_cases h2 : y < x
    · have hr : Hid (1 = cmpI x y) := by show _ = _; simp [cmpI, h1, h2]
      go_enter Try.func68, Try.ntmps68
      go_wp2_with (go_at_call 108; with_reducible refine (isNan _ _).mono ?_; rintro e w1 ⟨rfl, rfl⟩)
      go_ret
      exact ⟨ret_int hr.out, rfl⟩
    · have hr : Hid (0 = cmpI x y) := by show _ = _; simp [cmpI, h1, h2]
      go_enter Try.func68, Try.ntmps68
      go_wp2_with (go_at_call 108; with_reducible refine (isNan _ _).mono ?_; rintro e w1 ⟨rfl, rfl⟩)
      all_goals (try (exfalso; omega))
      go_ret
      exact ⟨ret_int hr.out, rfl⟩

/-- the row g holds n numbers from 0 to n - 1; all else is as in w -/
def SR (w : World) (g n c : Nat) (W : World) : Prop := (∃ z : Nat → Int, OwnR W g n c z ∧ ∀ i, i < n → 0 ≤ z i ∧ z i < n) ∧ Kb g w W
/-- two neighbours exchanged -/
theorem SR.swap {w W : World} {g n c : Nat} {z : Nat → Int} (hO : OwnR W g n c z) (hz : ∀ i, i < n → 0 ≤ z i ∧ z i < n) (hK : Kb g w W) {j k : Nat} (hj : j < n) (hk : k < n) :
    SR w g n c ((W.setCell ⟨g, j, none⟩ (.int .i64 (z k))).setCell ⟨g, k, none⟩ (.int .i64 (z j))) :=
  ⟨⟨_, (hO.write hj (z k)).write hk (z j), fun i hi => by
    show 0 ≤ (if i = k then z j else if i = j then z k else z i) ∧ (if i = k then z j else if i = j then z k else z i) < _
    split
    · exact hz j hj
    · split
      · exact hz k hk
      · exact hz i hi⟩, (hK.set j _).set k _⟩

set_option maxRecDepth 100000 in
set_option maxHeartbeats 2000000 in
theorem ins_sort (g n c a pb : Nat) (cf : Int → Int → Int) (w : World) (ha : a = 0) (hn : n ≤ 7) (hg : g < w.heap.size)
    (hC : ∀ W, Kb g w W → ∀ x y : Int, (0 ≤ x ∧ x < n) → (0 ≤ y ∧ y < n) → Calls Try.prog 67 #[.int .i64 x, .int .i64 y, .pointer (some ⟨pb, 0, none⟩)] W fun e w' => e = .returned (.int .i64 (cf x y)) ∧ ∃ k, w' = W.drewN k)
    (hS : SR w g n c w) :
    Calls Try.prog 128 #[.slice (some ⟨g, 0, none⟩) n c, .int .i64 0, .int .i64 (n : Int), .func (.func 67) #[] #[.pointer (some ⟨pb, 0, none⟩)]] w fun e w' => (∃ v, e = .returned v) ∧ SR w g n c w' := by
  have HC := Lib.hid hC
  have HS := Lib.hid hS
  clear hC hS
  go_enter Try.func128, Try.ntmps128
  go_wp2_with fail
  go_loopw [8] (fun i wr => ∃ k : Nat, (1 ≤ k ∧ k ≤ n + 1) ∧ i = .int .i64 k ∧ SR w g n c wr) (fun i _ => n + 1 - (intOf i).toNat)
  case atStart => exact ⟨1, by omega, rfl, HS.out⟩
  case round =>
    obtain ⟨k, hk, rfl, hr⟩ := hrel
    have HR := Lib.hid hr
    clear hr
    by_cases hlt : k < n
    · go_wp2_with fail
      go_loopw [9] (fun i wr => ∃ j : Nat, j ≤ k ∧ i = .int .i64 j ∧ SR w g n c wr) (fun i _ => (intOf i).toNat)
      case atStart => exact ⟨k, by omega, rfl, HR.out⟩
      case round =>
        obtain ⟨j, hj, rfl, ⟨z, hO, hz⟩, hK⟩ := hrel
        have HK := Lib.hid hK
        have HO := Lib.hid hO
        have HZ := Lib.hid hz
        by_cases h0 : j = 0
        · subst h0
          go_wp2_with fail
          go_quiet (fail)
          go_wp2_with fail
          go_roundw
          case rel => exact ⟨k + 1, by omega, by go_num, ⟨z, HO.out, HZ.out⟩, HK.out.drewN _⟩
          case measure => simp [intOf] <;> omega
        · have jn : j < n := by omega
          have i0 : decide (0 < j) = true := by simp; omega
          have i1 : (0 : Int) ≤ (j : Int) := by omega
          have i2 : (j : Int) < (n : Int) := by omega
          have i3 : (0 : Int) ≤ (j : Int) - 1 := by omega
          have i4 : (j : Int) - 1 < (n : Int) := by omega
          have i5 : ((j : Int) - 1).toNat = j - 1 := by omega
          have c1 := (hO.at jn).1
          have c2 := (hO.at (show j - 1 < n by omega)).1
          have f1 := (hO.at jn).2
          have f2 := (hO.at (show j - 1 < n by omega)).2
          have z1 := hz j jn
          have z2 := hz (j - 1) (by omega)
          have HX := Lib.hid z1
          have HY := Lib.hid z2
          clear hO hz hK z1 z2
          by_cases hc : cf (z j) (z (j - 1)) < 0
          · have HQ := Lib.hid hc
            go_wp2_with fail
            go_quiet ((go_at_call 67; exact Calls.quiet_of (HC.out _ (HK.out.drewN _) _ _ HX.out HY.out)))
            go_wp2_with fail
            have HSW := Lib.hid (SR.swap (HO.out.keep (W' := wr.drewN nq) rfl) HZ.out (HK.out.drewN nq) jn (show j - 1 < n by omega))
            have d1 : (wr.drewN nq).cell? ⟨g, j, none⟩ = some (.int .i64 (z j)) := c1
            have d2 : (wr.drewN nq).cell? ⟨g, j - 1, none⟩ = some (.int .i64 (z (j - 1))) := c2
            have e1 : (wr.drewN nq).frozen? ⟨g, j, none⟩ = false := f1
            have e2 : (wr.drewN nq).frozen? ⟨g, j - 1, none⟩ = false := f2
            obtain ⟨wx, hwx⟩ : ∃ wx, wr.drewN nq = wx := ⟨_, rfl⟩
            rw [hwx] at d1 d2 e1 e2 HSW ⊢
            clear c1 c2 f1 f2 hwx
            have u1 : IntKind.i64.wrap ((j : Int) - 1) = (j : Int) - 1 := IntWalk.i64_in _ (by omega)
            have u2 : (1 : Int) ≤ (j : Int) := by omega
            have e3 : ((wx.drew).setCell ⟨g, j, none⟩ (.int .i64 (z (j - 1)))).frozen? ⟨g, j - 1, none⟩ = false := by
              obtain ⟨cur, hg1, _⟩ := HO.out
              rw [World.frozen?_setCell]
              exact e2
            go_region_law (fail)
            all_goals
              go_wp2_with fail
              go_roundw
              case rel => exact ⟨j - 1, by omega, by go_num, HSW.out.1, HSW.out.2.drewN 1⟩
              case measure => simp [intOf] <;> omega
          · go_wp2_with fail
            go_quiet ((go_at_call 67; exact Calls.quiet_of (HC.out _ (HK.out.drewN _) _ _ HX.out HY.out)))
            go_wp2_with fail
            go_roundw
            case rel => exact ⟨k + 1, by omega, by go_num, ⟨z, HO.out, HZ.out⟩, HK.out.drewN _⟩
            case measure => simp [intOf] <;> omega
    · go_wp2_with fail
      all_goals (try (exfalso; omega))
      go_end0
      exact ⟨⟨_, rfl⟩, HR.out⟩

theorem stable_any (g n c pb : Nat) (cf : Int → Int → Int) (w : World) (hn : n ≤ 7) (hg : g < w.heap.size)
    (hC : ∀ W, Kb g w W → ∀ x y : Int, (0 ≤ x ∧ x < n) → (0 ≤ y ∧ y < n) → Calls Try.prog 67 #[.int .i64 x, .int .i64 y, .pointer (some ⟨pb, 0, none⟩)] W fun e w' => e = .returned (.int .i64 (cf x y)) ∧ ∃ k, w' = W.drewN k)
    (hS : SR w g n c w) :
    Calls Try.prog 107 #[.slice (some ⟨g, 0, none⟩) n c, .int .i64 (n : Int), .func (.func 67) #[] #[.pointer (some ⟨pb, 0, none⟩)]] w fun e w' => (∃ v, e = .returned v) ∧ SR w g n c w' := by
  have HI := Lib.hid (ins_sort g n c 0 pb cf w rfl hn hg hC hS)
  clear hC hS
  go_enter Try.func107, Try.ntmps107
  go_wp2_with fail
  refine wp_loop_rounds 1 ?_
  rw [rounds_succ]
  go_wp2_with (go_at_call 128; with_reducible refine HI.out.mono ?_; rintro e w1 ⟨⟨v, rfl⟩, h1⟩)
  all_goals (try (exfalso; omega))
  have H1 := Lib.hid h1
  clear h1
  refine wp_loop_rounds 1 ?_
  rw [rounds_succ]
  go_wp2_with fail
  all_goals (try (exfalso; omega))
  go_end0
  exact ⟨⟨_, rfl⟩, H1.out⟩
theorem sort_any (g n c pb : Nat) (cf : Int → Int → Int) (w : World) (hn : n ≤ 7) (hg : g < w.heap.size)
    (hC : ∀ W, Kb g w W → ∀ x y : Int, (0 ≤ x ∧ x < n) → (0 ≤ y ∧ y < n) → Calls Try.prog 67 #[.int .i64 x, .int .i64 y, .pointer (some ⟨pb, 0, none⟩)] W fun e w' => e = .returned (.int .i64 (cf x y)) ∧ ∃ k, w' = W.drewN k)
    (hS : SR w g n c w) :
    Calls Try.prog 66 #[.slice (some ⟨g, 0, none⟩) n c, .func (.func 67) #[] #[.pointer (some ⟨pb, 0, none⟩)]] w fun e w' => (∃ v, e = .returned v) ∧ SR w g n c w' := by
  have HI := Lib.hid (stable_any g n c pb cf w hn hg hC hS)
  clear hC hS
  go_enter Try.func66, Try.ntmps66
  go_wp2_with (go_at_call 107; with_reducible refine HI.out.mono ?_; rintro e w1 ⟨⟨v, rfl⟩, h1⟩)
  go_end0
  exact ⟨⟨_, rfl⟩, h1⟩
end Go.Proofs.Ytkhmlbkkdflnoaa.Sp
