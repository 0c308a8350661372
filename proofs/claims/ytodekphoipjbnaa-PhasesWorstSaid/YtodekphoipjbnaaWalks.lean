/-
  THE WALKS over package phases and its reference.
-/
import Derived.Test.YtodekphoipjbnaaRows
import Derived.Test.YtodekphoipjbnaaPlain
import Derived.WalkKit
import Derived.WalkSpells
import Derived.WalkLawsBesides
import Derived.BigGuardPart
import Derived.Lib.Hide
import Derived.Outline
namespace Go.Proofs.Ytodekphoipjbnaa
open Go.RowKit

theorem ret_bool {a b : Bool} (h : a = b) : Ending.returned (.bool a) = .returned (.bool b) := by rw [h]
theorem ret_int {k : IntKind} {a b : Int} (h : a = b) : Ending.returned (.int k a) = .returned (.int k b) := by rw [h]
theorem ret_two {k l : IntKind} {a b c d : Int} (h : a = b) (g : c = d) : Ending.returned (.tuple #[.int k a, .int l c]) = .returned (.tuple #[.int k b, .int l d]) := by rw [h, g]

theorem cell_new {w : World} {cs : Array Value} {t : TypeId} {B i : Nat} {v : Value} (hB : w.heap.size = B) (hi : cs[i]? = some v) : (w.alloc (.cells cs t)).cell? ⟨B, i, none⟩ = some v := by
  subst hB; simp [hi]
theorem bel_alloc {a w : World} (h : Below a.heap.size a w) (o : Obj) : Below a.heap.size a (w.alloc o) := h.alloc h.size o

/-- the closure of Neutral -/
theorem closN (n t : Int) (B : Nat) (w : World) (h0 : 0 ≤ n) (h1 : n ≤ 1000) (hc : w.cell? ⟨B, 0, none⟩ = some (.int .i64 t)) :
    Calls Try.prog 21 #[.int .i64 n, .pointer (some ⟨B, 0, none⟩)] w fun e w' => e = .returned (.bool (decide (t ≤ 2 * n * n))) ∧ w = w' := by
  have hb : 0 ≤ 2 * n * n := by have := sq_mono (a := 0) (b := n) (by omega) h0; omega
  have hb' : 2 * n * n ≤ 2000000 := sq_mono (b := 1000) h0 h1
  go_enter Try.func21, Try.ntmps21
  go_wp2
  go_ret
  exact ⟨rfl, rfl⟩

set_option maxHeartbeats 400000 in
/-- the search for the least number -/
theorem least_any (t : Int) (B : Nat) (w : World) (ht0 : 0 ≤ t) (ht : t ≤ 2000000) (hc : w.cell? ⟨B, 0, none⟩ = some (.int .i64 t)) :
    Calls Try.prog 20 #[.int .i64 0, .int .i64 1000, .func (.func 21) #[] #[.pointer (some ⟨B, 0, none⟩)]] w
      fun e w' => e = .returned (.int .i64 (root t)) ∧ w = w' := by
  go_enter Try.func20, Try.ntmps20
  go_wp2
  go_loop [0, 1] (fun l h => ∃ lo hi : Int, 0 ≤ lo ∧ lo ≤ hi ∧ hi ≤ 1000 ∧ l = .int .i64 lo ∧ h = .int .i64 hi ∧ Hid (lo = 0 ∨ 2 * (lo - 1) * (lo - 1) < t) ∧ Hid (t ≤ 2 * hi * hi)) (fun l h => (intOf h - intOf l).toNat)
  case atStart => exact ⟨0, 1000, by omega, by omega, by omega, rfl, rfl, .inl rfl, by show t ≤ _; omega⟩
  case round =>
    obtain ⟨lo, hi, h0, h1, h2, rfl, rfl, hl, hh⟩ := hrel
    by_cases hlt : lo < hi
    · go_wp2_with fail
      refine (closN _ t B w (by omega) (by omega) hc).mono ?_
      rintro e w1 ⟨rfl, rfl⟩
      by_cases hk : t ≤ 2 * (lo + (hi - lo) / 2) * (lo + (hi - lo) / 2)
      · have hk' : decide (t ≤ 2 * (lo + (hi - lo) / 2) * (lo + (hi - lo) / 2)) = true := by simpa using hk
        rw [hk']
        have HK := Lib.hid hk
        clear hk hk'
        go_wp2
        go_round
        case rel => exact ⟨lo, lo + (hi - lo) / 2, by omega, by omega, by omega, rfl, rfl, hl, HK⟩
        case measure => simp [intOf]; omega
      · have hk' : decide (t ≤ 2 * (lo + (hi - lo) / 2) * (lo + (hi - lo) / 2)) = false := by simpa using hk
        rw [hk']
        have HK := Lib.hid hk
        clear hk hk'
        go_wp2
        go_round
        case rel => exact ⟨lo + (hi - lo) / 2 + 1, hi, by omega, by omega, by omega, rfl, rfl, .inr (by rw [show lo + (hi - lo) / 2 + 1 - 1 = lo + (hi - lo) / 2 by omega]; have := HK.out; omega), hh⟩
        case measure => simp [intOf]; omega
    · obtain rfl : lo = hi := by omega
      have hr : Hid (root t = lo) := root_eq ⟨h0, hh.out, hl.out⟩
      go_wp2
      go_ret
      exact ⟨ret_int hr.out.symm, rfl⟩

set_option maxHeartbeats 400000 in
theorem squares_any (x y z : Int) (b : Nat) (w : World) (hx : -1000 ≤ x ∧ x ≤ 1000) (hy : -1000 ≤ y ∧ y ≤ 1000) (hz : -1000 ≤ z ∧ z ≤ 1000)
    (c0 : w.cell? ⟨b, 0, none⟩ = some (.int .i64 x)) (c1 : w.cell? ⟨b, 1, none⟩ = some (.int .i64 y)) (c2 : w.cell? ⟨b, 2, none⟩ = some (.int .i64 z)) :
    Calls Try.prog 19 #[.slice (some ⟨b, 0, none⟩) 3 3] w fun e w' => e = .returned (.int .i64 (x * x + y * y + z * z)) ∧ w = w' := by
  have hx0 := sq_nonneg x
  have hy0 := sq_nonneg y
  have hz0 := sq_nonneg z
  have hx1 : x * x ≤ 1000000 := sq_le (m := 1000) hx.1 hx.2
  have hy1 : y * y ≤ 1000000 := sq_le (m := 1000) hy.1 hy.2
  have hz1 : z * z ≤ 1000000 := sq_le (m := 1000) hz.1 hz.2
  go_enter Try.func19, Try.ntmps19
  go_wp2
  refine wp_loop_rounds 4 ?_
  rw [rounds_succ]
  go_wp2
  rw [rounds_succ]
  go_wp2
  rw [rounds_succ]
  go_wp2
  rw [rounds_succ]
  go_wp2
  go_ret
  exact ⟨ret_int (by omega), rfl⟩

set_option maxHeartbeats 400000 in
theorem valid_any (x y z : Int) (b : Nat) (w : World)
    (c0 : w.cell? ⟨b, 0, none⟩ = some (.int .i64 x)) (c1 : w.cell? ⟨b, 1, none⟩ = some (.int .i64 y)) (c2 : w.cell? ⟨b, 2, none⟩ = some (.int .i64 z)) :
    Calls Try.prog 18 #[.slice (some ⟨b, 0, none⟩) 3 3] w fun e w' => e = .returned (.bool (ok3 x y z)) ∧ w = w' := by
  obtain ⟨f, hf0, hf1, hf2⟩ : ∃ f : Nat → Int, f 0 = x ∧ f 1 = y ∧ f 2 = z := ⟨fun i => if i = 0 then x else if i = 1 then y else z, by simp, by simp, by simp⟩
  have hc : ∀ k, k < 3 → w.cell? ⟨b, k, none⟩ = some (.int .i64 (f k)) := by
    intro k hk
    match k, hk with
    | 0, _ => rw [hf0]; exact c0
    | 1, _ => rw [hf1]; exact c1
    | 2, _ => rw [hf2]; exact c2
  have hall : Hid (∀ k, (∀ j, j < k → okA (f j) = true) → k = 3 → ok3 x y z = true) := by
    intro k hj hk
    subst hk
    rw [← hf0, ← hf1, ← hf2]
    simp [ok3, hj 0 (by omega), hj 1 (by omega), hj 2 (by omega)]
  have hno : Hid (∀ k, k < 3 → okA (f k) = false → ok3 x y z = false) := by
    intro k hk h
    rw [← hf0, ← hf1, ← hf2]
    match k, hk with
    | 0, _ => simp [ok3, h]
    | 1, _ => simp [ok3, h]
    | 2, _ => simp [ok3, h]
  have HC := Lib.hid hc
  clear hf0 hf1 hf2 c0 c1 c2 hc
  go_enter Try.func18, Try.ntmps18
  go_wp2
  go_loop [2, 7] (fun r i => ∃ k : Nat, k ≤ 3 ∧ r = .bool false ∧ i = .int .i64 k ∧ Hid (∀ j, j < k → okA (f j) = true)) (fun _ i => 3 - (intOf i).toNat)
  case atStart => exact ⟨0, by omega, rfl, rfl, fun j hj => absurd hj (by omega)⟩
  case round =>
    obtain ⟨k, hk, rfl, rfl, hj⟩ := hrel
    by_cases hlt : k < 3
    · have ck := HC.out k hlt
      by_cases hn : f k < 0
      · have hn' : decide (f k < 0) = true := by simpa using hn
        have hb : Hid (ok3 x y z = false) := hno.out k hlt (by simp [okA]; omega)
        go_wp2
        go_ret
        exact ⟨ret_bool hb.out.symm, rfl⟩
      · have hn' : decide (f k < 0) = false := by simpa using hn
        by_cases hm : 1000 < f k
        · have hb : Hid (ok3 x y z = false) := hno.out k hlt (by simp [okA]; omega)
          go_wp2
          go_ret
          exact ⟨ret_bool hb.out.symm, rfl⟩
        · have hg : Hid (okA (f k) = true) := by show okA (f k) = true; simp [okA]; omega
          go_wp2
          go_round
          case rel => exact ⟨k + 1, by omega, rfl, by go_num, fun j h => (Nat.lt_succ_iff_lt_or_eq.1 h).elim (fun h => hj.out j h) (fun h => h ▸ hg.out)⟩
          case measure => simp [intOf]; omega
    · have hb : Hid (ok3 x y z = true) := hall.out k hj.out (by omega)
      go_wp2
      go_ret
      exact ⟨ret_bool hb.out.symm, rfl⟩

open Classical in
noncomputable def neuN (a b c : Int) : Int := if ok3 a b c = true then root (tw a b c) else 0
def erA (a b c : Int) : Int := if ok3 a b c = true then 0 else 1
def worN (a b c : Int) : Int := if ok3 a b c = true then max a (max b c) else 0

set_option maxHeartbeats 400000 in
theorem neutral_any (a b c : Int) (w : World) :
    Calls Try.prog 11 #[.int .i64 a, .int .i64 b, .int .i64 c] w fun e w' => e = .returned (.tuple #[.int .i64 (neuN a b c), .int .i64 (erA a b c)]) ∧ Below w.heap.size w w' := by
  have hmf : ∀ (fn : Fn) (first cap : Array Value) (w : World), (Instr.makeFunc fn first cap).run Try.prog w = .ok (.func fn first cap) w := fun _ _ _ _ => rfl
  cases hv : ok3 a b c
  · have hN : Hid (0 = neuN a b c ∧ 1 = erA a b c) := by show _ ∧ _; unfold neuN erA; simp [hv]
    have HV := Lib.hid hv
    clear hv
    go_enter Try.func11, Try.ntmps11
    go_wp2_with fail
    refine (valid_any a b c w.heap.size _ (by simp) (by simp) (by simp)).mono ?_
    rintro e w1 ⟨rfl, rfl⟩
    rw [HV.out]
    go_wp2
    go_ret2
    exact ⟨ret_two hN.out.1 hN.out.2, (Below.refl _ _).alloc (Nat.le_refl _) _⟩
  · have hb := ok3_iff.1 hv
    have hN : Hid (root (tw a b c) = neuN a b c ∧ 0 = erA a b c) := by show _ ∧ _; unfold neuN erA; simp [hv]
    have htw : tw a b c ≤ 2000000 := tw_le (lo := 0) (hi := 1000) hb.1 hb.2.1 hb.2.2
    have htw0 := tw_nonneg a b c
    have HV := Lib.hid hv
    clear hv
    obtain ⟨⟨a0, a1⟩, ⟨b0, b1⟩, c0, c1⟩ := hb
    go_enter Try.func11, Try.ntmps11
    go_wp2_with fail
    refine (valid_any a b c w.heap.size _ (by simp) (by simp) (by simp)).mono ?_
    rintro e w1 ⟨rfl, rfl⟩
    rw [HV.out]
    go_wp2_with fail
    refine (squares_any (a - b) (b - c) (c - a) (w.heap.size + 1) _ (by omega) (by omega) (by omega) (by simp) (by simp) (by simp)).mono ?_
    rintro e w1 ⟨rfl, rfl⟩
    rw [show (a - b) * (a - b) + (b - c) * (b - c) + (c - a) * (c - a) = tw a b c from rfl]
    go_wp2_with fail
    refine (least_any (tw a b c) (w.heap.size + 2) _ htw0 htw ?_).mono ?_
    · exact cell_new (by simp) rfl
    rintro e w1 ⟨rfl, rfl⟩
    go_wp2
    go_ret2
    refine ⟨ret_two hN.out.1 hN.out.2, ?_⟩
    exact bel_alloc (bel_alloc (bel_alloc (Below.refl _ _) _) _) _

set_option maxHeartbeats 400000 in
theorem worst_any (a b c : Int) (w : World) :
    Calls Try.prog 13 #[.int .i64 a, .int .i64 b, .int .i64 c] w fun e w' => e = .returned (.tuple #[.int .i64 (worN a b c), .int .i64 (erA a b c)]) ∧ Below w.heap.size w w' := by
  cases hv : ok3 a b c
  · have hN : Hid (0 = worN a b c ∧ 1 = erA a b c) := by show _ ∧ _; unfold worN erA; simp [hv]
    have HV := Lib.hid hv
    clear hv
    go_enter Try.func13, Try.ntmps13
    go_wp2_with fail
    refine (valid_any a b c w.heap.size _ (by simp) (by simp) (by simp)).mono ?_
    rintro e w1 ⟨rfl, rfl⟩
    rw [HV.out]
    go_wp2
    go_ret2
    exact ⟨ret_two hN.out.1 hN.out.2, (Below.refl _ _).alloc (Nat.le_refl _) _⟩
  · have hN : Hid (max a (max b c) = worN a b c ∧ 0 = erA a b c) := by show _ ∧ _; unfold worN erA; simp [hv]
    have HV := Lib.hid hv
    clear hv
    go_enter Try.func13, Try.ntmps13
    go_wp2_with fail
    refine (valid_any a b c w.heap.size _ (by simp) (by simp) (by simp)).mono ?_
    rintro e w1 ⟨rfl, rfl⟩
    rw [HV.out]
    go_wp2
    all_goals go_ret2
    all_goals refine ⟨ret_two (Eq.trans ?_ hN.out.1) hN.out.2, bel_alloc (Below.refl _ _) _⟩
    all_goals grind


set_option maxHeartbeats 400000 in
theorem refCur (x : Int) (w : World) : Calls Try.prog 22 #[.int .i64 x] w fun e w' => e = .returned (.bool (okA x)) ∧ w = w' := by
  by_cases h0 : 0 ≤ x
  · have h0' : decide (0 ≤ x) = true := by simpa using h0
    have hr : Hid (decide (x ≤ 1000) = okA x) := by show _ = _; simp [okA, h0]
    go_enter Try.func22, Try.ntmps22
    go_wp2
    go_ret
    exact ⟨ret_bool hr.out, rfl⟩
  · have h0' : decide (0 ≤ x) = false := by simpa using h0
    have hr : Hid (false = okA x) := by show _ = _; simp [okA, h0]
    go_enter Try.func22, Try.ntmps22
    go_wp2
    go_ret
    exact ⟨ret_bool hr.out, rfl⟩

theorem mul_bd {a b : Int} (ha : 0 ≤ a ∧ a ≤ 1000) (hb : 0 ≤ b ∧ b ≤ 1000) : 0 ≤ a * b ∧ a * b ≤ 1000000 :=
  ⟨Int.mul_nonneg ha.1 hb.1, Int.mul_le_mul ha.2 hb.2 hb.1 (by omega)⟩

set_option maxHeartbeats 400000 in
theorem refSq (a b c : Int) (w : World) (ha : 0 ≤ a ∧ a ≤ 1000) (hb : 0 ≤ b ∧ b ≤ 1000) (hc : 0 ≤ c ∧ c ≤ 1000) :
    Calls Try.prog 23 #[.int .i64 a, .int .i64 b, .int .i64 c] w fun e w' => e = .returned (.int .i64 (a * a + b * b + c * c - a * b - b * c - c * a)) ∧ w = w' := by
  have h1 := mul_bd ha ha
  have h2 := mul_bd hb hb
  have h3 := mul_bd hc hc
  have h4 := mul_bd ha hb
  have h5 := mul_bd hb hc
  have h6 := mul_bd hc ha
  go_enter Try.func23, Try.ntmps23
  go_wp2
  go_ret
  exact ⟨rfl, rfl⟩

set_option maxHeartbeats 400000 in
theorem refNeutral (a b c : Int) (w : World) :
    Calls Try.prog 12 #[.int .i64 a, .int .i64 b, .int .i64 c] w fun e w' => e = .returned (.tuple #[.int .i64 (neuN a b c), .int .i64 (erA a b c)]) ∧ w = w' := by
  cases hv : ok3 a b c
  · have hN : Hid (0 = neuN a b c ∧ 1 = erA a b c) := by show _ ∧ _; unfold neuN erA; simp [hv]
    unfold ok3 at hv
    cases ha : okA a
    · go_enter Try.func12, Try.ntmps12
      go_wp2_with (go_at_call 22; refine (refCur _ _).mono ?_; rintro e w1 ⟨rfl, rfl⟩)
      go_ret2
      exact ⟨ret_two hN.out.1 hN.out.2, rfl⟩
    · cases hb : okA b
      · go_enter Try.func12, Try.ntmps12
        go_wp2_with (go_at_call 22; refine (refCur _ _).mono ?_; rintro e w1 ⟨rfl, rfl⟩)
        go_ret2
        exact ⟨ret_two hN.out.1 hN.out.2, rfl⟩
      · have hc : okA c = false := by simpa [ha, hb] using hv
        go_enter Try.func12, Try.ntmps12
        go_wp2_with (go_at_call 22; refine (refCur _ _).mono ?_; rintro e w1 ⟨rfl, rfl⟩)
        go_ret2
        exact ⟨ret_two hN.out.1 hN.out.2, rfl⟩
  · have hb := ok3_iff.1 hv
    have hN : Hid (root (tw a b c) = neuN a b c ∧ 0 = erA a b c) := by show _ ∧ _; unfold neuN erA; simp [hv]
    have htw : tw a b c ≤ 2000000 := tw_le (lo := 0) (hi := 1000) hb.1 hb.2.1 hb.2.2
    have HQ : Hid (∀ n : Int, n * n < a * a + b * b + c * c - a * b - b * c - c * a ↔ 2 * n * n < tw a b c) := by
      intro n
      have e1 := tw_eq a b c
      have e2 : 2 * n * n = 2 * (n * n) := by rw [Int.mul_assoc]
      omega
    have oa : okA a = true := okA_iff.2 hb.1
    have ob : okA b = true := okA_iff.2 hb.2.1
    have oc : okA c = true := okA_iff.2 hb.2.2
    clear hv
    obtain ⟨⟨a0, a1⟩, ⟨b0, b1⟩, c0, c1⟩ := hb
    go_enter Try.func12, Try.ntmps12
    go_wp2_with (go_at_call 22; refine (refCur _ _).mono ?_; rintro e w1 ⟨rfl, rfl⟩)
    go_loop [8] (fun v => ∃ n : Int, 0 ≤ n ∧ n ≤ 1000 ∧ v = .int .i64 n ∧ Hid (n = 0 ∨ 2 * (n - 1) * (n - 1) < tw a b c)) (fun v => (1000 - intOf v).toNat)
    case atStart => exact ⟨0, by omega, by omega, rfl, .inl rfl⟩
    case round =>
      obtain ⟨n, h0, h1, rfl, hl⟩ := hrel
      have hn := mul_bd ⟨h0, h1⟩ ⟨h0, h1⟩
      by_cases hk : 2 * n * n < tw a b c
      · have hq := (HQ.out n).2 hk
        have hq' : decide (n * n < a * a + b * b + c * c - a * b - b * c - c * a) = true := by simpa using hq
        have hlt : n < 1000 := by
          rcases Int.lt_or_le n 1000 with h | h
          · exact h
          · exfalso
            have := sq_mono (a := 1000) (b := n) (by omega) h
            omega
        have HK := Lib.hid hk
        clear hk hq
        go_wp2_with (go_at_call 23; refine (refSq _ _ _ _ (by omega) (by omega) (by omega)).mono ?_; rintro e w1 ⟨rfl, rfl⟩)
        go_round
        case rel => exact ⟨n + 1, by omega, by omega, rfl, .inr (by rw [show n + 1 - 1 = n by omega]; exact HK.out)⟩
        case measure => simp [intOf]; omega
      · have hq := mt (HQ.out n).1 hk
        have hq' : decide (n * n < a * a + b * b + c * c - a * b - b * c - c * a) = false := by simpa using hq
        have hr : Hid (root (tw a b c) = n) := root_eq ⟨h0, by omega, hl.out⟩
        clear hk hq
        go_wp2_with (go_at_call 23; refine (refSq _ _ _ _ (by omega) (by omega) (by omega)).mono ?_; rintro e w1 ⟨rfl, rfl⟩)
        go_ret2
        exact ⟨ret_two (hr.out.symm.trans hN.out.1) hN.out.2, rfl⟩

set_option maxHeartbeats 400000 in
theorem refWorst (a b c : Int) (w : World) :
    Calls Try.prog 14 #[.int .i64 a, .int .i64 b, .int .i64 c] w fun e w' => e = .returned (.tuple #[.int .i64 (worN a b c), .int .i64 (erA a b c)]) ∧ w = w' := by
  cases hv : ok3 a b c
  · have hN : Hid (0 = worN a b c ∧ 1 = erA a b c) := by show _ ∧ _; unfold worN erA; simp [hv]
    unfold ok3 at hv
    cases ha : okA a
    · go_enter Try.func14, Try.ntmps14
      go_wp2_with (go_at_call 22; refine (refCur _ _).mono ?_; rintro e w1 ⟨rfl, rfl⟩)
      go_ret2
      exact ⟨ret_two hN.out.1 hN.out.2, rfl⟩
    · cases hb : okA b
      · go_enter Try.func14, Try.ntmps14
        go_wp2_with (go_at_call 22; refine (refCur _ _).mono ?_; rintro e w1 ⟨rfl, rfl⟩)
        go_ret2
        exact ⟨ret_two hN.out.1 hN.out.2, rfl⟩
      · have hc : okA c = false := by simpa [ha, hb] using hv
        go_enter Try.func14, Try.ntmps14
        go_wp2_with (go_at_call 22; refine (refCur _ _).mono ?_; rintro e w1 ⟨rfl, rfl⟩)
        go_ret2
        exact ⟨ret_two hN.out.1 hN.out.2, rfl⟩
  · have hb := ok3_iff.1 hv
    have hN : Hid (max a (max b c) = worN a b c ∧ 0 = erA a b c) := by show _ ∧ _; unfold worN erA; simp [hv]
    have oa : okA a = true := okA_iff.2 hb.1
    have ob : okA b = true := okA_iff.2 hb.2.1
    have oc : okA c = true := okA_iff.2 hb.2.2
    clear hv hb
    go_enter Try.func14, Try.ntmps14
    go_wp2_with (go_at_call 22; refine (refCur _ _).mono ?_; rintro e w1 ⟨rfl, rfl⟩)
    all_goals go_ret2
    all_goals refine ⟨ret_two (Eq.trans ?_ hN.out.1) hN.out.2, rfl⟩
    all_goals grind

end Go.Proofs.Ytodekphoipjbnaa
