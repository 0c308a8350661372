/-
  THE WALKS OF THE LAWS over package bids, first part: the examples, BidsMatchesReference, BidsMean.
-/
import Derived.Test.YtdeeaehdbaoloaaRefb
import Derived.Test.YtdeeaehdbaoloaaPlain
namespace Go.Proofs.Ytdeeaehdbaoloaa
open Go.RowKit
set_option linter.unusedVariables false
attribute [local go_sem ↓] Go.wp_at_zero Go.wp_at_succ

def exL : Nat → Nat := fun _ => 1
def exZ : Nat → Nat → Int := fun i _ => [10, 12, 11, 90, 9, 13, 4].getD i 0
def exP : Nat → Bool := fun i => i == 3
theorem boxed_newAt (W : World) (k : Nat) (t : TypeId) (v : Value) (h : W.heap.size = k) : Boxed (W.alloc (.cells #[v] t)) k t v := by subst h; exact Boxed.new W t v
theorem heap_at (W : World) (k : Nat) (o : Obj) (h : W.heap.size = k) : (W.alloc o).heap[k]? = some o := by subst h; exact heap_alloc_new W o
theorem heap_old {W : World} {k : Nat} {o o' : Obj} (h : W.heap[k]? = some o) : (W.alloc o').heap[k]? = some o := (Below.heap_alloc W o' k (Array.getElem?_eq_some_iff.1 h).1).trans h

set_option maxRecDepth 100000 in
set_option maxHeartbeats 2000000 in
theorem example_any (w : World) : Calls Try.prog 19 #[] w fun e w' => e = .returned (.tuple #[.slice (some ⟨w.heap.size + 7, 0, none⟩) 7 7, .slice (some ⟨w.heap.size + 8, 0, none⟩) 7 7]) ∧ (RM w' (some ⟨w.heap.size + 7, 0, none⟩) 7 exL exZ ∧ RP w' (some ⟨w.heap.size + 8, 0, none⟩) 7 exP) ∧ Below w.heap.size w w' := by
  go_enter Try.func19, Try.ntmps19
  go_wp2
  go_ret2
  refine ⟨rfl, ⟨?_, ?_⟩, ?_⟩
  · intro i hi
    have hrow : ∀ (W : World) (k : Nat) (v : Int), Boxed W k 3 (.int .i64 v) → RZ W (some ⟨k, 0, none⟩) 1 (fun _ => v) := fun W k v hb j hj => by
      obtain rfl : j = 0 := by omega
      exact ⟨k, 0, rfl, hb.lt, hb.cell⟩
    have hc : ∀ (W : World) (g : Nat) (cs : Array Value) (t : TypeId) (j : Nat) (v : Value), W.heap[g]? = some (.cells cs t (0, 0)) → cs[j]? = some v → W.cell? ⟨g, 0 + j, none⟩ = some v := fun W g cs t j v h1 h2 => by rw [Nat.zero_add, cell_of_row W g j cs t (0, 0) h1]; exact h2
    have : i = 0 ∨ i = 1 ∨ i = 2 ∨ i = 3 ∨ i = 4 ∨ i = 5 ∨ i = 6 := by omega
    rcases this with rfl | rfl | rfl | rfl | rfl | rfl | rfl
    all_goals
      refine ⟨w.heap.size + 7, 0, some ⟨_, 0, none⟩, 1, rfl, by simp, hc _ _ _ _ _ _ (by first | exact heap_old (heap_at _ _ _ (by simp)) | exact heap_old (heap_old (heap_at _ _ _ (by simp)))) rfl, by decide, (fun h => by cases h), hrow _ _ _ ?_⟩
      repeat (first | exact boxed_newAt _ _ _ _ (by simp) | apply Boxed.alloc)
  · intro i hi
    have : i = 0 ∨ i = 1 ∨ i = 2 ∨ i = 3 ∨ i = 4 ∨ i = 5 ∨ i = 6 := by omega
    rcases this with rfl | rfl | rfl | rfl | rfl | rfl | rfl
    all_goals
      refine ⟨w.heap.size + 8, 0, rfl, by simp, ?_⟩
      rw [Nat.zero_add, cell_of_row _ _ _ _ _ (0, 0) (heap_at _ _ _ (by simp))]
      rfl
  · repeat (first | exact Below.refl _ _ | apply bel_alloc)

theorem is_any (n e t : Int) (w : World) : Calls Try.prog 20 #[.int .i64 n, .int .i64 e, .int .i64 t] w fun x w' => x = .returned (.bool (e == 0 && n == t)) ∧ w = w' := by
  go_enter Try.func20, Try.ntmps20
  go_wp2
  all_goals go_ret
  all_goals exact ⟨ret_bool (by simp_all), rfl⟩

theorem x_b {A B : Option Addr} (day v e : Int) (w : World) (hR : RM w A 7 exL exZ) (hP : RP w B 7 exP) (h1 : bV 7 7 exL exZ exP day 0 = v) (h2 : bE 7 7 exL exZ exP day 0 = e) :
    Calls Try.prog 11 #[.slice A 7 7, .slice B 7 7, .int .i64 day, .int .i64 0] w fun x w' => x = .returned (.tuple #[.int .i64 v, .int .i64 e]) ∧ Below w.heap.size w w' :=
  (baseline_any A 7 7 exL exZ B 7 7 exP day 0 w (by omega) (by omega) hR hP).mono fun x w' h => ⟨h.1.trans (ret_two h1 h2), h.2⟩
theorem x_d {A B : Option Addr} (day v e : Int) (w : World) (hR : RM w A 7 exL exZ) (hP : RP w B 7 exP) (h1 : dV 7 7 exL exZ exP day = v) (h2 : dE 7 7 exL exZ exP day = e) :
    Calls Try.prog 13 #[.slice A 7 7, .slice B 7 7, .int .i64 day] w fun x w' => x = .returned (.tuple #[.int .i64 v, .int .i64 e]) ∧ Below w.heap.size w w' :=
  (delivered_any A 7 7 exL exZ B 7 7 exP day w (by omega) (by omega) hR hP).mono fun x w' h => ⟨h.1.trans (ret_two h1 h2), h.2⟩

set_option maxRecDepth 100000 in
set_option maxHeartbeats 2000000 in
theorem head_any (w : World) : Calls Try.prog 9 #[] w fun e w' => e = .returned (.bool true) ∧ Below w.heap.size w w' := by
  go_enter Try.func9, Try.ntmps9
  go_wp2_with fail
  with_reducible refine (example_any _).mono ?_
  rintro e w1 ⟨rfl, ⟨hR, hP⟩, h0⟩
  have HR := Lib.hid hR
  have HP := Lib.hid hP
  clear hR hP
  go_wp2_with fail
  with_reducible refine (x_b 6 11 0 _ HR.out HP.out (by decide +kernel) (by decide +kernel)).mono ?_
  rintro e w2 ⟨rfl, hb⟩
  have h1 : Below w1.heap.size w1 w2 := hb
  clear hb
  go_wp2_with fail
  with_reducible refine (x_d 6 7 0 _ (HR.out.keep h1) (HP.out.keep h1) (by decide +kernel) (by decide +kernel)).mono ?_
  rintro e w3 ⟨rfl, hb⟩
  have h1 := bel_step h1 hb
  clear hb
  go_wp2_with fail
  with_reducible refine (x_b 4 0 4 _ (HR.out.keep h1) (HP.out.keep h1) (by decide +kernel) (by decide +kernel)).mono ?_
  rintro e w4 ⟨rfl, hb⟩
  have h1 := bel_step h1 hb
  clear hb
  go_wp2_with fail
  with_reducible refine (x_b 7 9 0 _ (HR.out.keep h1) (HP.out.keep h1) (by decide +kernel) (by decide +kernel)).mono ?_
  rintro e w5 ⟨rfl, hb⟩
  have h1 := bel_step h1 hb
  clear hb
  go_wp2_with fail
  with_reducible refine (x_d 7 0 1 _ (HR.out.keep h1) (HP.out.keep h1) (by decide +kernel) (by decide +kernel)).mono ?_
  rintro e w6 ⟨rfl, hb⟩
  have h1 := bel_step h1 hb
  clear hb
  go_wp2_with (go_at_call 20; refine (is_any _ _ _ _).mono ?_; rintro e w7 ⟨rfl, rfl⟩)
  go_ret
  exact ⟨rfl, bel_step h0 h1⟩

/-- usable -/
def uB (n m : Nat) (L : Nat → Nat) (z : Nat → Nat → Int) : Bool := fwB n m L && (vd n m L z && decide (0 < n))
theorem uB_iff {n m : Nat} {L : Nat → Nat} {z : Nat → Nat → Int} : uB n m L z = true ↔ vd n m L z = true ∧ 0 < n := by
  simp only [uB, Bool.and_eq_true, decide_eq_true_eq]
  constructor
  · exact fun h => h.2
  · intro h
    have hv := vd_iff.1 h.1
    exact ⟨fwB_iff.2 ⟨fun i hi => by have := (hv.2 i hi).1; omega, by omega, by omega⟩, h⟩

set_option maxRecDepth 100000 in
set_option maxHeartbeats 2000000 in
theorem usable_any (A : Option Addr) (n c : Nat) (L : Nat → Nat) (z : Nat → Nat → Int) (B : Option Addr) (m d : Nat) (w : World) (hn : n ≤ 9223372036854775807) (hm : m ≤ 9223372036854775807) (hR : RM w A n L z) :
    Calls Try.prog 15 #[.slice A n c, .slice B m d] w fun e w' => e = .returned (.bool (uB n m L z)) ∧ Below w.heap.size w w' := by
  have HR := Lib.hid hR
  clear hR
  cases hf : fwB n m L
  · have hr : Hid (false = uB n m L z) := by show _ = _; simp [uB, hf]
    go_enter Try.func15, Try.ntmps15
    go_wp2_with fail
    with_reducible refine (few_any A n c L z B m d w hn hm HR.out).mono ?_
    rintro e w1 ⟨rfl, rfl⟩
    rw [hf]
    go_wp2_with fail
    go_ret
    exact ⟨ret_bool hr.out, Below.refl _ _⟩
  · cases hv : vd n m L z
    · have hr : Hid (false = uB n m L z) := by show _ = _; simp [uB, hv]
      go_enter Try.func15, Try.ntmps15
      go_wp2_with fail
      with_reducible refine (few_any A n c L z B m d w hn hm HR.out).mono ?_
      rintro e w1 ⟨rfl, rfl⟩
      rw [hf]
      go_wp2_with fail
      with_reducible refine (rvalid A n c L z B m d w hn hm HR.out).mono ?_
      rintro e w1 ⟨rfl, hb⟩
      rw [hv]
      go_wp2_with fail
      go_ret
      exact ⟨ret_bool hr.out, hb⟩
    · have hr : Hid (decide ((0 : Int) < (n : Int)) = uB n m L z) := by show _ = _; simp [uB, hf, hv]
      go_enter Try.func15, Try.ntmps15
      go_wp2_with fail
      with_reducible refine (few_any A n c L z B m d w hn hm HR.out).mono ?_
      rintro e w1 ⟨rfl, rfl⟩
      rw [hf]
      go_wp2_with fail
      with_reducible refine (rvalid A n c L z B m d w hn hm HR.out).mono ?_
      rintro e w1 ⟨rfl, hb⟩
      rw [hv]
      rcases Nat.eq_zero_or_pos n with h0 | h0
      · subst h0
        go_wp2_with fail
        go_ret
        exact ⟨ret_bool (by rw [← hr.out]; rfl), hb⟩
      · have e1 : decide ((0 : Int) < (n : Int)) = true := by simp; omega
        go_wp2_with fail
        go_ret
        exact ⟨ret_bool (by rw [← hr.out]; exact e1.symm), hb⟩

set_option maxRecDepth 100000 in
set_option maxHeartbeats 2000000 in
theorem counts_any (B : Option Addr) (m c : Nat) (p : Nat → Bool) (i D : Nat) (w : World) (hi : i < m) (hD : D ≤ m) (hm : m ≤ 100) (hP : RP w B m p) :
    Calls Try.prog 16 #[.slice B m c, .int .i64 (i : Int), .int .i64 (D : Int)] w fun e w' => e = .returned (.bool (ctB p i D)) ∧ w = w' := by
  have HP := Lib.hid hP
  clear hP
  by_cases h1 : i < D
  · obtain ⟨b, o, rfl, hb, hc⟩ := HP.out i hi
    have e1 : decide ((D : Int) ≤ (i : Int)) = false := by simp; omega
    have i1 : (i : Int) < (m : Int) := by omega
    cases hp : p i
    · have hr : Hid (ctB p i D = decide ((ds p D).length - (ds p (i + 1)).length < 5)) := by show _ = _; simp [ctB, h1, hp]
      rw [hp] at hc
      go_enter Try.func16, Try.ntmps16
      go_wp2_with fail
      all_goals (try (exfalso; omega))
      clear hc
      go_loop [7, 8] (fun t k => ∃ q : Nat, i + 1 ≤ q ∧ q ≤ D ∧ k = .int .i64 q ∧ t = .int .i64 (((ds p q).length - (ds p (i + 1)).length : Nat) : Int)) (fun _ k => D - (intOf k).toNat)
      case atStart => exact ⟨i + 1, Nat.le_refl _, by omega, by go_num, by simp⟩
      case round =>
        obtain ⟨q, hq1, hq2, rfl, rfl⟩ := hrel
        have hl := ds_len p q
        have hmo := ds_mono p hq1
        by_cases hlt : q < D
        · obtain ⟨b', o', e', hb', hc'⟩ := HP.out q (by omega)
          cases e'
          have i2 : (q : Int) < (m : Int) := by omega
          obtain ⟨T, hT⟩ : ∃ T, (ds p q).length - (ds p (i + 1)).length = T := ⟨_, rfl⟩
          have hTb : T ≤ 100 := by omega
          cases hpq : p q
          · have HS : Hid ((ds p (q + 1)).length - (ds p (i + 1)).length = T + 1) := by show _ = _; rw [ds_succ_hit hpq, List.length_cons]; omega
            rw [hpq] at hc'
            rw [hT]
            clear hT
            go_wp2_with fail
            all_goals (try (exfalso; omega))
            go_round
            case rel => exact ⟨q + 1, by omega, by omega, by go_num, by rw [HS.out]; go_num⟩
            case measure => simp [intOf] <;> omega
          · have HS : Hid ((ds p (q + 1)).length - (ds p (i + 1)).length = T) := by show _ = _; rw [ds_succ_miss hpq]; exact hT
            rw [hpq] at hc'
            rw [hT]
            clear hT
            go_wp2_with fail
            all_goals (try (exfalso; omega))
            go_round
            case rel => exact ⟨q + 1, by omega, by omega, by go_num, by rw [HS.out]⟩
            case measure => simp [intOf] <;> omega
        · obtain rfl : q = D := by omega
          obtain ⟨T, hT⟩ : ∃ T, (ds p q).length - (ds p (i + 1)).length = T := ⟨_, rfl⟩
          have HT := Lib.hid hT
          rw [hT]
          clear hT
          go_wp2_with fail
          all_goals (try (exfalso; omega))
          go_ret
          exact ⟨ret_bool (by rw [hr.out, HT.out]; simp; omega), rfl⟩
    · have hr : Hid (true = !ctB p i D) := by show _ = _; simp [ctB, hp]
      rw [hp] at hc
      go_enter Try.func16, Try.ntmps16
      go_wp2_with fail
      all_goals (try (exfalso; omega))
      go_ret
      exact ⟨ret_bool (by have := hr.out; simpa using this), rfl⟩
  · have hr : Hid (false = ctB p i D) := by show _ = _; simp [ctB, h1]
    have e1 : decide ((D : Int) ≤ (i : Int)) = true := by simp; omega
    go_enter Try.func16, Try.ntmps16
    go_wp2_with fail
    all_goals (try (exfalso; omega))
    go_ret
    exact ⟨ret_bool hr.out, rfl⟩

set_option maxRecDepth 100000 in
set_option maxHeartbeats 2000000 in
theorem walk_matches (A : Option Addr) (n c : Nat) (L : Nat → Nat) (z : Nat → Nat → Int) (B : Option Addr) (m d : Nat) (p : Nat → Bool) (day slot : Int) (w : World) (hn : n ≤ 9223372036854775807) (hm : m ≤ 9223372036854775807) (hR : RM w A n L z) (hP : RP w B m p) :
    Calls Try.prog 3 #[.slice A n c, .slice B m d, .int .i64 day, .int .i64 slot] w fun e w' => e = .returned (.bool true) ∧ Below w.heap.size w w' := by
  have HR := Lib.hid hR
  have HP := Lib.hid hP
  clear hR hP
  go_enter Try.func3, Try.ntmps3
  go_wp2_with fail
  with_reducible refine (head_any _).mono ?_
  rintro e w1 ⟨rfl, h⟩
  go_wp2_with fail
  with_reducible refine (few_any A n c L z B m d _ hn hm (HR.out.keep h)).mono ?_
  rintro e w2 ⟨rfl, rfl⟩
  cases hf : fwB n m L
  · go_wp2_with fail
    go_ret
    exact ⟨rfl, h⟩
  · go_wp2_with fail
    with_reducible refine (baseline_any A n c L z B m d p day slot _ hn hm (HR.out.keep h) (HP.out.keep h)).mono ?_
    rintro e w3 ⟨rfl, hb⟩
    have h := bel_step h hb
    clear hb
    go_wp2_with fail
    with_reducible refine (rbaseline A n c L z B m d p day slot _ hn hm (HR.out.keep h) (HP.out.keep h)).mono ?_
    rintro e w4 ⟨rfl, hb⟩
    have h := bel_step h hb
    clear hb
    go_wp2_with fail
    with_reducible refine (delivered_any A n c L z B m d p day _ hn hm (HR.out.keep h) (HP.out.keep h)).mono ?_
    rintro e w5 ⟨rfl, hb⟩
    have h := bel_step h hb
    clear hb
    go_wp2_with fail
    with_reducible refine (rdelivered A n c L z B m d p day _ hn hm (HR.out.keep h) (HP.out.keep h)).mono ?_
    rintro e w6 ⟨rfl, hb⟩
    have h := bel_step h hb
    clear hb
    go_wp2_with fail
    go_ret
    exact ⟨rfl, h⟩
end Go.Proofs.Ytdeeaehdbaoloaa
