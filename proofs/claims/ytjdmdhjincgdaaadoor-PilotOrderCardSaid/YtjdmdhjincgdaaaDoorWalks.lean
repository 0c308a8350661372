/-
  THE WALKS over package pilot and its laws: what each function returns, for every number, in every world that holds the table of parts.
-/
import Derived.Test.YtjdmdhjincgdaaaDoorRows
import Derived.WalkKit
import Derived.WalkSpells
import Derived.WalkLawsBesides
import Derived.BigGuardPart
import Derived.Lib.Hide
import Derived.Outline
namespace Go.Proofs.YtjdmdhjincgdaaaDoor
open Go.RowKit

/-- the sixteen numbers of the table -/
def tb (i : Nat) : Int := [0, 0, 1000, 1000, 6, 51, 100, 850, 52, 52, 851, 851, 53, 80, 852, 960].getD i 0
/-- the world holds the table of parts -/
def Tab (w : World) : Prop := 0 < w.heap.size ∧ ∀ i, i < 16 → w.cell? ⟨0, i, none⟩ = some (.int .i64 (tb i))
theorem Tab.keep {w w' : World} (h : Tab w) (hb : Below w.heap.size w w') : Tab w' :=
  ⟨Nat.lt_of_lt_of_le h.1 hb.size, fun i hi => (hb.cell (p := ⟨0, i, none⟩) h.1).trans (h.2 i hi)⟩
theorem Tab.alloc {w : World} (h : Tab w) (o : Obj) : Tab (w.alloc o) := h.keep ((Below.refl _ _).alloc (Nat.le_refl _) _)

/-- does part k hold a number by its columns c and c + 1 -/
def hit (c : Nat) (x : Int) (k : Nat) : Bool := decide (tb (k * 4 + c) ≤ x) && decide (x ≤ tb (k * 4 + (c + 1)))
/-- the first part that holds it -/
def which (c : Nat) (x : Int) : Int := if hit c x 0 then 0 else if hit c x 1 then 1 else if hit c x 2 then 2 else if hit c x 3 then 3 else -1

theorem ret_bool {a b : Bool} (h : a = b) : Ending.returned (.bool a) = .returned (.bool b) := by rw [h]

set_option maxHeartbeats 400000 in
theorem closD (x a b c d : Int) (B : Nat) (w : World) (hB : B < w.heap.size) (hc : w.cell? ⟨B, 0, none⟩ = some (.int .i64 x)) :
    Calls Tryd.prog 19 #[.agg #[.int .i64 a, .int .i64 b, .int .i64 c, .int .i64 d], .pointer (some ⟨B, 0, none⟩)] w
      fun e w' => e = .returned (.bool (decide (a ≤ x) && decide (x ≤ b))) ∧ Below w.heap.size w w' := by
  by_cases h1 : a ≤ x
  · have h1' : decide (a ≤ x) = true := by simpa using h1
    go_enter Tryd.func19, Tryd.ntmps19
    go_wp2
    go_ret
    exact ⟨ret_bool (by first | rfl | (rw [h1']; simp)), (Below.refl _ _).alloc (Nat.le_refl _) _⟩
  · have h1' : decide (a ≤ x) = false := by simpa using h1
    go_enter Tryd.func19, Tryd.ntmps19
    go_wp2
    go_ret
    exact ⟨ret_bool (by first | rfl | (rw [h1']; simp)), (Below.refl _ _).alloc (Nat.le_refl _) _⟩

set_option maxHeartbeats 400000 in
theorem closA (x a b c d : Int) (B : Nat) (w : World) (hB : B < w.heap.size) (hc : w.cell? ⟨B, 0, none⟩ = some (.int .i64 x)) :
    Calls Tryd.prog 21 #[.agg #[.int .i64 a, .int .i64 b, .int .i64 c, .int .i64 d], .pointer (some ⟨B, 0, none⟩)] w
      fun e w' => e = .returned (.bool (decide (c ≤ x) && decide (x ≤ d))) ∧ Below w.heap.size w w' := by
  by_cases h1 : c ≤ x
  · have h1' : decide (c ≤ x) = true := by simpa using h1
    go_enter Tryd.func21, Tryd.ntmps21
    go_wp2
    go_ret
    exact ⟨ret_bool (by first | rfl | (rw [h1']; simp)), (Below.refl _ _).alloc (Nat.le_refl _) _⟩
  · have h1' : decide (c ≤ x) = false := by simpa using h1
    go_enter Tryd.func21, Tryd.ntmps21
    go_wp2
    go_ret
    exact ⟨ret_bool (by first | rfl | (rw [h1']; simp)), (Below.refl _ _).alloc (Nat.le_refl _) _⟩

theorem ret_int {k : IntKind} {a b : Int} (h : a = b) : Ending.returned (.int k a) = .returned (.int k b) := by rw [h]
theorem which_at {c : Nat} {x : Int} {k : Nat} (hk : k < 4) (hno : ∀ j, j < k → hit c x j = false) (hh : hit c x k = true) : (k : Int) = which c x := by
  unfold which
  match k, hk with
  | 0, _ => simp [hh]
  | 1, _ => simp [hh, hno 0 (by omega)]
  | 2, _ => simp [hh, hno 0 (by omega), hno 1 (by omega)]
  | 3, _ => simp [hh, hno 0 (by omega), hno 1 (by omega), hno 2 (by omega)]
theorem which_none {c : Nat} {x : Int} (hno : ∀ j, j < 4 → hit c x j = false) : -1 = which c x := by
  unfold which
  simp [hno 0 (by omega), hno 1 (by omega), hno 2 (by omega), hno 3 (by omega)]

set_option maxHeartbeats 400000 in
theorem findD (x : Int) (B : Nat) (w : World) (hT : Tab w) (hB : B < w.heap.size) (hc : w.cell? ⟨B, 0, none⟩ = some (.int .i64 x)) :
    Calls Tryd.prog 18 #[.func (.func 19) #[] #[.pointer (some ⟨B, 0, none⟩)]] w
      fun e w' => e = .returned (.int .i64 (which 0 x)) ∧ Below w.heap.size w w' := by
  go_enter Tryd.func18, Tryd.ntmps18
  go_wp2
  go_loopw [2, 4] (fun r i wr => ∃ k : Nat, k ≤ 4 ∧ r = .int .i64 0 ∧ i = .int .i64 k ∧ Hid (∀ j, j < k → hit 0 x j = false) ∧ Below w.heap.size w wr) (fun _ i _ => 4 - (intOf i).toNat)
  case atStart => exact ⟨0, by omega, rfl, rfl, fun j hj => absurd hj (by omega), Below.refl _ _⟩
  case round =>
    obtain ⟨k, hk, rfl, rfl, hno, hb⟩ := hrel
    by_cases hlt : k < 4
    · have hT' := hT.keep hb
      have c0 := hT'.2 (k * 4) (by omega)
      have c1 := hT'.2 (k * 4 + 1) (by omega)
      have c2 := hT'.2 (k * 4 + 2) (by omega)
      have c3 := hT'.2 (k * 4 + 3) (by omega)
      have hc' : wr.cell? ⟨B, 0, none⟩ = some (.int .i64 x) := (hb.cell (p := ⟨B, 0, none⟩) hB).trans hc
      have hB' : B < wr.heap.size := Nat.lt_of_lt_of_le hB hb.size
      go_wp2_with fail
      refine (closD x _ _ _ _ B wr hB' hc').mono ?_
      rintro e w1 ⟨rfl, hb1⟩
      have hb2 := hb.trans (hb1.mono hb.size)
      cases hh : hit 0 x k
      · have hh' : (decide (tb (k * 4) ≤ x) && decide (x ≤ tb (k * 4 + 1))) = false := hh
        rw [hh']
        have HH := Lib.hid hh
        clear hh hh' c0 c1 c2 c3
        go_wp2
        go_roundw
        case rel => exact ⟨k + 1, by omega, rfl, by go_num, fun j hj => (Nat.lt_succ_iff_lt_or_eq.1 hj).elim (fun h => hno.out j h) (fun h => h ▸ HH.out), hb2⟩
        case measure => simp [intOf]; omega
      · have hh' : (decide (tb (k * 4) ≤ x) && decide (x ≤ tb (k * 4 + 1))) = true := hh
        rw [hh']
        have HH := Lib.hid hh
        clear hh hh' c0 c1 c2 c3
        go_wp2
        go_ret
        exact ⟨ret_int (which_at hlt hno.out HH.out), hb2⟩
    · go_wp2
      go_ret
      exact ⟨ret_int (which_none (fun j hj => hno.out j (by omega))), hb⟩

set_option maxHeartbeats 400000 in
theorem findA (x : Int) (B : Nat) (w : World) (hT : Tab w) (hB : B < w.heap.size) (hc : w.cell? ⟨B, 0, none⟩ = some (.int .i64 x)) :
    Calls Tryd.prog 18 #[.func (.func 21) #[] #[.pointer (some ⟨B, 0, none⟩)]] w
      fun e w' => e = .returned (.int .i64 (which 2 x)) ∧ Below w.heap.size w w' := by
  go_enter Tryd.func18, Tryd.ntmps18
  go_wp2
  go_loopw [2, 4] (fun r i wr => ∃ k : Nat, k ≤ 4 ∧ r = .int .i64 0 ∧ i = .int .i64 k ∧ Hid (∀ j, j < k → hit 2 x j = false) ∧ Below w.heap.size w wr) (fun _ i _ => 4 - (intOf i).toNat)
  case atStart => exact ⟨0, by omega, rfl, rfl, fun j hj => absurd hj (by omega), Below.refl _ _⟩
  case round =>
    obtain ⟨k, hk, rfl, rfl, hno, hb⟩ := hrel
    by_cases hlt : k < 4
    · have hT' := hT.keep hb
      have c0 := hT'.2 (k * 4) (by omega)
      have c1 := hT'.2 (k * 4 + 1) (by omega)
      have c2 := hT'.2 (k * 4 + 2) (by omega)
      have c3 := hT'.2 (k * 4 + 3) (by omega)
      have hc' : wr.cell? ⟨B, 0, none⟩ = some (.int .i64 x) := (hb.cell (p := ⟨B, 0, none⟩) hB).trans hc
      have hB' : B < wr.heap.size := Nat.lt_of_lt_of_le hB hb.size
      go_wp2_with fail
      refine (closA x _ _ _ _ B wr hB' hc').mono ?_
      rintro e w1 ⟨rfl, hb1⟩
      have hb2 := hb.trans (hb1.mono hb.size)
      cases hh : hit 2 x k
      · have hh' : (decide (tb (k * 4 + 2) ≤ x) && decide (x ≤ tb (k * 4 + 3))) = false := hh
        rw [hh']
        have HH := Lib.hid hh
        clear hh hh' c0 c1 c2 c3
        go_wp2
        go_roundw
        case rel => exact ⟨k + 1, by omega, rfl, by go_num, fun j hj => (Nat.lt_succ_iff_lt_or_eq.1 hj).elim (fun h => hno.out j h) (fun h => h ▸ HH.out), hb2⟩
        case measure => simp [intOf]; omega
      · have hh' : (decide (tb (k * 4 + 2) ≤ x) && decide (x ≤ tb (k * 4 + 3))) = true := hh
        rw [hh']
        have HH := Lib.hid hh
        clear hh hh' c0 c1 c2 c3
        go_wp2
        go_ret
        exact ⟨ret_int (which_at hlt hno.out HH.out), hb2⟩
    · go_wp2
      go_ret
      exact ⟨ret_int (which_none (fun j hj => hno.out j (by omega))), hb⟩

/-- what the two functions return, and what their errors are -/
def duN (x : Int) : Int := if x = 0 then 1000 else if 6 ≤ x ∧ x ≤ 51 then (x * 1000 + 59) / 60 else if x = 52 then 851 else if 53 ≤ x ∧ x ≤ 80 then 4 * x + 640 else 0
def duE (x : Int) : Int := if x = 0 ∨ (6 ≤ x ∧ x ≤ 80) then 0 else 3
def amN (d : Int) : Int := if 100 ≤ d ∧ d ≤ 850 then d * 60 / 1000 else if 851 ≤ d ∧ d ≤ 960 then (d - 640) / 4 else 0
def amE (d : Int) : Int := if 0 ≤ d ∧ d ≤ 1000 then 0 else 1

theorem which0 (x : Int) : (which 0 x = 0 ∧ x = 0) ∨ (which 0 x = 1 ∧ 6 ≤ x ∧ x ≤ 51) ∨ (which 0 x = 2 ∧ x = 52) ∨ (which 0 x = 3 ∧ 53 ≤ x ∧ x ≤ 80) ∨ (which 0 x = -1 ∧ x ≠ 0 ∧ ¬ (6 ≤ x ∧ x ≤ 80)) := by
  have e0 : hit 0 x 0 = decide (0 ≤ x ∧ x ≤ 0) := by simp [hit, tb]
  have e1 : hit 0 x 1 = decide (6 ≤ x ∧ x ≤ 51) := by simp [hit, tb]
  have e2 : hit 0 x 2 = decide (52 ≤ x ∧ x ≤ 52) := by simp [hit, tb]
  have e3 : hit 0 x 3 = decide (53 ≤ x ∧ x ≤ 80) := by simp [hit, tb]
  unfold which
  rw [e0, e1, e2, e3]
  simp only [decide_eq_true_eq]
  split
  · omega
  · split
    · omega
    · split
      · omega
      · split <;> omega
theorem which2 (x : Int) : (which 2 x = 0 ∧ x = 1000) ∨ (which 2 x = 1 ∧ 100 ≤ x ∧ x ≤ 850) ∨ (which 2 x = 2 ∧ x = 851) ∨ (which 2 x = 3 ∧ 852 ≤ x ∧ x ≤ 960) ∨ (which 2 x = -1 ∧ x ≠ 1000 ∧ ¬ (100 ≤ x ∧ x ≤ 960)) := by
  have e0 : hit 2 x 0 = decide (1000 ≤ x ∧ x ≤ 1000) := by simp [hit, tb]
  have e1 : hit 2 x 1 = decide (100 ≤ x ∧ x ≤ 850) := by simp [hit, tb]
  have e2 : hit 2 x 2 = decide (851 ≤ x ∧ x ≤ 851) := by simp [hit, tb]
  have e3 : hit 2 x 3 = decide (852 ≤ x ∧ x ≤ 960) := by simp [hit, tb]
  unfold which
  rw [e0, e1, e2, e3]
  simp only [decide_eq_true_eq]
  split
  · omega
  · split
    · omega
    · split
      · omega
      · split <;> omega

theorem ret_two {k l : IntKind} {a b c d : Int} (h : a = b) (g : c = d) : Ending.returned (.tuple #[.int k a, .int l c]) = .returned (.tuple #[.int k b, .int l d]) := by rw [h, g]

set_option maxHeartbeats 400000 in
theorem duty_any (x : Int) (w : World) (hT : Tab w) :
    Calls Tryd.prog 10 #[.int .i64 x] w fun e w' => e = .returned (.tuple #[.int .i64 (duN x), .int .i64 (duE x)]) ∧ Below w.heap.size w w' := by
  have hmf : ∀ (fn : Fn) (first cap : Array Value) (w : World), (Instr.makeFunc fn first cap).run Tryd.prog w = .ok (.func fn first cap) w := fun _ _ _ _ => rfl
  have hw := which0 x
  go_enter Tryd.func10, Tryd.ntmps10
  go_wp2_with fail
  refine (findD x w.heap.size _ (hT.alloc _) (by simp) (by simp)).mono ?_
  rintro e w1 ⟨rfl, hb⟩
  have hb1 : Below w.heap.size w w1 := ((Below.refl _ _).alloc (Nat.le_refl _) _).trans (hb.mono (by simp))
  have hc : w1.cell? ⟨w.heap.size, 0, none⟩ = some (.int .i64 x) := (hb.cell (p := ⟨w.heap.size, 0, none⟩) (by simp)).trans (by simp)
  rcases hw with ⟨h, hx⟩ | ⟨h, h1, h2⟩ | ⟨h, hx⟩ | ⟨h, h1, h2⟩ | ⟨h, h1, h2⟩ <;> rw [h] <;> clear h
  · subst hx
    go_wp2
    go_ret2
    exact ⟨ret_two (by simp [duN]) (by simp [duE]), hb1⟩
  · go_wp2
    go_ret2
    exact ⟨ret_two (by unfold duN; rw [if_neg (by omega), if_pos ⟨h1, h2⟩]) (by unfold duE; rw [if_pos (by omega)]), hb1⟩
  · subst hx
    go_wp2
    go_ret2
    exact ⟨ret_two (by simp [duN]) (by simp [duE]), hb1⟩
  · go_wp2
    go_ret2
    exact ⟨ret_two (by unfold duN; rw [if_neg (by omega), if_neg (by omega), if_neg (by omega), if_pos ⟨h1, h2⟩]) (by unfold duE; rw [if_pos (by omega)]), hb1⟩
  · go_wp2
    go_ret2
    exact ⟨ret_two (by unfold duN; rw [if_neg (by omega), if_neg (by omega), if_neg (by omega), if_neg (by omega)]) (by unfold duE; rw [if_neg (by omega)]), hb1⟩

set_option maxHeartbeats 400000 in
theorem amps_any (x : Int) (w : World) (hT : Tab w) :
    Calls Tryd.prog 12 #[.int .i64 x] w fun e w' => e = .returned (.tuple #[.int .i64 (amN x), .int .i64 (amE x)]) ∧ Below w.heap.size w w' := by
  have hmf : ∀ (fn : Fn) (first cap : Array Value) (w : World), (Instr.makeFunc fn first cap).run Tryd.prog w = .ok (.func fn first cap) w := fun _ _ _ _ => rfl
  by_cases h0 : x < 0
  · have h0' : decide (x < 0) = true := by simpa using h0
    go_enter Tryd.func12, Tryd.ntmps12
    go_wp2
    go_ret2
    exact ⟨ret_two (by unfold amN; rw [if_neg (by omega), if_neg (by omega)]) (by unfold amE; rw [if_neg (by omega)]), (Below.refl _ _).alloc (Nat.le_refl _) _⟩
  · have h0' : decide (x < 0) = false := by simpa using h0
    by_cases h9 : 1000 < x
    · go_enter Tryd.func12, Tryd.ntmps12
      go_wp2
      go_ret2
      exact ⟨ret_two (by unfold amN; rw [if_neg (by omega), if_neg (by omega)]) (by unfold amE; rw [if_neg (by omega)]), (Below.refl _ _).alloc (Nat.le_refl _) _⟩
    · have hw := which2 x
      have he : Hid (0 = amE x) := by show 0 = amE x; unfold amE; rw [if_pos (by omega)]
      go_enter Tryd.func12, Tryd.ntmps12
      go_wp2_with fail
      refine (findA x w.heap.size _ (hT.alloc _) (by simp) (by simp)).mono ?_
      rintro e w1 ⟨rfl, hb⟩
      have hb1 : Below w.heap.size w w1 := ((Below.refl _ _).alloc (Nat.le_refl _) _).trans (hb.mono (by simp))
      have hc : w1.cell? ⟨w.heap.size, 0, none⟩ = some (.int .i64 x) := (hb.cell (p := ⟨w.heap.size, 0, none⟩) (by simp)).trans (by simp)
      rcases hw with ⟨h, hx⟩ | ⟨h, h1, h2⟩ | ⟨h, hx⟩ | ⟨h, h1, h2⟩ | ⟨h, h1, h2⟩ <;> rw [h] <;> clear h
      · subst hx
        go_wp2
        go_ret2
        exact ⟨ret_two (by simp [amN]) he.out, hb1⟩
      · go_wp2
        go_ret2
        exact ⟨ret_two (by unfold amN; rw [if_pos ⟨h1, h2⟩]) he.out, hb1⟩
      · subst hx
        go_wp2
        go_ret2
        exact ⟨ret_two (by simp [amN]) he.out, hb1⟩
      · go_wp2
        go_ret2
        exact ⟨ret_two (by unfold amN; rw [if_neg (by omega), if_pos (by omega)]) he.out, hb1⟩
      · go_wp2
        go_ret2
        exact ⟨ret_two (by unfold amN; rw [if_neg (by omega), if_neg (by omega)]) he.out, hb1⟩

end Go.Proofs.YtjdmdhjincgdaaaDoor
