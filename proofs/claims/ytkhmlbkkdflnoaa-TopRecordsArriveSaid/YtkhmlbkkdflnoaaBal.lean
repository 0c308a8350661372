/-
  THE WALKS over package settle, second part: balances.
-/
import Derived.Test.YtkhmlbkkdflnoaaWalks
namespace Go.Proofs.Ytkhmlbkkdflnoaa
open Go.RowKit
set_option linter.unusedVariables false
attribute [local go_sem ↓] Go.wp_at_zero Go.wp_at_succ

/-- block g is a row of numbers of one's own -/
def OwnR (W : World) (g l c : Nat) (f : Nat → Int) : Prop := ∃ cur : Array Value, W.heap[g]? = some (.cells cur 3 (0, 0)) ∧ (l ≤ c ∧ c ≤ 9223372036854775807) ∧ cur.size = c ∧ ∀ j, j < l → cur[j]? = some (.int .i64 (f j))
theorem OwnR.lt {W : World} {g l c : Nat} {f : Nat → Int} (h : OwnR W g l c f) : g < W.heap.size := by
  obtain ⟨cur, hg, _⟩ := h
  exact (Array.getElem?_eq_some_iff.1 hg).1
theorem OwnR.keep {W W' : World} {g l c : Nat} {f : Nat → Int} (h : OwnR W g l c f) (e : W'.heap[g]? = W.heap[g]?) : OwnR W' g l c f := by
  obtain ⟨cur, hg, r⟩ := h
  exact ⟨cur, e.trans hg, r⟩
theorem OwnR.rz {W : World} {g l c : Nat} {f : Nat → Int} (h : OwnR W g l c f) : RZ W (some ⟨g, 0, none⟩) l f := fun i hi => by
  have hl := h.lt
  obtain ⟨cur, hg, _, _, hr⟩ := h
  refine ⟨g, 0, rfl, hl, ?_⟩
  rw [Nat.zero_add, cell_of_row W g i cur _ (0, 0) hg]
  exact hr i hi
theorem OwnR.at {W : World} {g l c : Nat} {f : Nat → Int} (h : OwnR W g l c f) {i : Nat} (hi : i < l) : W.cell? ⟨g, i, none⟩ = some (.int .i64 (f i)) ∧ W.frozen? ⟨g, i, none⟩ = false := by
  obtain ⟨cur, hg, _, _, hr⟩ := h
  exact ⟨by rw [cell_of_row W g i cur _ (0, 0) hg]; exact hr i hi, by simp [World.frozen?, hg]⟩
theorem OwnR.write {W : World} {g l c : Nat} {f : Nat → Int} (h : OwnR W g l c f) {s : Nat} (hs : s < l) (x : Int) : OwnR (W.setCell ⟨g, s, none⟩ (.int .i64 x)) g l c (fun i => if i = s then x else f i) := by
  obtain ⟨cur, hg, hc, hcs, hr⟩ := h
  refine ⟨cur.setIfInBounds s (.int .i64 x), ?_, hc, by simpa using hcs, fun j hj => ?_⟩
  · simp [World.setCell, Array.getElem?_modify, hg]
  · by_cases hjs : j = s
    · subst hjs
      simp [Array.getElem?_setIfInBounds, hcs]
      omega
    · rw [Array.getElem?_setIfInBounds_ne (by omega), hr j hj]
      simp [hjs]
theorem OwnR.congr {W : World} {g l c : Nat} {f f' : Nat → Int} (h : OwnR W g l c f) (e : ∀ i, i < l → f i = f' i) : OwnR W g l c f' := by
  obtain ⟨cur, hg, hc, hcs, hr⟩ := h
  exact ⟨cur, hg, hc, hcs, fun j hj => by rw [← e j hj]; exact hr j hj⟩

/-- is it a network? -/
def isN (n m : Int) : Bool := decide (0 ≤ n) && decide (n < m)
theorem isN_iff {n m : Int} : isN n m = true ↔ 0 ≤ n ∧ n < m := by simp [isN]
theorem isNet (n m : Int) (w : World) : Calls Try.prog 43 #[.int .i64 n, .int .i64 m] w fun e w' => e = .returned (.bool (isN n m)) ∧ w = w' := by
  by_cases h1 : 0 ≤ n
  · have hr : Hid (decide (n < m) = isN n m) := by show _ = _; simp [isN, h1]
    go_enter Try.func43, Try.ntmps43
    go_wp2
    all_goals (try (exfalso; omega))
    go_ret
    exact ⟨ret_bool hr.out, rfl⟩
  · have hr : Hid (false = isN n m) := by show _ = _; simp [isN, h1]
    have e1 : decide (0 ≤ n) = false := by simpa using h1
    go_enter Try.func43, Try.ntmps43
    go_wp2
    all_goals (try (exfalso; omega))
    go_ret
    exact ⟨ret_bool hr.out, rfl⟩

/-- one balance greater, another less -/
def mvd (y : Nat → Int) (u d : Nat) (a : Int) : Nat → Int := fun i => y i + (if i = u then a else 0) - (if i = d then a else 0)

set_option maxRecDepth 100000 in
set_option maxHeartbeats 2000000 in
theorem move_any (p g l c : Nat) (y : Nat → Int) (u d : Nat) (a : Int) (w : World) (hp : w.cell? ⟨p, 0, none⟩ = some (.slice (some ⟨g, 0, none⟩) l c)) (hpg : p ≠ g) (hO : OwnR w g l c y) (hu : u < l) (hd : d < l) (hl : l ≤ 8)
    (ha : 0 ≤ a ∧ a ≤ 64000000000) (hy : ∀ i, i < l → -64000000000 ≤ y i ∧ y i ≤ 64000000000) :
    Calls Try.prog 44 #[.pointer (some ⟨p, 0, none⟩), .int .i64 (u : Int), .int .i64 (d : Int), .int .i64 a] w
      fun e w' => e = .returned (.tuple #[]) ∧ OwnR w' g l c (mvd y u d a) ∧ w.grownBy w' (some g) := by
  have HO := Lib.hid hO
  have hyu := hy u hu
  have hyd := hy d hd
  obtain ⟨cu, fu⟩ := hO.at hu
  obtain ⟨cd, fd⟩ := hO.at hd
  have i1 : (0 : Int) ≤ (u : Int) := by omega
  have i2 : (u : Int) < (l : Int) := by omega
  have i3 : (0 : Int) ≤ (d : Int) := by omega
  have i4 : (d : Int) < (l : Int) := by omega
  clear hy hO
  have fin : Hid (∀ W : World, W.heap = ((w.setCell ⟨g, u, none⟩ (.int .i64 (y u + a))).setCell ⟨g, d, none⟩ (.int .i64 ((if d = u then y u + a else y d) - a))).heap → W.os = w.os → W.tape = w.tape → W.output = w.output → OwnR W g l c (mvd y u d a) ∧ w.grownBy W (some g)) := Lib.hid fun W h1 h2 h3 h4 => by
    have o1 := (HO.out.write hu (y u + a)).write hd ((if d = u then y u + a else y d) - a)
    refine ⟨(o1.keep (by rw [h1])).congr fun i hi => ?_, h2, h3, h4, by rw [h1]; simp [World.setCell], fun j hj hne => ?_⟩
    · unfold mvd
      by_cases e1 : i = d
      · subst e1
        by_cases e2 : i = u
        · subst e2; simp
        · simp [e2]
      · by_cases e2 : i = u
        · subst e2; simp [e1]
        · simp [e1, e2]
    · rw [h1]
      have e1 : j ≠ g := fun e => hne (by rw [e])
      exact (Below.heap_setCell _ ⟨g, d, none⟩ _ j e1).trans (Below.heap_setCell w ⟨g, u, none⟩ _ j e1)
  by_cases hud : u = d
  · subst hud
    go_enter Try.func44, Try.ntmps44
    go_wp2_with fail
    go_quiet (fail)
    go_wp2_with fail
    go_end0
    refine ⟨rfl, fin.out _ ?_ rfl rfl rfl⟩
    simp only [if_true, Int.add_sub_cancel]
    rfl
  · have e1 : ¬ d = u := fun e => hud e.symm
    have e2 : (⟨g, u, none⟩ : Addr) ≠ ⟨g, d, none⟩ := fun e => hud (by injection e)
    have cd2 : ∀ n, ((w.drewN n).setCell ⟨g, u, none⟩ (.int .i64 (y u + a))).cell? ⟨g, d, none⟩ = some (.int .i64 (y d)) := fun n => by rw [World.cell?_setCell_other _ _ _ _ e2]; exact cd
    go_enter Try.func44, Try.ntmps44
    go_wp2_with fail
    go_quiet (fail)
    go_wp2_with fail
    go_end0
    refine ⟨rfl, fin.out _ ?_ rfl rfl rfl⟩
    rw [if_neg e1]
    rfl

/-- a sum -/
def tot (z : Nat → Int) : Nat → Int
  | 0 => 0
  | k + 1 => tot z k + z k
/-- are they balances? -/
def balB (y : Nat → Int) (n : Nat) : Bool := decide ((1 ≤ n ∧ n ≤ 8) ∧ (∀ i, i < n → -64000000000 ≤ y i ∧ y i ≤ 64000000000) ∧ tot y n = 0)
theorem balB_iff {y : Nat → Int} {n : Nat} : balB y n = true ↔ (1 ≤ n ∧ n ≤ 8) ∧ (∀ i, i < n → -64000000000 ≤ y i ∧ y i ≤ 64000000000) ∧ tot y n = 0 := by simp [balB]
theorem bal_no {y : Nat → Int} {n : Nat} (h : ¬ ((1 ≤ n ∧ n ≤ 8) ∧ (∀ i, i < n → -64000000000 ≤ y i ∧ y i ≤ 64000000000) ∧ tot y n = 0)) : false = balB y n := by
  have : ¬ balB y n = true := fun hx => h (balB_iff.1 hx)
  simpa using this
theorem tot_bd {y : Nat → Int} {B : Int} : ∀ k, (∀ i, i < k → -B ≤ y i ∧ y i ≤ B) → -(k * B) ≤ tot y k ∧ tot y k ≤ k * B := by
  intro k
  induction k with
  | zero => intro _; simp [tot]
  | succ k ih =>
    intro hk
    have h1 := ih fun i hi => hk i (by omega)
    have h2 := hk k (by omega)
    have e : ((k + 1 : Nat) : Int) * B = k * B + B := by rw [Int.natCast_add, Int.add_mul]; simp
    simp only [tot]
    omega

set_option maxRecDepth 100000 in
set_option maxHeartbeats 2000000 in
theorem isBal (A : Option Addr) (n c : Nat) (y : Nat → Int) (w : World) (hn : n ≤ 9223372036854775807) (hR : RZ w A n y) :
    Calls Try.prog 45 #[.slice A n c] w fun e w' => e = .returned (.bool (balB y n)) ∧ w = w' := by
  have HR := Lib.hid hR
  clear hR
  by_cases hl : 1 ≤ n ∧ n ≤ 8
  · go_enter Try.func45, Try.ntmps45
    go_wp2
    all_goals (try (exfalso; omega))
    go_loop [3, 16] (fun s i => ∃ k : Nat, k ≤ n ∧ i = .int .i64 k ∧ s = .int .i64 (tot y k) ∧ ∀ j, j < k → -64000000000 ≤ y j ∧ y j ≤ 64000000000) (fun _ i => n - (intOf i).toNat)
    case atStart => exact ⟨0, Nat.zero_le _, rfl, rfl, fun j hj => by omega⟩
    case round =>
      obtain ⟨k, hk, rfl, rfl, hall⟩ := hrel
      have tb := tot_bd k hall
      have HALL := Lib.hid hall
      clear hall
      by_cases hlt : k < n
      · obtain ⟨b, o, rfl, hb, hc⟩ := HR.out k hlt
        by_cases h1 : -64000000000 ≤ y k
        · by_cases h2 : y k ≤ 64000000000
          · go_wp2
            all_goals (try (exfalso; omega))
            go_round
            case rel => exact ⟨k + 1, by omega, by go_num, rfl, all_snoc HALL.out ⟨h1, h2⟩⟩
            case measure => simp [intOf] <;> omega
          · have h3 : 64000000000 < y k := by omega
            go_wp2
            all_goals (try (exfalso; omega))
            go_ret
            exact ⟨ret_bool (bal_no fun hx => by have := hx.2.1 k hlt; omega), rfl⟩
        · have h3 : y k < -64000000000 := by omega
          go_wp2
          all_goals (try (exfalso; omega))
          go_ret
          exact ⟨ret_bool (bal_no fun hx => by have := hx.2.1 k hlt; omega), rfl⟩
      · obtain rfl : k = n := by omega
        by_cases h0 : tot y k = 0
        · have e0 : (tot y k == 0) = true := by simpa using h0
          have hr := Lib.hid (balB_iff.2 ⟨hl, HALL.out, h0⟩)
          clear h0
          go_wp2
          go_ret
          exact ⟨ret_bool hr.out.symm, rfl⟩
        · have e0 : (tot y k == 0) = false := by simpa using h0
          have hr := Lib.hid (bal_no (y := y) (n := k) fun hx => h0 hx.2.2)
          clear h0
          go_wp2
          go_ret
          exact ⟨ret_bool hr.out, rfl⟩
  · have hr := Lib.hid (bal_no (y := y) (n := n) fun hx => hl hx.1)
    by_cases h1 : n < 1
    · go_enter Try.func45, Try.ntmps45
      go_wp2
      all_goals (try (exfalso; omega))
      go_ret
      exact ⟨ret_bool hr.out, rfl⟩
    · have h2 : 8 < n := by omega
      go_enter Try.func45, Try.ntmps45
      go_wp2
      all_goals (try (exfalso; omega))
      go_ret
      exact ⟨ret_bool hr.out, rfl⟩

theorem lt_clo (x y : Int) (w : World) : Calls Try.prog 47 #[.int .i64 x, .int .i64 y] w fun e w' => e = .returned (.bool (decide (x < y))) ∧ w' = w := by
  go_enter Try.func47, Try.ntmps47
  go_wp2
  go_ret
  exact ⟨rfl, rfl⟩
/-- where the first such number lies -/
def mnI (y : Nat → Int) : Nat → Nat
  | 0 => 0
  | k + 1 => if y k < y (mnI y k) then k else mnI y k
theorem mnI_lt (y : Nat → Int) {n : Nat} (hn : 1 ≤ n) (k : Nat) (hk : k ≤ n) : mnI y k < n := by
  induction k with
  | zero => simp [mnI]; omega
  | succ k ih => simp only [mnI]; split <;> first | omega | exact ih (by omega)

set_option maxRecDepth 100000 in
set_option maxHeartbeats 2000000 in
theorem first_lt (A : Option Addr) (n c : Nat) (y : Nat → Int) (w : World) (hn : 1 ≤ n ∧ n ≤ 100) (hR : RZ w A n y) :
    Calls Try.prog 46 #[.slice A n c, .func (.func 47) #[] #[]] w fun e w' => e = .returned (.int .i64 (mnI y n : Int)) ∧ ∃ k, w' = w.drewN k := by
  have HR := Lib.hid hR
  clear hR
  go_enter Try.func46, Try.ntmps46
  go_wp2_with fail
  go_loopw [5, 9] (fun a i wr => ∃ k d : Nat, k ≤ n ∧ i = .int .i64 k ∧ a = .int .i64 (mnI y k : Int) ∧ wr = w.drewN d) (fun _ i _ => n - (intOf i).toNat)
  case atStart => exact ⟨0, 0, Nat.zero_le _, rfl, rfl, rfl⟩
  case round =>
    obtain ⟨k, d0, hk, rfl, rfl, rfl⟩ := hrel
    have hat := mnI_lt y hn.1 k hk
    by_cases hlt : k < n
    · obtain ⟨b, o, rfl, hb, hc⟩ := HR.out k hlt
      obtain ⟨b', o', e', hb', hc'⟩ := HR.out (mnI y k) hat
      cases e'
      have HS : Hid (mnI y (k + 1) = if y k < y (mnI y k) then k else mnI y k) := Lib.hid rfl
      generalize mnI y k = at0 at hat hc' HS ⊢
      have i1 : (0 : Int) ≤ (k : Int) := by omega
      have i2 : (k : Int) < (n : Int) := by omega
      have i3 : (0 : Int) ≤ (at0 : Int) := by omega
      have i4 : (at0 : Int) < (n : Int) := by omega
      have c1 : (w.drewN d0).cell? ⟨b, o + k, none⟩ = some (.int .i64 (y k)) := hc
      have c2 : (w.drewN d0).cell? ⟨b, o + at0, none⟩ = some (.int .i64 (y at0)) := hc'
      obtain ⟨wx, hwx⟩ : ∃ wx, w.drewN d0 = wx := ⟨_, rfl⟩
      rw [hwx] at c1 c2 ⊢
      have HW := Lib.hid hwx
      clear hwx hc hc'
      by_cases ht : y k < y at0
      · have e1 : decide (y k < y at0) = true := decide_eq_true ht
        have HT := Lib.hid ht
        go_wp2_with fail
        go_quiet ((go_at_call 47; exact Calls.quiet_of_same (lt_clo _ _ _)))
        go_wp2_with fail
        go_roundw
        case rel => exact ⟨k + 1, _, by omega, by go_num, by rw [HS.out, if_pos HT.out], by rw [← HW.out, World.drewN_drewN]⟩
        case measure => simp [intOf] <;> omega
      · have e1 : decide (y k < y at0) = false := decide_eq_false ht
        have HT := Lib.hid ht
        go_wp2_with fail
        go_quiet ((go_at_call 47; exact Calls.quiet_of_same (lt_clo _ _ _)))
        go_wp2_with fail
        go_roundw
        case rel => exact ⟨k + 1, _, by omega, by go_num, by rw [HS.out, if_neg (by have := HT.out; omega)], by rw [← HW.out, World.drewN_drewN]⟩
        case measure => simp [intOf] <;> omega
    · obtain rfl : k = n := by omega
      go_wp2_with fail
      go_ret
      exact ⟨rfl, d0, rfl⟩

theorem gt_clo (x y : Int) (w : World) : Calls Try.prog 48 #[.int .i64 x, .int .i64 y] w fun e w' => e = .returned (.bool (decide (y < x))) ∧ w' = w := by
  go_enter Try.func48, Try.ntmps48
  go_wp2
  go_ret
  exact ⟨rfl, rfl⟩
/-- where the first such number lies -/
def mxI (y : Nat → Int) : Nat → Nat
  | 0 => 0
  | k + 1 => if y (mxI y k) < y k then k else mxI y k
theorem mxI_lt (y : Nat → Int) {n : Nat} (hn : 1 ≤ n) (k : Nat) (hk : k ≤ n) : mxI y k < n := by
  induction k with
  | zero => simp [mxI]; omega
  | succ k ih => simp only [mxI]; split <;> first | omega | exact ih (by omega)

set_option maxRecDepth 100000 in
set_option maxHeartbeats 2000000 in
theorem first_gt (A : Option Addr) (n c : Nat) (y : Nat → Int) (w : World) (hn : 1 ≤ n ∧ n ≤ 100) (hR : RZ w A n y) :
    Calls Try.prog 46 #[.slice A n c, .func (.func 48) #[] #[]] w fun e w' => e = .returned (.int .i64 (mxI y n : Int)) ∧ ∃ k, w' = w.drewN k := by
  have HR := Lib.hid hR
  clear hR
  go_enter Try.func46, Try.ntmps46
  go_wp2_with fail
  go_loopw [5, 9] (fun a i wr => ∃ k d : Nat, k ≤ n ∧ i = .int .i64 k ∧ a = .int .i64 (mxI y k : Int) ∧ wr = w.drewN d) (fun _ i _ => n - (intOf i).toNat)
  case atStart => exact ⟨0, 0, Nat.zero_le _, rfl, rfl, rfl⟩
  case round =>
    obtain ⟨k, d0, hk, rfl, rfl, rfl⟩ := hrel
    have hat := mxI_lt y hn.1 k hk
    by_cases hlt : k < n
    · obtain ⟨b, o, rfl, hb, hc⟩ := HR.out k hlt
      obtain ⟨b', o', e', hb', hc'⟩ := HR.out (mxI y k) hat
      cases e'
      have HS : Hid (mxI y (k + 1) = if y (mxI y k) < y k then k else mxI y k) := Lib.hid rfl
      generalize mxI y k = at0 at hat hc' HS ⊢
      have i1 : (0 : Int) ≤ (k : Int) := by omega
      have i2 : (k : Int) < (n : Int) := by omega
      have i3 : (0 : Int) ≤ (at0 : Int) := by omega
      have i4 : (at0 : Int) < (n : Int) := by omega
      have c1 : (w.drewN d0).cell? ⟨b, o + k, none⟩ = some (.int .i64 (y k)) := hc
      have c2 : (w.drewN d0).cell? ⟨b, o + at0, none⟩ = some (.int .i64 (y at0)) := hc'
      obtain ⟨wx, hwx⟩ : ∃ wx, w.drewN d0 = wx := ⟨_, rfl⟩
      rw [hwx] at c1 c2 ⊢
      have HW := Lib.hid hwx
      clear hwx hc hc'
      by_cases ht : y at0 < y k
      · have e1 : decide (y at0 < y k) = true := decide_eq_true ht
        have HT := Lib.hid ht
        go_wp2_with fail
        go_quiet ((go_at_call 48; exact Calls.quiet_of_same (gt_clo _ _ _)))
        go_wp2_with fail
        go_roundw
        case rel => exact ⟨k + 1, _, by omega, by go_num, by rw [HS.out, if_pos HT.out], by rw [← HW.out, World.drewN_drewN]⟩
        case measure => simp [intOf] <;> omega
      · have e1 : decide (y at0 < y k) = false := decide_eq_false ht
        have HT := Lib.hid ht
        go_wp2_with fail
        go_quiet ((go_at_call 48; exact Calls.quiet_of_same (gt_clo _ _ _)))
        go_wp2_with fail
        go_roundw
        case rel => exact ⟨k + 1, _, by omega, by go_num, by rw [HS.out, if_neg (by have := HT.out; omega)], by rw [← HW.out, World.drewN_drewN]⟩
        case measure => simp [intOf] <;> omega
    · obtain rfl : k = n := by omega
      go_wp2_with fail
      go_ret
      exact ⟨rfl, d0, rfl⟩
end Go.Proofs.Ytkhmlbkkdflnoaa
