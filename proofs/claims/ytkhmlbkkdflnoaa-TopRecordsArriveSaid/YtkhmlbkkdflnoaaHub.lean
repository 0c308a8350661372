/-
  THE WALKS over package hub, first part: what is valid.
-/
import Derived.Test.YtkhmlbkkdflnoaaSet
namespace Go.Proofs.Ytkhmlbkkdflnoaa.Hb
open Go.RowKit
open Ch (inB inB_iff)
set_option linter.unusedVariables false
set_option linter.unusedSimpArgs false
attribute [local go_sem ↓] Go.wp_at_zero Go.wp_at_succ

theorem ins_any (n a b : Int) (w : World) : Calls Try.prog 105 #[.int .i64 n, .int .i64 a, .int .i64 b] w fun e w' => e = .returned (.bool (inB n a b)) ∧ w = w' := by
  by_cases h1 : a ≤ n
  · by_cases h2 : n ≤ b
    · go_enter Try.func105, Try.ntmps105
      go_wp2
      go_ret
      exact ⟨ret_bool (by simp [inB, h1, h2]), rfl⟩
    · go_enter Try.func105, Try.ntmps105
      go_wp2
      go_ret
      exact ⟨ret_bool (by simp [inB, h1, h2]), rfl⟩
  · go_enter Try.func105, Try.ntmps105
    go_wp2
    go_ret
    exact ⟨ret_bool (by simp [inB]; omega), rfl⟩
theorem vmsg_yes (a b c : Int) (w : World) (ha : 0 ≤ a ∧ a ≤ 1000000) (hb : 1 ≤ b ∧ b ≤ 1000000) (hc : 0 ≤ c ∧ c ≤ 1000000000) :
    Calls Try.prog 50 #[.agg #[.int .i64 a, .int .i64 b, .int .i64 c]] w fun e w' => e = .returned (.bool true) ∧ Below w.heap.size w w' := by
  have HA := Lib.hid (fun W => ins_any a 0 1000000 W)
  rw [inB_iff.2 ha] at HA
  have HB := Lib.hid (fun W => ins_any b 1 1000000 W)
  rw [inB_iff.2 hb] at HB
  have HC := Lib.hid (fun W => ins_any c 0 1000000000 W)
  rw [inB_iff.2 hc] at HC
  have h0 : (w.alloc (.cells #[.int .i64 a, .int .i64 b, .int .i64 c] 69)).cell? ⟨w.heap.size, 0, none⟩ = some (.int .i64 a) := Mt.cell_new rfl rfl
  have h1 : (w.alloc (.cells #[.int .i64 a, .int .i64 b, .int .i64 c] 69)).cell? ⟨w.heap.size, 1, none⟩ = some (.int .i64 b) := Mt.cell_new rfl rfl
  have h2 : (w.alloc (.cells #[.int .i64 a, .int .i64 b, .int .i64 c] 69)).cell? ⟨w.heap.size, 2, none⟩ = some (.int .i64 c) := Mt.cell_new rfl rfl
  clear ha hb hc
  go_enter Try.func50, Try.ntmps50
  go_wp2_with (first
    | (go_at_call 105; with_reducible refine (HA.out _).mono ?_; rintro e w1 ⟨rfl, rfl⟩)
    | (go_at_call 105; with_reducible refine (HB.out _).mono ?_; rintro e w1 ⟨rfl, rfl⟩)
    | (go_at_call 105; with_reducible refine (HC.out _).mono ?_; rintro e w1 ⟨rfl, rfl⟩))
  go_ret
  exact ⟨rfl, bel_alloc (Below.refl _ _) _⟩

/-- the messages of these numbers -/
def mg (f : Nat → Int) (i j : Nat) : Int := if j = 0 then 3 else if j = 1 then f i else f i - 1
/-- numbers that wait: in order, above the next one -/
def Wt (N : Int) (q : Nat) (f : Nat → Int) : Prop := (1 ≤ N ∧ N ≤ 1000) ∧ q ≤ 60 ∧ (∀ i, i < q → N < f i ∧ f i ≤ 999) ∧ ∀ i j, i < j → j < q → f i < f j
/-- the number ahead of message k -/
def bef (N : Int) (f : Nat → Int) (k : Nat) : Int := if k = 0 then N else f (k - 1)
theorem Wt.bef {N : Int} {q : Nat} {f : Nat → Int} (h : Wt N q f) {k : Nat} (hk : k < q) : bef N f k < f k ∧ 1 ≤ f k ∧ f k ≤ 1000 := by
  obtain ⟨h1, h2, h3, h4⟩ := h
  have := h3 k hk
  unfold Hb.bef
  split
  · omega
  · have := h4 (k - 1) k (by omega) hk
    omega

set_option maxRecDepth 100000 in
set_option maxHeartbeats 1000000 in
theorem vbox_yes (N : Int) (q : Nat) (f : Nat → Int) (A : Option Addr) (c : Nat) (w : World) (hW : Wt N q f) (hR : RP w A q (mg f)) :
    Calls Try.prog 104 #[.agg #[.int .i64 3, .int .i64 N, .slice A q c]] w fun e w' => e = .returned (.bool true) ∧ Below w.heap.size w w' := by
  have hq60 := hW.2.1
  have HW := Lib.hid hW
  have HR := Lib.hid hR
  have HA := Lib.hid (fun W => ins_any 3 0 1000000 W)
  rw [inB_iff.2 (by omega)] at HA
  have HB := Lib.hid (fun W => ins_any N 1 1000001 W)
  rw [inB_iff.2 (by have := hW.1; omega)] at HB
  clear hW hR
  obtain ⟨W, hWe⟩ : ∃ W, w.alloc (.cells #[.int .i64 3, .int .i64 N, .slice A q c] 123) = W := ⟨_, rfl⟩
  have h0 : W.cell? ⟨w.heap.size, 0, none⟩ = some (.int .i64 3) := by rw [← hWe]; exact Mt.cell_new rfl rfl
  have h1 : W.cell? ⟨w.heap.size, 1, none⟩ = some (.int .i64 N) := by rw [← hWe]; exact Mt.cell_new rfl rfl
  have h2 : W.cell? ⟨w.heap.size, 2, none⟩ = some (.slice A q c) := by rw [← hWe]; exact Mt.cell_new rfl rfl
  have HBL : Hid (Below w.heap.size w W) := Lib.hid (by rw [← hWe]; exact bel_alloc (Below.refl _ _) _)
  have H0 := Lib.hid h0
  go_enter Try.func104, Try.ntmps104
  go_upto_region 1 with fail
  clear hWe
  go_wp2_with (first
    | (go_at_call 105; with_reducible refine (HA.out _).mono ?_; rintro e w1 ⟨rfl, rfl⟩)
    | (go_at_call 105; with_reducible refine (HB.out _).mono ?_; rintro e w1 ⟨rfl, rfl⟩))
  clear h0 h1 h2
  go_loopw [3, 21] (fun b i wr => ∃ k : Nat, k ≤ q ∧ i = .int .i64 (k : Int) ∧ b = .int .i64 (bef N f k) ∧ Below W.heap.size W wr) (fun _ i _ => q - (intOf i).toNat)
  case atStart => exact ⟨0, Nat.zero_le _, rfl, rfl, Below.refl _ _⟩
  case round =>
    obtain ⟨k, hk, rfl, rfl, hbw⟩ := hrel
    have HBW := Lib.hid hbw
    by_cases hlt : k < q
    · obtain ⟨b, o, rfl, hb, c0, c1, c2⟩ := (HR.out.keep (HBL.out.trans (hbw.mono HBL.out.size))) k hlt
      obtain ⟨p1, p2, p3⟩ := HW.out.bef hlt
      have e0 : mg f k 0 = 3 := rfl
      have e1 : mg f k 1 = f k := rfl
      have e2 : mg f k 2 = f k - 1 := rfl
      rw [e0] at c0
      rw [e1] at c1
      rw [e2] at c2
      have HNX : Hid (bef N f (k + 1) = f k) := Lib.hid (by unfold bef; rw [if_neg (by omega), Nat.add_sub_cancel])
      obtain ⟨x, hx⟩ : ∃ x, bef N f k = x := ⟨_, rfl⟩
      obtain ⟨y, hy⟩ : ∃ y, f k = y := ⟨_, rfl⟩
      rw [hx] at p1 ⊢
      rw [hy] at p1 p2 p3 c1 c2 HNX
      have x0 : (wr.alloc (.cells #[.int .i64 3, .int .i64 y, .int .i64 (y - 1)] 69)).cell? ⟨wr.heap.size, 0, none⟩ = some (.int .i64 3) := Mt.cell_new rfl rfl
      have x1 : (wr.alloc (.cells #[.int .i64 3, .int .i64 y, .int .i64 (y - 1)] 69)).cell? ⟨wr.heap.size, 1, none⟩ = some (.int .i64 y) := Mt.cell_new rfl rfl
      have x2 : (wr.alloc (.cells #[.int .i64 3, .int .i64 y, .int .i64 (y - 1)] 69)).cell? ⟨wr.heap.size, 2, none⟩ = some (.int .i64 (y - 1)) := Mt.cell_new rfl rfl
      have x3 : (wr.alloc (.cells #[.int .i64 3, .int .i64 y, .int .i64 (y - 1)] 69)).cell? ⟨w.heap.size, 0, none⟩ = some (.int .i64 3) := old_at (old_at H0.out hbw) (bel_alloc (Below.refl _ _) _)
      have i1 : (0 : Int) ≤ (k : Int) := by omega
      have i2 : (k : Int) < (q : Int) := by omega
      have HV := Lib.hid (fun W => vmsg_yes 3 y (y - 1) W (by omega) (by omega) (by omega))
      clear hbw hx hy
      go_upto_region 7 with fail
      have HBW2 := Lib.hid (bel_alloc HBW.out (.cells #[.int .i64 3, .int .i64 y, .int .i64 (y - 1)] 69))
      obtain ⟨pb, hpb⟩ : ∃ pb, wr.heap.size = pb := ⟨_, rfl⟩
      obtain ⟨w8, hw8⟩ : ∃ w8, wr.alloc (.cells #[.int .i64 3, .int .i64 y, .int .i64 (y - 1)] 69) = w8 := ⟨_, rfl⟩
      rw [hw8] at x0 x1 x2 x3 HBW2 ⊢
      rw [hpb] at x0 x1 x2 ⊢
      clear hw8 hpb c0 c1 c2
      have e5 : decide (y ≤ x) = false := by simp; omega
      go_wp2_with (first
        | (go_at_call 50; with_reducible refine (HV.out _).mono ?_; rintro e w9 ⟨rfl, h9⟩
           have y0 := old_at x0 h9
           have y1 := old_at x1 h9
           have y3 := old_at x3 h9
           have H9 := Lib.hid (bel_step HBW2.out h9)))
      all_goals (try (exfalso; omega))
      go_roundw
      case rel => exact ⟨k + 1, by omega, by go_num, by rw [HNX.out], H9.out⟩
      case measure => simp [intOf] <;> omega
    · obtain rfl : q = k := by omega
      go_wp2_with fail
      all_goals (try (exfalso; omega))
      go_ret
      exact ⟨rfl, HBL.out.trans (HBW.out.mono HBL.out.size)⟩

/-- block b is an inbox -/
def B1 (w : World) (b : Nat) (N : Int) (q : Nat) (f : Nat → Int) (A : Option Addr) (cw : Nat) : Prop :=
  (w.cell? ⟨b, 0, none⟩ = some (.int .i64 3) ∧ w.cell? ⟨b, 1, none⟩ = some (.int .i64 N) ∧ w.cell? ⟨b, 2, none⟩ = some (.slice A q cw)) ∧ RP w A q (mg f) ∧ Wt N q f ∧ (q ≤ cw ∧ cw ≤ 9223372036854775807) ∧ (A = none → q = 0 ∧ cw = 0)
theorem B1.keep {w w' : World} {b : Nat} {N : Int} {q : Nat} {f : Nat → Int} {A : Option Addr} {cw : Nat} (h : B1 w b N q f A cw) (hb : Below w.heap.size w w') : B1 w' b N q f A cw :=
  ⟨⟨old_at h.1.1 hb, old_at h.1.2.1 hb, old_at h.1.2.2 hb⟩, h.2.1.keep hb, h.2.2⟩

theorem wait0 (w : World) : Calls Try.prog 103 #[.slice none 0 0] w fun e w' => e = .returned (.int .i64 0) ∧ Below w.heap.size w w' := by
  go_enter Try.func103, Try.ntmps103
  go_wp2_with fail
  refine wp_loop_rounds 1 ?_
  rw [rounds_succ]
  go_wp2_with fail
  go_ret
  exact ⟨rfl, Below.refl _ _⟩
theorem wait1 (b c : Nat) (N : Int) (q : Nat) (f : Nat → Int) (A : Option Addr) (cw : Nat) (w : World) (h : B1 w b N q f A cw) :
    Calls Try.prog 103 #[.slice (some ⟨b, 0, none⟩) 1 c] w fun e w' => e = .returned (.int .i64 (q : Int)) ∧ Below w.heap.size w w' := by
  obtain ⟨⟨h0, h1, h2⟩, _, hw, _⟩ := h
  have hq := hw.2.1
  have x2 : (w.alloc (.cells #[.int .i64 3, .int .i64 N, .slice A q cw] 123)).cell? ⟨w.heap.size, 2, none⟩ = some (.slice A q cw) := Mt.cell_new rfl rfl
  have u1 : IntKind.i64.wrap (q : Int) = (q : Int) := IntWalk.i64_in _ (by omega)
  clear hw
  go_enter Try.func103, Try.ntmps103
  go_wp2_with fail
  refine wp_loop_rounds 2 ?_
  rw [rounds_succ]
  go_wp2_with fail
  rw [rounds_succ]
  go_wp2_with fail
  go_ret
  exact ⟨rfl, bel_alloc (Below.refl _ _) _⟩
theorem valid0 (w : World) : Calls Try.prog 49 #[.slice none 0 0] w fun e w' => e = .returned (.bool true) ∧ Below w.heap.size w w' := by
  go_enter Try.func49, Try.ntmps49
  go_wp2_with (go_at_call 103; with_reducible refine (wait0 _).mono ?_; rintro e w1 ⟨rfl, h1⟩)
  refine wp_loop_rounds 1 ?_
  rw [rounds_succ]
  go_wp2_with fail
  go_ret
  exact ⟨rfl, h1⟩
set_option maxRecDepth 100000 in
theorem valid1 (b c : Nat) (N : Int) (q : Nat) (f : Nat → Int) (A : Option Addr) (cw : Nat) (w : World) (h : B1 w b N q f A cw) :
    Calls Try.prog 49 #[.slice (some ⟨b, 0, none⟩) 1 c] w fun e w' => e = .returned (.bool true) ∧ Below w.heap.size w w' := by
  have H := Lib.hid h
  have hq := h.2.2.1.2.1
  clear h
  have e64 : decide ((64 : Int) < (q : Int)) = false := by simp; omega
  go_enter Try.func49, Try.ntmps49
  go_wp2_with (go_at_call 103; with_reducible refine (wait1 b c N q f A cw _ H.out).mono ?_; rintro e w1 ⟨rfl, h1⟩)
  all_goals (try (exfalso; omega))
  have H1 := Lib.hid (H.out.keep h1)
  obtain ⟨⟨c0, c1, c2⟩, _⟩ := H1.out
  have x0 : (w1.alloc (.cells #[.int .i64 3, .int .i64 N, .slice A q cw] 123)).cell? ⟨w1.heap.size, 0, none⟩ = some (.int .i64 3) := Mt.cell_new rfl rfl
  have x1 : (w1.alloc (.cells #[.int .i64 3, .int .i64 N, .slice A q cw] 123)).cell? ⟨w1.heap.size, 1, none⟩ = some (.int .i64 N) := Mt.cell_new rfl rfl
  have x2 : (w1.alloc (.cells #[.int .i64 3, .int .i64 N, .slice A q cw] 123)).cell? ⟨w1.heap.size, 2, none⟩ = some (.slice A q cw) := Mt.cell_new rfl rfl
  have HV := Lib.hid (vbox_yes N q f A cw (w1.alloc (.cells #[.int .i64 3, .int .i64 N, .slice A q cw] 123)) H.out.2.2.1 ((H1.out.2.1.keep (bel_alloc (Below.refl _ _) _))))
  have HB1 := Lib.hid h1
  clear h1
  refine wp_loop_rounds 2 ?_
  rw [rounds_succ]
  go_wp2_with (go_at_call 104; with_reducible refine HV.out.mono ?_; rintro e w2 ⟨rfl, h2⟩
               have y0 := old_at x0 h2)
  rw [rounds_succ]
  go_wp2_with fail
  go_ret
  exact ⟨rfl, bel_step (bel_alloc HB1.out _) h2⟩
theorem from_any (n : Int) (v : Value) (N : Int) (w : World) : Calls Try.prog 52 #[.agg #[.int .i64 n, .int .i64 N, v]] w fun e w' => e = .returned (.int .i64 n) ∧ Below w.heap.size w w' := by
  have x0 : (w.alloc (.cells #[.int .i64 n, .int .i64 N, v] 123)).cell? ⟨w.heap.size, 0, none⟩ = some (.int .i64 n) := Mt.cell_new rfl rfl
  go_enter Try.func52, Try.ntmps52
  go_wp2_with fail
  go_ret
  exact ⟨rfl, bel_alloc (Below.refl _ _) _⟩
theorem num_any (a b c : Int) (w : World) : Calls Try.prog 54 #[.agg #[.int .i64 a, .int .i64 b, .int .i64 c]] w fun e w' => e = .returned (.int .i64 b) ∧ Below w.heap.size w w' := by
  have x0 : (w.alloc (.cells #[.int .i64 a, .int .i64 b, .int .i64 c] 69)).cell? ⟨w.heap.size, 1, none⟩ = some (.int .i64 b) := Mt.cell_new rfl rfl
  go_enter Try.func54, Try.ntmps54
  go_wp2_with fail
  go_ret
  exact ⟨rfl, bel_alloc (Below.refl _ _) _⟩
theorem find0 (w : World) : Calls Try.prog 51 #[.slice none 0 0, .int .i64 3, .func (.func 52) #[] #[]] w fun e w' => e = .returned (.tuple #[.int .i64 0, .bool false]) ∧ Below w.heap.size w w' := by
  go_enter Try.func51, Try.ntmps51
  go_wp2_with fail
  refine wp_loop_rounds 1 ?_
  rw [rounds_succ]
  go_wp2_with fail
  go_ret2
  exact ⟨rfl, Below.refl _ _⟩
set_option maxRecDepth 100000 in
theorem find1 (b c : Nat) (N : Int) (q : Nat) (f : Nat → Int) (A : Option Addr) (cw : Nat) (w : World) (h : B1 w b N q f A cw) :
    Calls Try.prog 51 #[.slice (some ⟨b, 0, none⟩) 1 c, .int .i64 3, .func (.func 52) #[] #[]] w fun e w' => e = .returned (.tuple #[.int .i64 0, .bool true]) ∧ Below w.heap.size w w' := by
  have H := Lib.hid h
  obtain ⟨⟨c0, c1, c2⟩, _⟩ := h
  go_enter Try.func51, Try.ntmps51
  go_wp2_with fail
  refine wp_loop_rounds 2 ?_
  rw [rounds_succ]
  go_wp2_with (go_at_call 52; with_reducible refine (from_any _ _ _ _).mono ?_; rintro e w2 ⟨rfl, h2⟩)
  rw [rounds_succ]
  have y0 := old_at c0 h2
  have y1 := old_at c1 h2
  have y2 := old_at c2 h2
  have H2 := Lib.hid h2
  clear h2
  go_wp2_with (go_at_call 52; with_reducible refine (from_any _ _ _ _).mono ?_; rintro e w3 ⟨rfl, h3⟩)
  go_ret2
  exact ⟨rfl, bel_step H2.out h3⟩
end Go.Proofs.Ytkhmlbkkdflnoaa.Hb
