/-
  THE WALK OF 'ticks': a meter after any ticks of a list.
-/
import Derived.Test.YtgbmbpllfjpdmaaLaws
namespace Go.Proofs.Ytgbmbpllfjpdmaa
open Go.RowKit
set_option linter.unusedVariables false

/-- the slice at A reads as n ticks: f i amperes and g i phases, as bytes -/
def TK (w : World) (A : Option Addr) (n : Nat) (f g : Nat → Int) : Prop :=
  ∀ i, i < n → ∃ b o, A = some ⟨b, o, none⟩ ∧ b < w.heap.size ∧ w.cell? ⟨b, o + i * 2, none⟩ = some (.int .u8 (f i)) ∧ w.cell? ⟨b, o + i * 2 + 1, none⟩ = some (.int .u8 (g i)) ∧ (0 ≤ f i ∧ f i ≤ 255) ∧ (0 ≤ g i ∧ g i ≤ 255)
theorem TK.keep {w w' : World} {A : Option Addr} {n : Nat} {f g : Nat → Int} (h : TK w A n f g) (hb : Below w.heap.size w w') : TK w' A n f g := by
  intro i hi
  obtain ⟨b, o, rfl, hlt, h1, h2, h3⟩ := h i hi
  exact ⟨b, o, rfl, Nat.lt_of_lt_of_le hlt hb.size, (hb.cell (p := ⟨b, o + i * 2, none⟩) hlt).trans h1, (hb.cell (p := ⟨b, o + i * 2 + 1, none⟩) hlt).trans h2, h3⟩

/-- amperes times phases of a tick, and their sum over the first n ticks -/
def tick (f g : Nat → Int) (i : Nat) : Int := (f i % 81) * (g i % 4)
def tsum (f g : Nat → Int) : Nat → Int
  | 0 => 0
  | n + 1 => tsum f g n + tick f g n
theorem mod_prod (x y : Int) : 0 ≤ (x % 81) * (y % 4) ∧ (x % 81) * (y % 4) ≤ 240 := by
  have h1 : 0 ≤ x % 81 ∧ x % 81 ≤ 80 := by omega
  have h2 : 0 ≤ y % 4 ∧ y % 4 ≤ 3 := by omega
  exact ⟨Int.mul_nonneg h1.1 h2.1, Int.mul_le_mul h1.2 h2.2 h2.1 (by omega)⟩
theorem tick_bd (f g : Nat → Int) (i : Nat) : 0 ≤ tick f g i ∧ tick f g i ≤ 240 := mod_prod _ _
theorem tsum_bd (f g : Nat → Int) (n : Nat) : 0 ≤ tsum f g n ∧ tsum f g n ≤ 240 * n := by
  induction n with
  | zero => simp [tsum]
  | succ n ih =>
    have := tick_bd f g n
    simp only [tsum]
    omega
/-- the register after n ticks -/
def reg (r : Int) (k : Bool) (f g : Nat → Int) (n : Nat) : Int := if k = true then r - 2300 * tsum f g n else r + 2300 * tsum f g n
theorem reg_bd (r : Int) (k : Bool) (f g : Nat → Int) (n : Nat) : r - 552000 * n ≤ reg r k f g n ∧ reg r k f g n ≤ r + 552000 * n := by
  have := tsum_bd f g n
  unfold reg
  split <;> omega
theorem reg_next (r : Int) (k : Bool) (f g : Nat → Int) (n : Nat) : nR (reg r k f g n) (f n % 81) (g n % 4) k = reg r k f g (n + 1) := by
  have e : 2300 * (f n % 81) * (g n % 4) = 2300 * tick f g n := by unfold tick; rw [Int.mul_assoc]
  cases k <;> simp only [nR, reg, tsum, e] <;> simp <;> omega

/-- a tick of a valid meter far from the ends -/
theorem count_ok (s r a p : Int) (k : Bool) (w : World) (hs : 0 ≤ s ∧ s ≤ 1000000) (hr : -999999999000000 ≤ r ∧ r ≤ 999999999000000) (ha : 0 ≤ a ∧ a ≤ 80) (hp : 0 ≤ p ∧ p ≤ 3) :
    Calls Try.prog 10 #[.agg #[.int .i64 s, .int .i64 r, .bool k], .int .i64 a, .int .i64 p] w
      fun e w' => e = .returned (.tuple #[.agg #[.int .i64 s, .int .i64 (nR r a p k), .bool k], .int .i64 0]) ∧ Below w.heap.size w w' := by
  have hpr := prod_bd ha hp
  have hv : vM s r = true := vM_iff.2 ⟨hs, by omega⟩
  have h1 : upB 80 a = true := by simp [upB]; omega
  have h2 : upB 3 p = true := by simp [upB]; omega
  cases k
  · have e : nR r a p false = r + 2300 * a * p := by simp [nR]
    rw [e]
    exact count_fwd s r a p w hv h1 h2 (vM_iff.2 ⟨hs, by omega⟩)
  · have e : nR r a p true = r - 2300 * a * p := by simp [nR]
    rw [e]
    exact count_bwd s r a p w hv h1 h2 (vM_iff.2 ⟨hs, by omega⟩)

theorem MB.set {w : World} {b : Nat} {s r s' r' : Int} {k k' : Bool} (h : MB w b s r k) :
    MB (((w.setCell ⟨b, 0, none⟩ (.int .i64 s')).setCell ⟨b, 1, none⟩ (.int .i64 r')).setCell ⟨b, 2, none⟩ (.bool k')) b s' r' k' := by
  unfold MB at *
  simp [World.setCell, Array.getElem?_modify, h]
theorem MB.far {w : World} {b : Nat} {s r : Int} {k : Bool} (h : MB w b s r k) {p : Addr} (hp : b ≠ p.block) (u : Value) : MB (w.setCell p u) b s r k := (Below.heap_setCell w p u b hp).trans h
theorem MB.frz {w : World} {b : Nat} {s r : Int} {k : Bool} (h : MB w b s r k) : w.frozen? ⟨b, 0, none⟩ = false ∧ w.frozen? ⟨b, 1, none⟩ = false ∧ w.frozen? ⟨b, 2, none⟩ = false := by
  obtain ⟨_, _, _, a, c, d⟩ := blk3 h
  exact ⟨a, c, d⟩

set_option maxHeartbeats 2000000 in
set_option maxRecDepth 100000 in
theorem ticks_ok (s r : Int) (k : Bool) (A : Option Addr) (n c : Nat) (f g : Nat → Int) (w : World) (hT : TK w A n f g) (hn : n ≤ 500) (hs : 0 ≤ s ∧ s ≤ 1000000) (hr : -900000000000000 ≤ r ∧ r ≤ 900000000000000) :
    Calls Try.prog 17 #[.agg #[.int .i64 s, .int .i64 r, .bool k], .slice A n c] w
      fun e w' => e = .returned (.tuple #[.agg #[.int .i64 s, .int .i64 (reg r k f g n), .bool k], .int .i64 (tsum f g n), .bool true]) ∧ Below w.heap.size w w' := by
  have hs0 := hs.1
  have hs1 := hs.2
  go_enter Try.func17, Try.ntmps17
  go_wp2
  go_loopw [7, 16] (fun t i wr => ∃ j : Nat, j ≤ n ∧ i = .int .i64 j ∧ t = .int .i64 (tsum f g j) ∧ MB wr w.heap.size s (reg r k f g j) k ∧ MB wr (w.heap.size + 1) 0 0 false ∧ Below w.heap.size w wr) (fun _ i _ => n - (intOf i).toNat)
  case atStart => exact ⟨0, Nat.zero_le _, rfl, rfl, by have e : reg r k f g 0 = r := (by simp [reg, tsum]); rw [e]; exact (MB.new w s r k).alloc _, MB.new2 w _ 0 0 false, bel_alloc (bel_alloc (Below.refl _ _) _) _⟩
  case round =>
    obtain ⟨j, hj, rfl, rfl, mm, mo, h⟩ := hrel
    by_cases hlt : j < n
    · obtain ⟨b, o, rfl, hbl, q0, q1, hf, hg⟩ := hT j hlt
      have q0 := (h.cell (p := ⟨b, o + j * 2, none⟩) hbl).trans q0
      have q1 := (h.cell (p := ⟨b, o + j * 2 + 1, none⟩) hbl).trans q1
      have hrb := reg_bd r k f g j
      have hnx := reg_next r k f g j
      have htb := tsum_bd f g j
      have htk := tick_bd f g j
      have HN := Lib.hid hnx
      clear hnx
      go_wp2
      have u1 : IntKind.i64.wrap (f j) = f j := IntWalk.i64_in _ (by omega)
      have u2 : IntKind.i64.wrap (g j) = g j := IntWalk.i64_in _ (by omega)
      have u3 : (f j).tmod 81 = f j % 81 := Int.tmod_eq_emod_of_nonneg (by omega)
      have u4 : (g j).tmod 4 = g j % 4 := Int.tmod_eq_emod_of_nonneg (by omega)
      have x0 : (wr.alloc (.cells #[.int .u8 (f j), .int .u8 (g j)] 46)).cell? ⟨wr.heap.size, 0, none⟩ = some (.int .u8 (f j)) := cell_new rfl rfl
      have x1 : (wr.alloc (.cells #[.int .u8 (f j), .int .u8 (g j)] 46)).cell? ⟨wr.heap.size, 1, none⟩ = some (.int .u8 (g j)) := cell_new rfl rfl
      have mm := mm.alloc (.cells #[.int .u8 (f j), .int .u8 (g j)] 46)
      have mo := mo.alloc (.cells #[.int .u8 (f j), .int .u8 (g j)] 46)
      have h := bel_alloc h (.cells #[.int .u8 (f j), .int .u8 (g j)] 46)
      clear q0 q1
      generalize wr.alloc (.cells #[.int .u8 (f j), .int .u8 (g j)] 46) = w1 at *
      go_still (by kernel_rfl)
      clear u1 u2 u3 u4 x0 x1
      obtain ⟨a0, a1, a2, a3, a4⟩ := mm.get
      go_wp2_with fail
      refine (count_ok s (reg r k f g j) (f j % 81) (g j % 4) k _ hs (by omega) (by omega) (by omega)).mono ?_
      rintro e w2 ⟨rfl, hb⟩
      have mm := mm.drew.keep hb
      have mo := mo.drew.keep hb
      have h := bel_step h.drew hb
      clear hb a0 a1 a2 a3 a4
      rw [HN.out]
      obtain ⟨a0, a1, a2, a3, a4⟩ := mm.get
      obtain ⟨f0, f1, f2⟩ := mm.frz
      have hpb := mod_prod (f j) (g j)
      go_wp2
      go_roundw
      case rel => exact ⟨j + 1, by omega, by go_num, rfl, mm.set.alloc _, (((mo.far (by simp) _).far (by simp) _).far (by simp) _).alloc _, bel_alloc (((h.setCell (Nat.le_refl _) _).setCell (Nat.le_refl _) _).setCell (Nat.le_refl _) _) _⟩
      case measure => simp [intOf]; omega
    · obtain rfl : j = n := by omega
      obtain ⟨a0, a1, a2, a3, a4⟩ := mm.get
      obtain ⟨b0, b1, b2, b3, b4⟩ := mo.get
      obtain ⟨f0, f1, f2⟩ := mo.frz
      go_wp2
      refine bodyPost_ret (v := .tuple #[.agg #[.int .i64 s, .int .i64 (reg r k f g j), .bool k], .int .i64 (tsum f g j), .bool true]) (by simp [results, Try.results17, go_sem, b0, b1, b2]) rfl ⟨rfl, ?_⟩
      exact ((h.setCell (Nat.le_succ _) _).setCell (Nat.le_succ _) _).setCell (Nat.le_succ _) _

end Go.Proofs.Ytgbmbpllfjpdmaa
