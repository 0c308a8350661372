/-
  THE WALK over w17Chain.
-/
import Derived.Test.YtkhmlbkkdflnoaaSeq
import Derived.Test.YtkhmlbkkdflnoaaApnd
import Derived.Test.YtkhmlbkkdflnoaaMet
namespace Go.Proofs.Ytkhmlbkkdflnoaa.Ch
open Go.RowKit Go.Shelf
open Mt (TK)
set_option linter.unusedVariables false
set_option linter.unusedSimpArgs false
attribute [local go_sem ↓] Go.wp_at_zero Go.wp_at_succ

/-- sums of steps -/
def cum (f : Nat → Int) : Nat → Int
  | 0 => 0
  | j + 1 => cum f j + f j
theorem cum_bd {f : Nat → Int} {n : Nat} (h : ∀ i, i < n → 0 ≤ f i ∧ f i ≤ 255) : ∀ j, j ≤ n → 0 ≤ cum f j ∧ cum f j ≤ j * 255 := by
  intro j
  induction j with
  | zero => intro _; simp [cum]
  | succ j ih =>
    intro hj
    have := ih (by omega)
    have := h j (by omega)
    simp only [cum]
    push_cast
    omega
theorem cum_sq {f g : Nat → Int} {n : Nat} (hn : n ≤ 59) (hf : ∀ i, i < n → 0 ≤ f i ∧ f i ≤ 255) (hg : ∀ i, i < n → 0 ≤ g i ∧ g i ≤ 255) : Sq 1 (cum f) (cum g) n := by
  refine ⟨by omega, fun i hi => ?_, fun i hi => ?_⟩
  · have := cum_bd hf i hi
    have := cum_bd hg i hi
    have : (i : Int) * 255 ≤ 59 * 255 := by omega
    omega
  · have := hf i hi
    have := hg i hi
    simp only [cum]
    omega
/-- what holds while a chain is made -/
def CHI (w : World) (seed : Int) (f g : Nat → Int) (n : Nat) (i mi re l : Value) (wr : World) : Prop :=
  ∃ (j b cap : Nat), j ≤ n ∧ i = .int .i64 (j : Int) ∧ mi = .int .i64 (cum f j) ∧ re = .int .i64 (cum g j) ∧ l = .slice (some ⟨b, 0, none⟩) (j + 1) cap ∧
    RG wr (some ⟨b, 0, none⟩) (j + 1) (rws seed 1 (cum f) (cum g) j) ∧ (j + 1 ≤ cap ∧ cap ≤ 9223372036854775807) ∧ w.heap.size ≤ b ∧ Below w.heap.size w wr
set_option maxRecDepth 100000 in
set_option maxHeartbeats 4000000 in
theorem chain_ok (seed : Int) (A : Option Addr) (n c : Nat) (f g : Nat → Int) (w : World) (hT : TK w A n f g) (hn : n ≤ 59) :
    Calls Try.prog 15 #[.int .u64 seed, .slice A n c] w
      fun e w' => ∃ b cap, e = .returned (.tuple #[.slice (some ⟨b, 0, none⟩) (n + 1) cap, .bool true]) ∧
        RG w' (some ⟨b, 0, none⟩) (n + 1) (rws seed 1 (cum f) (cum g) n) ∧ (n + 1 ≤ cap ∧ cap ≤ 9223372036854775807) ∧ w.heap.size ≤ b ∧ Below w.heap.size w w' := by
  have hsq : Sq 1 (cum f) (cum g) n := cum_sq hn (fun i hi => by obtain ⟨_, _, _, _, _, _, h, _⟩ := hT i hi; exact h) (fun i hi => by obtain ⟨_, _, _, _, _, _, _, h⟩ := hT i hi; exact h)
  have h0 := append_ok seed none 0 0 (fun _ _ => 0) 1 0 0
  have HA0 : Hid (∀ W, Calls Try.prog 33 #[.int .u64 seed, .slice none 0 0, .int .i64 1, .int .i64 0, .int .i64 0] W fun e w' => ∃ b cap, e = .returned (.tuple #[.slice (some ⟨b, 0, none⟩) 1 cap, .int .i64 0]) ∧ RG w' (some ⟨b, 0, none⟩) 1 (rws seed 1 (cum f) (cum g) 0) ∧ (1 ≤ cap ∧ cap ≤ 9223372036854775807) ∧ W.heap.size ≤ b ∧ Below W.heap.size W w') :=
    Lib.hid fun W => h0 W (fun _ => ⟨rfl, rfl⟩) (fun i hi => by omega) (fun i hi => by omega) (rws_fit0 (M := cum f) (R := cum g) hsq)
  clear h0
  have HT := Lib.hid hT
  have HSQ := Lib.hid hsq
  clear hT hsq
  go_enter Try.func15, Try.ntmps15
  go_wp2_with (first
    | (go_at_call 33; with_reducible refine (HA0.out _).mono ?_; rintro e w1 ⟨b1, cap1, rfl, r1, k1, g1, h1⟩))
  go_loopw [23, 6, 7, 8] (fun i mi re l wr => CHI w seed f g n i mi re l wr) (fun i _ _ _ _ => n - (intOf i).toNat)
  case atStart => exact ⟨0, b1, cap1, Nat.zero_le _, rfl, rfl, rfl, rfl, r1, k1, g1, h1⟩
  case round =>
    obtain ⟨j, b, cap, hj, rfl, rfl, rfl, rfl, hrg, hcap, hbb, hbel⟩ := hrel
    by_cases hlt : j < n
    · obtain ⟨bt, ot, rfl, hbl, q0, q1, hf, hg⟩ := (HT.out.keep hbel) j hlt
      have hbd := HSQ.out.2.1 j hj
      have hbd2 := HSQ.out.2.1 (j + 1) hlt
      have hnx : cum f (j + 1) = cum f j + f j := rfl
      have hny : cum g (j + 1) = cum g j + g j := rfl
      have HRG := Lib.hid hrg
      have HAP := Lib.hid (fun W (h : RG W (some ⟨b, 0, none⟩) (j + 1) _) => append_ok seed (some ⟨b, 0, none⟩) (j + 1) cap _ 1 (cum f (j + 1)) (cum g (j + 1)) W (fun e => by cases e) h (rws_ok HSQ.out (by omega) (by omega)) (rws_fit HSQ.out (by omega) (by omega)))
      rw [hnx, hny] at HAP hbd2
      have HB := Lib.hid hbel
      have hwb := hbel.size
      clear hnx hny hrg hbel
      go_upto_region 6 with (fail)
      all_goals (try (exfalso; omega))
      have x0 : (wr.alloc (.cells #[.int .u8 (f j), .int .u8 (g j)] 92)).cell? ⟨wr.heap.size, 0, none⟩ = some (.int .u8 (f j)) := Mt.cell_new rfl rfl
      have x1 : (wr.alloc (.cells #[.int .u8 (f j), .int .u8 (g j)] 92)).cell? ⟨wr.heap.size, 1, none⟩ = some (.int .u8 (g j)) := Mt.cell_new rfl rfl
      have HR2 := Lib.hid (HRG.out.keep (bel_alloc (Below.refl _ _) (.cells #[.int .u8 (f j), .int .u8 (g j)] 92)))
      have HB2 := Lib.hid (bel_alloc HB.out (.cells #[.int .u8 (f j), .int .u8 (g j)] 92))
      obtain ⟨w2, hw2⟩ : ∃ w2, wr.alloc (.cells #[.int .u8 (f j), .int .u8 (g j)] 92) = w2 := ⟨_, rfl⟩
      rw [hw2] at x0 x1 HR2 HB2 ⊢
      clear hw2
      have u1 : IntKind.i64.wrap (f j) = f j := IntWalk.i64_in _ (by omega)
      have u2 : IntKind.i64.wrap (g j) = g j := IntWalk.i64_in _ (by omega)
      have u3 : IntKind.i64.wrap (cum f j + f j) = cum f j + f j := IntWalk.i64_in _ (by omega)
      have u4 : IntKind.i64.wrap (cum g j + g j) = cum g j + g j := IntWalk.i64_in _ (by omega)
      go_quiet (fail)
      clear u1 u2 u3 u4
      go_wp2_with (first
        | (go_at_call 33; with_reducible refine (HAP.out _ (HR2.out.keep (below_drewN (Below.refl _ _) _))).mono ?_; rintro e w4 ⟨b4, cap4, rfl, r4, k4, g4, h4⟩
           have H4 := Lib.hid (bel_step (below_drewN HB2.out _) h4)))
      all_goals (try (exfalso; omega))
      have hs4 : w.heap.size ≤ b4 := by
        have := HB2.out.size
        have g5 : (w2.drewN nq).heap.size ≤ b4 := g4
        have : (w2.drewN nq).heap.size = w2.heap.size := rfl
        omega
      exact ⟨⟨j + 1, b4, cap4, by omega, by go_num, rfl, rfl, rfl, r4, k4, hs4, H4.out⟩, by simp [intOf] <;> omega⟩
    · obtain rfl : j = n := by omega
      go_wp2_with fail
      all_goals (try (exfalso; omega))
      go_ret2
      exact ⟨b, cap, rfl, hrg, hcap, hbb, hbel⟩
end Go.Proofs.Ytkhmlbkkdflnoaa.Ch
