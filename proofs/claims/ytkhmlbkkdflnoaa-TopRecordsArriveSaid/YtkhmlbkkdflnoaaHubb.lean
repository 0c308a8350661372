/-
  THE WALKS over package hub, second part: where a message belongs; what is refused.
-/
import Derived.Test.YtkhmlbkkdflnoaaHub
namespace Go.Proofs.Ytkhmlbkkdflnoaa.Hb
open Go.RowKit
set_option linter.unusedVariables false
set_option linter.unusedSimpArgs false
attribute [local go_sem ↓] Go.wp_at_zero Go.wp_at_succ

/-- the place of number m -/
def pl (f : Nat → Int) (m : Int) (q : Nat) : Nat := fi (fun i => decide (f i < m)) q
theorem pl_le (f : Nat → Int) (m : Int) (q : Nat) : pl f m q ≤ q := fi_le _ _
theorem pl_lo {f : Nat → Int} {m : Int} {q i : Nat} (h : i < pl f m q) : f i < m := by simpa using fi_lt _ q i h
theorem pl_hi {N : Int} {q : Nat} {f : Nat → Int} (hW : Wt N q f) {m : Int} {i : Nat} (h : pl f m q ≤ i) (hi : i < q) : m ≤ f i := by
  have h1 := fi_at (fun i => decide (f i < m)) q (show pl f m q < q by omega)
  have h2 : ¬ f (pl f m q) < m := by simpa [pl] using h1
  rcases Nat.lt_or_ge (pl f m q) i with h3 | h3
  · have := hW.2.2.2 _ i h3 hi
    omega
  · obtain rfl : i = pl f m q := by omega
    omega
theorem pl_eq {f : Nat → Int} {m : Int} {q p : Nat} (hp : p ≤ q) (h1 : ∀ i, i < p → f i < m) (h2 : ∀ i, p ≤ i → i < q → m ≤ f i) : pl f m q = p := by
  refine fi_eq hp (fun j hj => by simpa using h1 j hj) ?_
  rcases Nat.lt_or_ge p q with h | h
  · exact .inr (by have := h2 p (Nat.le_refl _) h; simp; omega)
  · exact .inl (by omega)
/-- does it wait? -/
def isW (f : Nat → Int) (m : Int) (q : Nat) : Bool := decide (pl f m q < q ∧ f (pl f m q) = m)

set_option maxRecDepth 100000 in
set_option maxHeartbeats 1000000 in
theorem findm_any (N m : Int) (q : Nat) (f : Nat → Int) (A : Option Addr) (c : Nat) (w : World) (hW : Wt N q f) (hR : RP w A q (mg f)) :
    Calls Try.prog 53 #[.slice A q c, .int .i64 m, .func (.func 54) #[] #[]] w fun e w' => e = .returned (.tuple #[.int .i64 (pl f m q : Int), .bool (isW f m q)]) ∧ Below w.heap.size w w' := by
  have hq60 := hW.2.1
  have HW := Lib.hid hW
  have HR := Lib.hid hR
  clear hW hR
  go_enter Try.func53, Try.ntmps53
  go_wp2_with fail
  go_loopw [8, 9] (fun a b wr => ∃ lo hi : Nat, (lo ≤ hi ∧ hi ≤ q) ∧ a = .int .i64 (lo : Int) ∧ b = .int .i64 (hi : Int) ∧ (∀ i, i < lo → f i < m) ∧ (∀ i, hi ≤ i → i < q → m ≤ f i) ∧ Below w.heap.size w wr) (fun a b _ => (intOf b).toNat - (intOf a).toNat)
  case atStart => exact ⟨0, q, by omega, rfl, rfl, fun i hi => by omega, fun i h1 h2 => by omega, Below.refl _ _⟩
  case round =>
    obtain ⟨lo, hi, hlh, rfl, rfl, hl, hh, hbw⟩ := hrel
    have HL := Lib.hid hl
    have HH := Lib.hid hh
    have HBW := Lib.hid hbw
    clear hl hh
    by_cases hlt : lo < hi
    · obtain ⟨d, hd⟩ : ∃ d, (hi - lo) / 2 = d := ⟨_, rfl⟩
      obtain ⟨md, hmd⟩ : ∃ md, lo + d = md := ⟨_, rfl⟩
      have hml : lo ≤ md ∧ md < hi := by omega
      obtain ⟨b, o, rfl, hb, c0, c1, c2⟩ := (HR.out.keep hbw) md (by omega)
      have e0 : mg f md 0 = 3 := rfl
      have e1 : mg f md 1 = f md := rfl
      have e2 : mg f md 2 = f md - 1 := rfl
      rw [e0] at c0
      rw [e1] at c1
      rw [e2] at c2
      have u1 : IntKind.i64.wrap ((hi : Int) - (lo : Int)) = (hi : Int) - (lo : Int) := IntWalk.i64_in _ (by omega)
      have u2 : ((hi : Int) - (lo : Int)).tdiv 2 = (d : Int) := by rw [Int.tdiv_eq_ediv_of_nonneg (by omega)]; omega
      have u3 : IntKind.i64.wrap (d : Int) = (d : Int) := IntWalk.i64_in _ (by omega)
      have u4 : IntKind.i64.wrap ((lo : Int) + (d : Int)) = (md : Int) := by rw [show (lo : Int) + (d : Int) = (md : Int) by omega]; exact IntWalk.i64_in _ (by omega)
      have i1 : (0 : Int) ≤ (md : Int) := by omega
      have i2 : (md : Int) < (q : Int) := by omega
      have HMD := Lib.hid hmd
      clear hbw hd hmd
      by_cases hc : f md < m
      · have hc2 := hc
        have HLO : Hid (∀ i, i < md + 1 → f i < m) := Lib.hid fun i hi => by
          rcases Nat.lt_or_ge i md with h | h
          · have := HW.out.2.2.2 i md h (by omega); omega
          · obtain rfl : i = md := by omega
            exact hc
        go_wp2_with (go_at_call 54; with_reducible refine (num_any _ _ _ _).mono ?_; rintro e w2 ⟨rfl, h2⟩)
        all_goals (try (exfalso; omega))
        go_roundw
        case rel => exact ⟨md + 1, hi, by omega, by go_num, rfl, HLO.out, HH.out, bel_step HBW.out h2⟩
        case measure => simp [intOf] <;> omega
      · have HHI : Hid (∀ i, md ≤ i → i < q → m ≤ f i) := Lib.hid fun i h1 h2 => by
          rcases Nat.lt_or_ge md i with h | h
          · have := HW.out.2.2.2 md i h h2; omega
          · obtain rfl : i = md := by omega
            omega
        go_wp2_with (go_at_call 54; with_reducible refine (num_any _ _ _ _).mono ?_; rintro e w2 ⟨rfl, h2⟩)
        all_goals (try (exfalso; omega))
        go_roundw
        case rel => exact ⟨lo, md, by omega, rfl, rfl, HL.out, HHI.out, bel_step HBW.out h2⟩
        case measure => simp [intOf] <;> omega
    · obtain rfl : lo = hi := by omega
      have hp : pl f m q = lo := pl_eq (by omega) HL.out HH.out
      have HP := Lib.hid hp
      by_cases hlq : lo < q
      · obtain ⟨b, o, rfl, hb, c0, c1, c2⟩ := (HR.out.keep hbw) lo hlq
        have e0 : mg f lo 0 = 3 := rfl
        have e1 : mg f lo 1 = f lo := rfl
        have e2 : mg f lo 2 = f lo - 1 := rfl
        rw [e0] at c0
        rw [e1] at c1
        rw [e2] at c2
        have hw : isW f m q = decide (f lo = m) := by unfold isW; rw [hp]; simp [hlq]
        have HQ := Lib.hid hw
        have i1 : (0 : Int) ≤ (lo : Int) := by omega
        have i2 : (lo : Int) < (q : Int) := by omega
        clear hbw hw hp
        go_wp2_with (go_at_call 54; with_reducible refine (num_any _ _ _ _).mono ?_; rintro e w2 ⟨rfl, h2⟩)
        all_goals (try (exfalso; omega))
        go_ret2
        exact ⟨by rw [HP.out, HQ.out]; first | rfl | (simp), bel_step HBW.out h2⟩
      · have hw : isW f m q = false := by unfold isW; rw [hp]; simp [hlq]
        have HQ := Lib.hid hw
        clear hbw hw hp
        go_wp2_with fail
        all_goals (try (exfalso; omega))
        go_ret2
        exact ⟨by rw [HP.out, HQ.out]; rfl, HBW.out⟩

theorem check_old (l : Value) (a m c N : Int) (v : Value) (kn wt : Bool) (w : World) (h : m < N ∨ wt = true) :
    Calls Try.prog 55 #[l, .agg #[.int .i64 a, .int .i64 m, .int .i64 c], .agg #[.int .i64 3, .int .i64 N, v], .bool kn, .bool wt] w fun e w' => e = .returned (.int .i64 12) ∧ Below w.heap.size w w' := by
  have x1 : ((w.alloc (.cells #[.int .i64 a, .int .i64 m, .int .i64 c] 69)).alloc (.cells #[.int .i64 3, .int .i64 N, v] 123)).cell? ⟨w.heap.size, 1, none⟩ = some (.int .i64 m) := old_at (Mt.cell_new rfl rfl) (bel_alloc (Below.refl _ _) _)
  have x2 : ((w.alloc (.cells #[.int .i64 a, .int .i64 m, .int .i64 c] 69)).alloc (.cells #[.int .i64 3, .int .i64 N, v] 123)).cell? ⟨w.heap.size + 1, 1, none⟩ = some (.int .i64 N) := Mt.cell_new (by simp) rfl
  have HB : Hid (Below w.heap.size w ((w.alloc (.cells #[.int .i64 a, .int .i64 m, .int .i64 c] 69)).alloc (.cells #[.int .i64 3, .int .i64 N, v] 123))) := Lib.hid (bel_alloc (bel_alloc (Below.refl _ _) _) _)
  by_cases h1 : m < N
  · clear h
    go_enter Try.func55, Try.ntmps55
    go_wp2_with fail
    go_ret
    exact ⟨rfl, HB.out⟩
  · obtain rfl : wt = true := h.resolve_left h1
    clear h
    go_enter Try.func55, Try.ntmps55
    go_wp2_with fail
    all_goals (try (exfalso; omega))
    go_ret
    exact ⟨rfl, HB.out⟩

theorem check_none (a m c : Int) (N : Int) (v : Value) (w : World) (h : N ≤ m) :
    Calls Try.prog 55 #[.slice none 0 0, .agg #[.int .i64 a, .int .i64 m, .int .i64 c], .agg #[.int .i64 3, .int .i64 N, v], .bool false, .bool false] w fun e w' => e = .returned (.int .i64 0) ∧ Below w.heap.size w w' := by
  have x1 : ((w.alloc (.cells #[.int .i64 a, .int .i64 m, .int .i64 c] 69)).alloc (.cells #[.int .i64 3, .int .i64 N, v] 123)).cell? ⟨w.heap.size, 1, none⟩ = some (.int .i64 m) := old_at (Mt.cell_new rfl rfl) (bel_alloc (Below.refl _ _) _)
  have x2 : ((w.alloc (.cells #[.int .i64 a, .int .i64 m, .int .i64 c] 69)).alloc (.cells #[.int .i64 3, .int .i64 N, v] 123)).cell? ⟨w.heap.size + 1, 1, none⟩ = some (.int .i64 N) := Mt.cell_new (by simp) rfl
  have HB : Hid (Below w.heap.size w ((w.alloc (.cells #[.int .i64 a, .int .i64 m, .int .i64 c] 69)).alloc (.cells #[.int .i64 3, .int .i64 N, v] 123))) := Lib.hid (bel_alloc (bel_alloc (Below.refl _ _) _) _)
  by_cases h1 : N = m
  · subst h1
    go_enter Try.func55, Try.ntmps55
    go_wp2_with fail
    all_goals (try (exfalso; omega))
    go_ret
    exact ⟨rfl, HB.out⟩
  · have h2 : N < m := by omega
    go_enter Try.func55, Try.ntmps55
    go_wp2_with (go_at_call 103; with_reducible refine (wait0 _).mono ?_; rintro e w3 ⟨rfl, h3⟩)
    all_goals (try (exfalso; omega))
    go_ret
    exact ⟨rfl, bel_step HB.out h3⟩
theorem check_one (b cb : Nat) (a m c : Int) (N : Int) (q : Nat) (f : Nat → Int) (A : Option Addr) (cw : Nat) (v : Value) (w : World) (h : N ≤ m) (hB : B1 w b N q f A cw) :
    Calls Try.prog 55 #[.slice (some ⟨b, 0, none⟩) 1 cb, .agg #[.int .i64 a, .int .i64 m, .int .i64 c], .agg #[.int .i64 3, .int .i64 N, v], .bool true, .bool false] w fun e w' => e = .returned (.int .i64 0) ∧ Below w.heap.size w w' := by
  have x1 : ((w.alloc (.cells #[.int .i64 a, .int .i64 m, .int .i64 c] 69)).alloc (.cells #[.int .i64 3, .int .i64 N, v] 123)).cell? ⟨w.heap.size, 1, none⟩ = some (.int .i64 m) := old_at (Mt.cell_new rfl rfl) (bel_alloc (Below.refl _ _) _)
  have x2 : ((w.alloc (.cells #[.int .i64 a, .int .i64 m, .int .i64 c] 69)).alloc (.cells #[.int .i64 3, .int .i64 N, v] 123)).cell? ⟨w.heap.size + 1, 1, none⟩ = some (.int .i64 N) := Mt.cell_new (by simp) rfl
  have HB : Hid (Below w.heap.size w ((w.alloc (.cells #[.int .i64 a, .int .i64 m, .int .i64 c] 69)).alloc (.cells #[.int .i64 3, .int .i64 N, v] 123))) := Lib.hid (bel_alloc (bel_alloc (Below.refl _ _) _) _)
  have H1 := Lib.hid (hB.keep HB.out)
  have hq := hB.2.2.1.2.1
  have e64 : ((q : Int) == 64) = false := by simp; omega
  clear hB
  by_cases h1 : N = m
  · subst h1
    go_enter Try.func55, Try.ntmps55
    go_wp2_with fail
    all_goals (try (exfalso; omega))
    go_ret
    exact ⟨rfl, HB.out⟩
  · have h2 : N < m := by omega
    go_enter Try.func55, Try.ntmps55
    go_wp2_with (go_at_call 103; with_reducible refine (wait1 _ _ N q f A cw _ H1.out).mono ?_; rintro e w3 ⟨rfl, h3⟩)
    all_goals (try (exfalso; omega))
    go_ret
    exact ⟨rfl, bel_step HB.out h3⟩
end Go.Proofs.Ytkhmlbkkdflnoaa.Hb
