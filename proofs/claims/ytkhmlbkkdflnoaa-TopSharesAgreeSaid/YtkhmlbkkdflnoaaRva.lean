/-
  THE REFERENCE'S Valid: true only of a site as SitP says.
-/
import Derived.Test.YtkhmlbkkdflnoaaRvl
import Derived.Test.YtkhmlbkkdflnoaaRnm
namespace Go.Proofs.Ytkhmlbkkdflnoaa.Nm
open Go.RowKit Go.Proofs.Ytkhmlbkkdflnoaa Go
set_option linter.unusedVariables false
attribute [local go_sem ↓] Go.wp_at_zero Go.wp_at_succ

/-- what a contract must be, in a site with so many owners -/
def CtP (n1 : Nat) (z : Nat → Int) : Prop := (0 ≤ z 1 ∧ z 1 ≤ (n1 : Int) - 1) ∧ (1 ≤ z 2 ∧ z 2 ≤ 9) ∧ (1 ≤ z 3 ∧ z 3 ≤ 1000000)
/-- a site that the reference takes for valid -/
structure SitP (S : Sit) : Prop where
  sizes : (1 ≤ S.n 0 ∧ S.n 0 ≤ 16) ∧ S.n 1 ≤ 8 ∧ S.n 2 ≤ 32 ∧ S.n 3 ≤ 16 ∧ S.n 4 ≤ 24
  names : ∀ s ∈ S.names 5, NameP s
  once : (S.names 5).Pairwise (fun a b => (a.toList == b.toList) = false)
  con : ∀ i, i < S.n 0 → CoP i (S.Z 0 i)
  ctr : ∀ i, i < S.n 2 → CtP (S.n 1) (S.Z 2 i) ∧ ∀ k, k < i → S.Z 2 k 3 ≠ S.Z 2 i 3
  chr : ∀ i, i < S.n 3 → ChP (S.Z 3 i) ∧ (0 ≤ S.Z 3 i 1 ∧ S.Z 3 i 1 ≤ (S.n 0 : Int) - 1) ∧ (0 ≤ S.Z 3 i 7 ∧ S.Z 3 i 7 ≤ (S.n 1 : Int) - 1)
  bay : ∀ i, i < S.n 4 → 0 ≤ S.Z 4 i 1 ∧ S.Z 4 i 1 ≤ (S.n 3 : Int) - 1
theorem yes_open {P : Prop} {e : Ending} (h : yesP P e) : ∃ r : Bool, e = .returned (.bool r) ∧ (r = true → P) := h
def NamesP (S : Sit) : Prop := (∀ s ∈ S.names 5, NameP s) ∧ (S.names 5).Pairwise (fun a b => (a.toList == b.toList) = false)
set_option maxRecDepth 100000 in
set_option maxHeartbeats 8000000 in
theorem rvalid_any (S : Sit) (w : World) (hM : SM5 w S) : Calls Try.prog 26 #[.agg #[.slice (S.A 0) (S.n 0) (S.c 0), .slice (S.A 1) (S.n 1) (S.c 1), .slice (S.A 2) (S.n 2) (S.c 2), .slice (S.A 3) (S.n 3) (S.c 3), .slice (S.A 4) (S.n 4) (S.c 4)]] w fun e w' => yesP (SitP S) e ∧ Below w.heap.size w w' := by
  have HM := Lib.hid hM
  clear hM
  go_enter Try.func26, Try.ntmps26
  go_upto_region 1 with fail
  obtain ⟨W0, hW0⟩ : ∃ W0, w.alloc (.cells #[.slice (S.A 0) (S.n 0) (S.c 0), .slice (S.A 1) (S.n 1) (S.c 1), .slice (S.A 2) (S.n 2) (S.c 2), .slice (S.A 3) (S.n 3) (S.c 3), .slice (S.A 4) (S.n 4) (S.c 4)] 80) = W0 := ⟨_, rfl⟩
  have HB0 : Hid (Below w.heap.size w W0) := Lib.hid (by rw [← hW0]; exact (Below.refl _ _).alloc (Nat.le_refl _) _)
  have HS0 : Hid (W0.heap.size = w.heap.size + 1) := Lib.hid (by rw [← hW0]; simp)
  have HX : Hid (W0.heap[w.heap.size]? = some (.cells #[.slice (S.A 0) (S.n 0) (S.c 0), .slice (S.A 1) (S.n 1) (S.c 1), .slice (S.A 2) (S.n 2) (S.c 2), .slice (S.A 3) (S.n 3) (S.c 3), .slice (S.A 4) (S.n 4) (S.c 4)] 80 (0, 0))) := Lib.hid (by rw [← hW0]; exact heap_alloc_new w _)
  rw [hW0]
  clear hW0
  have HD : Hid (∀ W : World, Below (w.heap.size + 1) W0 W → W.cell? ⟨w.heap.size, 0, none⟩ = some (.slice (S.A 0) (S.n 0) (S.c 0)) ∧ W.cell? ⟨w.heap.size, 1, none⟩ = some (.slice (S.A 1) (S.n 1) (S.c 1)) ∧ W.cell? ⟨w.heap.size, 2, none⟩ = some (.slice (S.A 2) (S.n 2) (S.c 2)) ∧ W.cell? ⟨w.heap.size, 3, none⟩ = some (.slice (S.A 3) (S.n 3) (S.c 3)) ∧ W.cell? ⟨w.heap.size, 4, none⟩ = some (.slice (S.A 4) (S.n 4) (S.c 4))) := Lib.hid fun W hW => by
    refine ⟨?_, ?_, ?_, ?_, ?_⟩ <;> (rw [hW.cell (by simp), cell_of_row W0 _ _ _ _ (0, 0) HX.out]; rfl)
  obtain ⟨d0, d1, d2, d3, d4⟩ := HD.out W0 (Below.refl _ _)
  have HNM : Hid (Calls Try.prog 70 #[.agg #[.slice (S.A 0) (S.n 0) (S.c 0), .slice (S.A 1) (S.n 1) (S.c 1), .slice (S.A 2) (S.n 2) (S.c 2), .slice (S.A 3) (S.n 3) (S.c 3), .slice (S.A 4) (S.n 4) (S.c 4)]] W0 fun e w' => yesP (NamesP S) e ∧ Below W0.heap.size W0 w') := Lib.hid (names_any S W0 (HM.out.keep HB0.out))
  go_upto_region 3 with (first
    | (go_at_call 69; with_reducible refine (inside_det _ _ _ _).mono ?_; rintro e w1 ⟨rfl, hw⟩; obtain rfl := hw.symm)
    | (go_at_call 70; with_reducible refine HNM.out.mono ?_; rintro e w1 ⟨hy, hb1⟩; obtain ⟨r, rfl, hr⟩ := yes_open hy))
  all_goals (try (go_ret; exact ⟨yes_no _, by first | exact HB0.out | exact HB0.out.trans (hb1.mono HB0.out.size)⟩))
  have hrt : r = true := by simpa using ‹(!r) = false›
  subst hrt
  simp only [Bool.not_true]
  have HNP := Lib.hid (hr rfl)
  clear hy
  have HSZ : Hid ((1 ≤ S.n 0 ∧ S.n 0 ≤ 16) ∧ S.n 1 ≤ 8 ∧ S.n 2 ≤ 32 ∧ S.n 3 ≤ 16 ∧ S.n 4 ≤ 24) := Lib.hid (by omega)
  have HE : Hid (∀ W, Below W0.heap.size W0 W → SM5 W S) := Lib.hid fun W h => (HM.out.keep HB0.out).keep h
  have HD' : Hid (∀ W : World, Below W0.heap.size W0 W → W.cell? ⟨w.heap.size, 0, none⟩ = some (.slice (S.A 0) (S.n 0) (S.c 0)) ∧ W.cell? ⟨w.heap.size, 1, none⟩ = some (.slice (S.A 1) (S.n 1) (S.c 1)) ∧ W.cell? ⟨w.heap.size, 2, none⟩ = some (.slice (S.A 2) (S.n 2) (S.c 2)) ∧ W.cell? ⟨w.heap.size, 3, none⟩ = some (.slice (S.A 3) (S.n 3) (S.c 3)) ∧ W.cell? ⟨w.heap.size, 4, none⟩ = some (.slice (S.A 4) (S.n 4) (S.c 4))) := Lib.hid fun W hW => HD.out W (by rw [← HS0.out]; exact hW)
  have HF : Hid (∀ W W', Below W0.heap.size W0 W → Below W.heap.size W W' → Below W0.heap.size W0 W') := Lib.hid fun W W' h h' => h.trans (h'.mono h.size)
  have HG : Hid (∀ W, Below W0.heap.size W0 W → Below w.heap.size w W) := Lib.hid fun W h => HB0.out.trans (h.mono HB0.out.size)
  have HSW : Hid (∀ W, Below W0.heap.size W0 W → w.heap.size < W.heap.size) := Lib.hid fun W h => by have h1 := h.size; have h2 := HS0.out; omega
  clear HNM hr HD d0 d1 d2 d3 d4 HX HB0 HM HS0
  obtain ⟨⟨p0, p1⟩, p2, p3, p4, p5⟩ := HSZ.out
  go_wp2_with fail
  go_loopw [3] (fun i wr => ∃ k : Nat, k ≤ S.n 0 ∧ i = .int .i64 k ∧ (∀ j, j < k → CoP j (S.Z 0 j)) ∧ Below W0.heap.size W0 wr) (fun i _ => S.n 0 - (intOf i).toNat)
  case atStart => exact ⟨0, by omega, rfl, fun j h => absurd h (by omega), hb1⟩
  case round =>
    obtain ⟨k, hk, rfl, hall, hb⟩ := hrel
    obtain ⟨wa, hwa⟩ : ∃ x, x = wr := ⟨_, rfl⟩
    subst hwa
    have HA := Lib.hid hall
    have HBa := Lib.hid hb
    clear hall hb hb1
    obtain ⟨d0, d1, d2, d3, d4⟩ := HD'.out wa HBa.out
    by_cases hlt : k < S.n 0
    · obtain ⟨b, o, hA, hl, hs, hz⟩ := (HE.out wa HBa.out).rows 0 (by decide) k hlt
      rw [hA] at d0
      have c0 : wa.cell? ⟨b, o + k * 11, none⟩ = some (.string (S.N 0 k)) := hs
      have c1 : wa.cell? ⟨b, o + k * 11 + 1, none⟩ = some (.int .i64 (S.Z 0 k 1)) := hz 1 (by decide) (by decide)
      have c2 : wa.cell? ⟨b, o + k * 11 + 2, none⟩ = some (.int .i64 (S.Z 0 k 2)) := hz 2 (by decide) (by decide)
      have c3 : wa.cell? ⟨b, o + k * 11 + 3, none⟩ = some (.int .i64 (S.Z 0 k 3)) := hz 3 (by decide) (by decide)
      have c4 : wa.cell? ⟨b, o + k * 11 + 4, none⟩ = some (.int .i64 (S.Z 0 k 4)) := hz 4 (by decide) (by decide)
      have c5 : wa.cell? ⟨b, o + k * 11 + 5, none⟩ = some (.int .i64 (S.Z 0 k 5)) := hz 5 (by decide) (by decide)
      have c6 : wa.cell? ⟨b, o + k * 11 + 6, none⟩ = some (.int .i64 (S.Z 0 k 6)) := hz 6 (by decide) (by decide)
      have c7 : wa.cell? ⟨b, o + k * 11 + 7, none⟩ = some (.int .i64 (S.Z 0 k 7)) := hz 7 (by decide) (by decide)
      have c8 : wa.cell? ⟨b, o + k * 11 + 8, none⟩ = some (.int .i64 (S.Z 0 k 8)) := hz 8 (by decide) (by decide)
      have c9 : wa.cell? ⟨b, o + k * 11 + 9, none⟩ = some (.int .i64 (S.Z 0 k 9)) := hz 9 (by decide) (by decide)
      have c10 : wa.cell? ⟨b, o + k * 11 + 10, none⟩ = some (.int .i64 (S.Z 0 k 10)) := hz 10 (by decide) (by decide)
      have hi : Hid ((0 : Int) ≤ (k : Int) ∧ (k : Int) ≤ 1000) := Lib.hid (by omega)
      clear hz hs hA
      go_wp2_with (go_at_call 71; with_reducible refine (conductor_any _ (k : Int) (S.Z 0 k) _ hi.out).mono ?_; rintro e w2 ⟨hy, hb2⟩; obtain ⟨r, rfl, hr⟩ := yes_open hy)
      all_goals (try (exfalso; omega))
      · go_ret
        exact ⟨yes_no _, HG.out _ (HF.out _ _ HBa.out hb2)⟩
      · go_roundw
        case rel => exact ⟨k + 1, by omega, by go_num, all_snoc HA.out (hr (by first | assumption | (simpa using ‹(!r) = false›))), HF.out _ _ HBa.out hb2⟩
        case measure => simp [intOf] <;> omega
    · have HCO : Hid (∀ i, i < S.n 0 → CoP i (S.Z 0 i)) := Lib.hid fun i hi => HA.out i (by omega)
      go_wp2_with fail
      all_goals (try (exfalso; omega))
      go_loopw [4] (fun i wr => ∃ k : Nat, k ≤ S.n 2 ∧ i = .int .i64 k ∧ (∀ j, j < k → CtP (S.n 1) (S.Z 2 j) ∧ ∀ m, m < j → S.Z 2 m 3 ≠ S.Z 2 j 3) ∧ Below W0.heap.size W0 wr) (fun i _ => S.n 2 - (intOf i).toNat)
      case atStart => exact ⟨0, by omega, rfl, fun j h => absurd h (by omega), HBa.out⟩
      case round =>
        obtain ⟨q, hq, rfl, hall, hb⟩ := hrel
        obtain ⟨wb, hwb⟩ : ∃ x, x = wr := ⟨_, rfl⟩
        subst hwb
        have HAb := Lib.hid hall
        have HBb := Lib.hid hb
        clear hall hb d0 d1 d2 d3 d4
        obtain ⟨d0, d1, d2, d3, d4⟩ := HD'.out wb HBb.out
        by_cases hlt : q < S.n 2
        · obtain ⟨b, o, hA, hl, hs, hz⟩ := (HE.out wb HBb.out).rows 2 (by decide) q hlt
          rw [hA] at d2
          have c0 : wb.cell? ⟨b, o + q * 4, none⟩ = some (.string (S.N 2 q)) := hs
          have c1 : wb.cell? ⟨b, o + q * 4 + 1, none⟩ = some (.int .i64 (S.Z 2 q 1)) := hz 1 (by decide) (by decide)
          have c2 : wb.cell? ⟨b, o + q * 4 + 2, none⟩ = some (.int .i64 (S.Z 2 q 2)) := hz 2 (by decide) (by decide)
          have c3 : wb.cell? ⟨b, o + q * 4 + 3, none⟩ = some (.int .i64 (S.Z 2 q 3)) := hz 3 (by decide) (by decide)
          clear hz hs hA
          have hsb := HSW.out wb HBb.out
          have hw1 : IntKind.i64.wrap ((S.n 1 : Int) - 1) = (S.n 1 : Int) - 1 := IntWalk.i64_in _ (by omega)
          have HAL : Hid (∀ o, Below W0.heap.size W0 (wb.alloc o)) := Lib.hid fun o => HBb.out.alloc (by have := HBb.out.size; omega) o
          go_upto_region 14 with (first
            | (go_at_call 69; with_reducible refine (inside_det _ _ _ _).mono ?_; rintro e w1 ⟨rfl, hw⟩; obtain rfl := hw.symm))
          all_goals (try (go_ret; exact ⟨yes_no _, HG.out _ (HAL.out _)⟩))
          have hct : CtP (S.n 1) (S.Z 2 q) := by
            simp only [Bool.not_eq_false', decide_eq_true_eq] at *
            unfold CtP
            omega
          have HCT := Lib.hid hct
          unfold CtP at hct
          obtain ⟨⟨g1, g2⟩, ⟨g3, g4⟩, g5, g6⟩ := hct
          have e1 : decide ((1 : Int) ≤ S.Z 2 q 3) = true := decide_eq_true g5
          have e2 : decide (S.Z 2 q 3 ≤ 1000000) = true := decide_eq_true g6
          simp only [e1, e2, Bool.and_true, Bool.not_true, Bool.or_false]
          clear g1 g2 g3 g4 g5 g6 e1 e2 d0 d1 d2 d3 d4 c0 c1 c2
          obtain ⟨wc, hwc⟩ : ∃ x, wb.alloc (.cells #[.string (S.N 2 q), .int .i64 (S.Z 2 q 1), .int .i64 (S.Z 2 q 2), .int .i64 (S.Z 2 q 3)] 154) = x := ⟨_, rfl⟩
          have HCc : Hid (∀ W, Below wc.heap.size wc W → Below W0.heap.size W0 W ∧ W.cell? ⟨wb.heap.size, 3, none⟩ = some (.int .i64 (S.Z 2 q 3)) ∧ W.cell? ⟨b, o + q * 4 + 3, none⟩ = some (.int .i64 (S.Z 2 q 3))) := Lib.hid fun W hW => by
            have h0 := HAL.out (.cells #[.string (S.N 2 q), .int .i64 (S.Z 2 q 1), .int .i64 (S.Z 2 q 2), .int .i64 (S.Z 2 q 3)] 154)
            rw [hwc] at h0
            have hx : wc.cell? ⟨wb.heap.size, 3, none⟩ = some (.int .i64 (S.Z 2 q 3)) := by rw [← hwc]; simp
            have hy : wc.cell? ⟨b, o + q * 4 + 3, none⟩ = some (.int .i64 (S.Z 2 q 3)) := old_at c3 (by rw [← hwc]; exact (Below.refl _ _).alloc (Nat.le_refl _) _)
            exact ⟨HF.out _ _ h0 hW, old_at hx hW, old_at hy hW⟩
          rw [hwc]
          clear hwc HAL hsb
          go_wp2_with fail
          go_loopw [6] (fun i wr => ∃ m : Nat, m ≤ q ∧ i = .int .i64 m ∧ (∀ j, j < m → S.Z 2 j 3 ≠ S.Z 2 q 3) ∧ Below wc.heap.size wc wr) (fun i _ => q - (intOf i).toNat)
          case atStart => exact ⟨0, by omega, rfl, fun j h => absurd h (by omega), Below.refl _ _⟩
          case round =>
            obtain ⟨m, hm, rfl, hall, hb⟩ := hrel
            obtain ⟨wd, hwd⟩ : ∃ x, x = wr := ⟨_, rfl⟩
            subst hwd
            have HAd := Lib.hid hall
            have HBd := Lib.hid hb
            clear hall hb
            obtain ⟨hb0, c3, -⟩ := HCc.out wd HBd.out
            obtain ⟨d0, d1, d2, d3, d4⟩ := HD'.out wd hb0
            by_cases hlm : m < q
            · obtain ⟨b', o', hA', hl', hs', hz'⟩ := (HE.out wd hb0).rows 2 (by decide) m (by omega)
              rw [hA'] at d2
              have x3 : wd.cell? ⟨b', o' + m * 4 + 3, none⟩ = some (.int .i64 (S.Z 2 m 3)) := hz' 3 (by decide) (by decide)
              clear hs' hz' hA'
              by_cases heq : S.Z 2 m 3 = S.Z 2 q 3
              · go_wp2_with fail
                all_goals (try (exfalso; omega))
                go_quiet (fail)
                go_wp2_with fail
                all_goals (try (exfalso; omega))
                all_goals (go_ret; exact ⟨yes_no _, HG.out _ (below_drewN hb0 _)⟩)
              · go_wp2_with fail
                all_goals (try (exfalso; omega))
                go_quiet (fail)
                go_wp2_with fail
                all_goals (try (exfalso; omega))
                go_roundw
                case rel => exact ⟨m + 1, by omega, by go_num, all_snoc HAd.out heq, below_drewN HBd.out _⟩
                case measure => simp [intOf] <;> omega
            · have HQ : Hid (∀ j, j < q + 1 → CtP (S.n 1) (S.Z 2 j) ∧ ∀ i, i < j → S.Z 2 i 3 ≠ S.Z 2 j 3) := Lib.hid (all_snoc HAb.out ⟨HCT.out, fun i hi => HAd.out i (by omega)⟩)
              go_wp2_with fail
              all_goals (try (exfalso; omega))
              go_roundw
              case rel => exact ⟨q + 1, by omega, by go_num, HQ.out, hb0⟩
              case measure => simp [intOf] <;> omega
        · have HCT : Hid (∀ i, i < S.n 2 → CtP (S.n 1) (S.Z 2 i) ∧ ∀ k, k < i → S.Z 2 k 3 ≠ S.Z 2 i 3) := Lib.hid fun i hi => HAb.out i (by omega)
          go_wp2_with fail
          all_goals (try (exfalso; omega))
          go_loopw [7] (fun i wr => ∃ k : Nat, k ≤ S.n 3 ∧ i = .int .i64 k ∧ (∀ j, j < k → ChP (S.Z 3 j) ∧ (0 ≤ S.Z 3 j 1 ∧ S.Z 3 j 1 ≤ (S.n 0 : Int) - 1) ∧ (0 ≤ S.Z 3 j 7 ∧ S.Z 3 j 7 ≤ (S.n 1 : Int) - 1)) ∧ Below W0.heap.size W0 wr) (fun i _ => S.n 3 - (intOf i).toNat)
          case atStart => exact ⟨0, by omega, rfl, fun j h => absurd h (by omega), HBb.out⟩
          case round =>
            obtain ⟨m, hm, rfl, hall, hb⟩ := hrel
            obtain ⟨wd, hwd⟩ : ∃ x, x = wr := ⟨_, rfl⟩
            subst hwd
            have HAd := Lib.hid hall
            have HBd := Lib.hid hb
            clear hall hb d0 d1 d2 d3 d4
            obtain ⟨d0, d1, d2, d3, d4⟩ := HD'.out wd HBd.out
            by_cases hlm : m < S.n 3
            · obtain ⟨b, o, hA, hl, hs, hz⟩ := (HE.out wd HBd.out).rows 3 (by decide) m (by omega)
              rw [hA] at d3
              have c0 : wd.cell? ⟨b, o + m * 8, none⟩ = some (.string (S.N 3 m)) := hs
              have c1 : wd.cell? ⟨b, o + m * 8 + 1, none⟩ = some (.int .i64 (S.Z 3 m 1)) := hz 1 (by decide) (by decide)
              have c2 : wd.cell? ⟨b, o + m * 8 + 2, none⟩ = some (.int .i64 (S.Z 3 m 2)) := hz 2 (by decide) (by decide)
              have c3 : wd.cell? ⟨b, o + m * 8 + 3, none⟩ = some (.int .i64 (S.Z 3 m 3)) := hz 3 (by decide) (by decide)
              have c4 : wd.cell? ⟨b, o + m * 8 + 4, none⟩ = some (.int .i64 (S.Z 3 m 4)) := hz 4 (by decide) (by decide)
              have c5 : wd.cell? ⟨b, o + m * 8 + 5, none⟩ = some (.int .i64 (S.Z 3 m 5)) := hz 5 (by decide) (by decide)
              have c6 : wd.cell? ⟨b, o + m * 8 + 6, none⟩ = some (.int .i64 (S.Z 3 m 6)) := hz 6 (by decide) (by decide)
              have c7 : wd.cell? ⟨b, o + m * 8 + 7, none⟩ = some (.int .i64 (S.Z 3 m 7)) := hz 7 (by decide) (by decide)
              clear hs hz hA
              go_upto_region 23 with fail
              all_goals (try (exfalso; omega))
              obtain ⟨we, hwe⟩ : ∃ x, wd.alloc (.cells #[.string (S.N 3 m), .int .i64 (S.Z 3 m 1), .int .i64 (S.Z 3 m 2), .int .i64 (S.Z 3 m 3), .int .i64 (S.Z 3 m 4), .int .i64 (S.Z 3 m 5), .int .i64 (S.Z 3 m 6), .int .i64 (S.Z 3 m 7)] 83) = x := ⟨_, rfl⟩
              have HCe : Hid (∀ W, Below we.heap.size we W → Below W0.heap.size W0 W ∧ W.cell? ⟨wd.heap.size, 0, none⟩ = some (.string (S.N 3 m)) ∧ W.cell? ⟨wd.heap.size, 1, none⟩ = some (.int .i64 (S.Z 3 m 1)) ∧ W.cell? ⟨wd.heap.size, 2, none⟩ = some (.int .i64 (S.Z 3 m 2)) ∧ W.cell? ⟨wd.heap.size, 3, none⟩ = some (.int .i64 (S.Z 3 m 3)) ∧ W.cell? ⟨wd.heap.size, 4, none⟩ = some (.int .i64 (S.Z 3 m 4)) ∧ W.cell? ⟨wd.heap.size, 5, none⟩ = some (.int .i64 (S.Z 3 m 5)) ∧ W.cell? ⟨wd.heap.size, 6, none⟩ = some (.int .i64 (S.Z 3 m 6)) ∧ W.cell? ⟨wd.heap.size, 7, none⟩ = some (.int .i64 (S.Z 3 m 7))) := Lib.hid fun W hW => by
                have h0 : Below W0.heap.size W0 we := by rw [← hwe]; exact HBd.out.alloc (by have := HBd.out.size; omega) _
                have h1 : we.cell? ⟨wd.heap.size, 0, none⟩ = some (.string (S.N 3 m)) := by rw [← hwe]; simp
                have h2 : we.cell? ⟨wd.heap.size, 1, none⟩ = some (.int .i64 (S.Z 3 m 1)) := by rw [← hwe]; simp
                have h3 : we.cell? ⟨wd.heap.size, 2, none⟩ = some (.int .i64 (S.Z 3 m 2)) := by rw [← hwe]; simp
                have h4 : we.cell? ⟨wd.heap.size, 3, none⟩ = some (.int .i64 (S.Z 3 m 3)) := by rw [← hwe]; simp
                have h5 : we.cell? ⟨wd.heap.size, 4, none⟩ = some (.int .i64 (S.Z 3 m 4)) := by rw [← hwe]; simp
                have h6 : we.cell? ⟨wd.heap.size, 5, none⟩ = some (.int .i64 (S.Z 3 m 5)) := by rw [← hwe]; simp
                have h7 : we.cell? ⟨wd.heap.size, 6, none⟩ = some (.int .i64 (S.Z 3 m 6)) := by rw [← hwe]; simp
                have h8 : we.cell? ⟨wd.heap.size, 7, none⟩ = some (.int .i64 (S.Z 3 m 7)) := by rw [← hwe]; simp
                exact ⟨HF.out _ _ h0 hW, old_at h1 hW, old_at h2 hW, old_at h3 hW, old_at h4 hW, old_at h5 hW, old_at h6 hW, old_at h7 hW, old_at h8 hW⟩
              rw [hwe]
              clear hwe d0 d1 d2 d3 d4 c0 c1 c2 c3 c4 c5 c6 c7
              obtain ⟨hb0, f0, f1, f2, f3, f4, f5, f6, f7⟩ := HCe.out we (Below.refl _ _)
              have hw0 : IntKind.i64.wrap ((S.n 0 : Int) - 1) = (S.n 0 : Int) - 1 := IntWalk.i64_in _ (by omega)
              have hw1 : IntKind.i64.wrap ((S.n 1 : Int) - 1) = (S.n 1 : Int) - 1 := IntWalk.i64_in _ (by omega)
              go_wp2_with (first
                | (go_at_call 69; with_reducible refine (inside_det _ _ _ _).mono ?_; rintro e w1 ⟨rfl, hw⟩; obtain rfl := hw.symm)
                | (go_at_call 72; with_reducible refine (charger_any _ (S.Z 3 m) _).mono ?_; rintro e w2 ⟨hy, hb2⟩; obtain ⟨r, rfl, hr⟩ := yes_open hy; obtain ⟨hbx, g0, g1, g2, g3, g4, g5, g6, g7⟩ := HCe.out w2 hb2; obtain ⟨d0, d1, d2, d3, d4⟩ := HD'.out w2 hbx))
              all_goals (try (exfalso; omega))
              all_goals (try (go_ret; exact ⟨yes_no _, HG.out _ hbx⟩))
              have hrt : r = true := by first | assumption | (simpa using ‹(!r) = false›)
              have HCh : Hid (ChP (S.Z 3 m)) := Lib.hid (hr hrt)
              clear hr
              go_roundw
              case rel =>
                refine ⟨m + 1, by omega, by go_num, all_snoc HAd.out ⟨HCh.out, ?_, ?_⟩, hbx⟩
                all_goals (simp only [Bool.not_eq_false', decide_eq_true_eq] at *; omega)
              case measure => simp [intOf] <;> omega
            · have HCh : Hid (∀ i, i < S.n 3 → ChP (S.Z 3 i) ∧ (0 ≤ S.Z 3 i 1 ∧ S.Z 3 i 1 ≤ (S.n 0 : Int) - 1) ∧ (0 ≤ S.Z 3 i 7 ∧ S.Z 3 i 7 ≤ (S.n 1 : Int) - 1)) := Lib.hid fun i hi => HAd.out i (by omega)
              go_wp2_with fail
              all_goals (try (exfalso; omega))
              go_loopw [9] (fun i wr => ∃ k : Nat, k ≤ S.n 4 ∧ i = .int .i64 k ∧ (∀ j, j < k → 0 ≤ S.Z 4 j 1 ∧ S.Z 4 j 1 ≤ (S.n 3 : Int) - 1) ∧ Below W0.heap.size W0 wr) (fun i _ => S.n 4 - (intOf i).toNat)
              case atStart => exact ⟨0, by omega, rfl, fun j h => absurd h (by omega), HBd.out⟩
              case round =>
                obtain ⟨p, hp, rfl, hall, hb⟩ := hrel
                obtain ⟨we, hwe⟩ : ∃ x, x = wr := ⟨_, rfl⟩
                subst hwe
                have HAe := Lib.hid hall
                have HBe := Lib.hid hb
                clear hall hb d0 d1 d2 d3 d4
                obtain ⟨d0, d1, d2, d3, d4⟩ := HD'.out we HBe.out
                by_cases hlp : p < S.n 4
                · obtain ⟨b, o, hA, hl, hs, hz⟩ := (HE.out we HBe.out).rows 4 (by decide) p (by omega)
                  rw [hA] at d4
                  have c1 : we.cell? ⟨b, o + p * 2 + 1, none⟩ = some (.int .i64 (S.Z 4 p 1)) := hz 1 (by decide) (by decide)
                  clear hs hz hA
                  have hw1 : IntKind.i64.wrap ((S.n 3 : Int) - 1) = (S.n 3 : Int) - 1 := IntWalk.i64_in _ (by omega)
                  go_wp2_with fail
                  all_goals (try (exfalso; omega))
                  go_quiet (first | (go_at_call 69; with_reducible exact Calls.quiet_of_same (inside_det _ _ _ _)))
                  go_wp2_with fail
                  · go_ret
                    exact ⟨yes_no _, HG.out _ (below_drewN HBe.out _)⟩
                  · go_roundw
                    case rel => exact ⟨p + 1, by omega, by go_num, all_snoc HAe.out (by simp only [Bool.not_eq_false', decide_eq_true_eq] at *; omega), below_drewN HBe.out _⟩
                    case measure => simp [intOf] <;> omega
                · have HBy : Hid (∀ i, i < S.n 4 → 0 ≤ S.Z 4 i 1 ∧ S.Z 4 i 1 ≤ (S.n 3 : Int) - 1) := Lib.hid fun i hi => HAe.out i (by omega)
                  go_wp2_with fail
                  all_goals (try (exfalso; omega))
                  go_ret
                  exact ⟨yes_if fun _ => ⟨HSZ.out, HNP.out.1, HNP.out.2, HCO.out, HCT.out, HCh.out, HBy.out⟩, HG.out _ HBe.out⟩
end Go.Proofs.Ytkhmlbkkdflnoaa.Nm
