/-
  THE WALKS over package share, fifth part: Valid.
-/
import Derived.Test.YteeohndgkfilaaaDupb
namespace Go.Proofs.Yteeohndgkfilaaa
open Go.RowKit
set_option linter.unusedVariables false
attribute [local go_sem ↓] Go.wp_at_zero Go.wp_at_succ

/-- a share that can be -/
def vS (h nx : Int) (O : List (Int × Int)) (I : List Int) : Prop :=
  ((0 ≤ h ∧ h ≤ 1000) ∧ 1 ≤ nx ∧ nx ≤ 1000001) ∧ (O.length ≤ 64 ∧ I.length ≤ 64) ∧ (∀ i, i < O.length → vT (at2 O i) = true ∧ (at2 O i).1 < nx) ∧ (∀ i, i < I.length → isN (at1 I i) = true) ∧ IncT O ∧ Inc I
open Classical in
noncomputable def vB (h nx : Int) (O : List (Int × Int)) (I : List Int) : Bool := decide (vS h nx O I)
theorem vB_iff {h nx : Int} {O : List (Int × Int)} {I : List Int} : vB h nx O I = true ↔ vS h nx O I := by simp [vB]
theorem vB_no {h nx : Int} {O : List (Int × Int)} {I : List Int} (hx : ¬ vS h nx O I) : false = vB h nx O I := by
  have : ¬ vB h nx O I = true := fun e => hx (vB_iff.1 e)
  simpa using this

set_option maxRecDepth 100000 in
set_option maxHeartbeats 4000000 in
theorem val_any (h nx : Int) (A : Option Addr) (n c : Nat) (B : Option Addr) (m d : Nat) (lO : List (Int × Int)) (lI : List Int) (w : World) (hn : n ≤ 9223372036854775807) (hm : m ≤ 9223372036854775807) (hlO : lO.length = n) (hlI : lI.length = m) (hRO : RL w A (cT lO)) (hRI : RL w B (cI lI)) :
    Calls Try.prog 18 #[.agg #[.int .i64 h, .int .i64 nx, .slice A n c, .slice B m d]] w fun e w' => e = .returned (.bool (vB h nx lO lI)) ∧ Below w.heap.size w w' := by
  have HRO := Lib.hid hRO
  have HRI := Lib.hid hRI
  have HLO := Lib.hid hlO
  have HLI := Lib.hid hlI
  have HB : Hid (∀ o, Below w.heap.size w (w.alloc o)) := Lib.hid fun o => bel_a w o
  clear hRO hRI hlO hlI
  by_cases g1 : (0 ≤ h ∧ h ≤ 1000) ∧ 1 ≤ nx ∧ nx ≤ 1000001
  · have G1 := Lib.hid g1
    obtain ⟨⟨a1, a2⟩, a3, a4⟩ := g1
    have e2 : decide (1000 < h) = false := decide_eq_false (by omega)
    have e3 : decide (nx < 1) = false := decide_eq_false (by omega)
    have e4 : decide (1000001 < nx) = false := decide_eq_false (by omega)
    by_cases g2 : n ≤ 64 ∧ m ≤ 64
    · obtain ⟨a5, a6⟩ := g2
      have e6 : decide ((64 : Int) < (m : Int)) = false := decide_eq_false (by omega)
      go_enter Try.func18, Try.ntmps18
      go_wp2_with fail
      all_goals (try (exfalso; omega))
      have HBX := Lib.hid (OW.new w 25 [.int .i64 h, .int .i64 nx, .slice A n c, .slice B m d])
      have HW0 : Hid (Below w.heap.size w (w.alloc (.cells #[.int .i64 h, .int .i64 nx, .slice A n c, .slice B m d] 25))) := Lib.hid (bel_a w _)
      obtain ⟨wa, hwa⟩ : ∃ wa, w.alloc (.cells #[.int .i64 h, .int .i64 nx, .slice A n c, .slice B m d] 25) = wa := ⟨_, rfl⟩
      have HBX' : Hid (OW wa w.heap.size 25 [.int .i64 h, .int .i64 nx, .slice A n c, .slice B m d]) := Lib.hid (hwa ▸ HBX.out)
      rw [hwa] at HW0 ⊢
      clear hwa HBX HB
      obtain ⟨bx, hbx⟩ : ∃ b, w.heap.size = b := ⟨_, rfl⟩
      rw [hbx] at HBX' ⊢
      clear hbx
      go_loopw [40] (fun i wr => ∃ k : Nat, k ≤ n ∧ i = .int .i64 k ∧ (∀ i, i < k → vT (at2 lO i) = true ∧ (at2 lO i).1 < nx) ∧ Below wa.heap.size wa wr) (fun i _ => n - (intOf i).toNat)
      case atStart => exact ⟨0, Nat.zero_le _, rfl, fun i hi => by omega, Below.refl _ _⟩
      case round =>
        obtain ⟨k, hk, rfl, hall, hbw⟩ := hrel
        have HALL := Lib.hid hall
        have HBW := Lib.hid hbw
        clear hall hbw
        have bx1 := (HBX'.out.keep HBW.out).at (j := 1) rfl
        have bxl := (HBX'.out.keep HBW.out).lt
        by_cases hlt : k < n
        · obtain ⟨b, o, rfl, hb, c0, c1⟩ := ((HRO.out.keep HW0.out).keep HBW.out).t (i := k) (by have := HLO.out; omega)
          have i0 : (0 : Int) ≤ (k : Int) := by omega
          have i1 : (k : Int) < (n : Int) := by omega
          have HE : Hid ((at2 lO k) = ((at2 lO k).1, (at2 lO k).2)) := Lib.hid rfl
          generalize hp1 : (at2 lO k).1 = p1 at *
          generalize hp2 : (at2 lO k).2 = p2 at *
          clear hp1 hp2
          have HN1 := Lib.hid (World.new_ne wr _ bx1)
          cases hv : vT (p1, p2)
          · have HV := Lib.hid hv
            have hres : Hid (false = vB h nx lO lI) := Lib.hid (vB_no fun hx => by have := (hx.2.2.1 k (by have := HLO.out; omega)).1; rw [HE.out, hv] at this; cases this)
            clear hv
            go_wp2_with (go_at_call 25; with_reducible refine (valT _ _ _).mono ?_; rintro e w1 ⟨rfl, h1⟩; rw [HV.out])
            go_ret
            exact ⟨ret_bool hres.out, bel_step (bel_step HW0.out HBW.out) (bel_step (bel_a wr _) h1)⟩
          · have HV := Lib.hid hv
            clear hv
            by_cases hnx : nx ≤ p1
            · have hres : Hid (false = vB h nx lO lI) := Lib.hid (vB_no fun hx => by have := (hx.2.2.1 k (by have := HLO.out; omega)).2; rw [HE.out] at this; simp at this; omega)
              have e7 : decide (nx ≤ p1) = true := decide_eq_true hnx
              go_wp2_with (go_at_call 25; with_reducible refine (valT _ _ _).mono ?_; rintro e w1 ⟨rfl, h1⟩; rw [HV.out]
                           have y0 := ((OW.new wr 27 [.int .i64 p1, .int .i64 p2]).keep h1).at (j := 0) rfl
                           have y1 := (((HBX'.out.keep HBW.out).keep (bel_a wr _)).keep h1).at (j := 1) rfl)
              all_goals (try (exfalso; omega))
              go_ret
              exact ⟨ret_bool hres.out, bel_step (bel_step HW0.out HBW.out) (bel_step (bel_a wr _) h1)⟩
            · have e7 : decide (nx ≤ p1) = false := decide_eq_false hnx
              have HNX := Lib.hid (show p1 < nx by omega)
              clear hnx
              go_wp2_with (go_at_call 25; with_reducible refine (valT _ _ _).mono ?_; rintro e w1 ⟨rfl, h1⟩; rw [HV.out]
                           have y0 := ((OW.new wr 27 [.int .i64 p1, .int .i64 p2]).keep h1).at (j := 0) rfl
                           have y1 := (((HBX'.out.keep HBW.out).keep (bel_a wr _)).keep h1).at (j := 1) rfl)
              all_goals (try (exfalso; omega))
              go_roundw
              case rel => exact ⟨k + 1, by omega, by go_num, all_snoc HALL.out ⟨by rw [HE.out]; exact HV.out, by rw [HE.out]; exact HNX.out⟩, bel_step HBW.out (bel_step (bel_a wr _) h1)⟩
              case measure => simp [intOf] <;> omega
        · obtain rfl : k = n := by omega
          have bx2 := (HBX'.out.keep HBW.out).at (j := 2) rfl
          have bx3 := (HBX'.out.keep HBW.out).at (j := 3) rfl
          go_wp2_with fail
          obtain ⟨wf, rfl⟩ : ∃ wf, wf = wr := ⟨_, rfl⟩
          clear bx1 bx2 bx3
          go_loopw [58] (fun i w2 => ∃ q : Nat, q ≤ m ∧ i = .int .i64 q ∧ (∀ i, i < q → isN (at1 lI i) = true) ∧ wf = w2) (fun i _ => m - (intOf i).toNat)
          case atStart => exact ⟨0, Nat.zero_le _, rfl, fun i hi => by omega, rfl⟩
          case round =>
            obtain ⟨q, hq, rfl, hnum, rfl⟩ := hrel
            have HNUM := Lib.hid hnum
            clear hnum
            by_cases hlq : q < m
            · obtain ⟨b, o, rfl, hb, c0⟩ := ((HRI.out.keep HW0.out).keep HBW.out).i (i := q) (by have := HLI.out; omega)
              have i0 : (0 : Int) ≤ (q : Int) := by omega
              have i1 : (q : Int) < (m : Int) := by omega
              cases hv : isN (at1 lI q)
              · have HV := Lib.hid hv
                have hres : Hid (false = vB h nx lO lI) := Lib.hid (vB_no fun hx => by have := hx.2.2.2.1 q (by have := HLI.out; omega); rw [hv] at this; cases this)
                clear hv
                go_wp2_with (go_at_call 33; with_reducible refine (isNum _ _).mono ?_; rintro e w1 ⟨rfl, rfl⟩; rw [HV.out])
                go_ret
                exact ⟨ret_bool hres.out, bel_step HW0.out HBW.out⟩
              · have HV := Lib.hid hv
                clear hv
                go_wp2_with (go_at_call 33; with_reducible refine (isNum _ _).mono ?_; rintro e w1 ⟨rfl, rfl⟩; rw [HV.out])
                go_roundw
                case rel => exact ⟨q + 1, by omega, by go_num, all_snoc HNUM.out HV.out, by simp⟩
                case measure => simp [intOf] <;> omega
            · obtain rfl : q = m := by omega
              have bx2 := (HBX'.out.keep HBW.out).at (j := 2) rfl
              cases hi : incTB lO
              · have HV := Lib.hid hi
                have hres : Hid (false = vB h nx lO lI) := Lib.hid (vB_no fun hx => by have := incTB_iff.2 hx.2.2.2.2.1; rw [hi] at this; cases this)
                clear hi
                go_wp2_with (first
                  | (go_at_call 26; with_reducible refine (keys_any _).mono ?_; rintro e w1 ⟨rfl, rfl⟩)
                  | (go_at_call 34; with_reducible refine (inc_tr _ _ _ lO _ (by omega) HLO.out ((HRO.out.keep HW0.out).keep HBW.out)).mono ?_; rintro e w2 ⟨rfl, h2⟩; rw [HV.out]))
                go_ret
                exact ⟨ret_bool hres.out, bel_step (bel_step HW0.out HBW.out) h2⟩
              · have HV := Lib.hid hi
                have hres : Hid (incB lI = vB h nx lO lI) := Lib.hid (by
                  cases hj : incB lI
                  · exact vB_no fun hx => by have := incB_iff.2 hx.2.2.2.2.2; rw [hj] at this; cases this
                  · exact (vB_iff.2 ⟨G1.out, ⟨by have := HLO.out; omega, by have := HLI.out; omega⟩, fun i hi => HALL.out i (by have := HLO.out; omega), fun i hi => HNUM.out i (by have := HLI.out; omega), incTB_iff.1 hi, incB_iff.1 hj⟩).symm)
                clear hi
                go_wp2_with (first
                  | (go_at_call 26; with_reducible refine (keys_any _).mono ?_; rintro e w1 ⟨rfl, rfl⟩)
                  | (go_at_call 34; with_reducible refine (inc_tr _ _ _ lO _ (by omega) HLO.out ((HRO.out.keep HW0.out).keep HBW.out)).mono ?_; rintro e w2 ⟨rfl, h2⟩; rw [HV.out]
                     have bx3 := ((HBX'.out.keep HBW.out).keep h2).at (j := 3) rfl)
                  | (go_at_call 35; with_reducible refine (inc_int _ _ _ lI _ (by omega) HLI.out (((HRI.out.keep HW0.out).keep HBW.out).keep h2)).mono ?_; rintro e w3 ⟨rfl, h3⟩))
                go_ret
                exact ⟨ret_bool hres.out, bel_step (bel_step (bel_step HW0.out HBW.out) h2) h3⟩
    · have hres : Hid (false = vB h nx lO lI) := Lib.hid (vB_no fun hx => g2 ⟨by have := HLO.out; have := hx.2.1.1; omega, by have := HLI.out; have := hx.2.1.2; omega⟩)
      by_cases g3 : 64 < n
      · go_enter Try.func18, Try.ntmps18
        go_wp2_with fail
        all_goals (try (exfalso; omega))
        go_ret
        exact ⟨ret_bool hres.out, HB.out _⟩
      · have e6 : decide ((64 : Int) < (m : Int)) = true := decide_eq_true (by omega)
        go_enter Try.func18, Try.ntmps18
        go_wp2_with fail
        all_goals (try (exfalso; omega))
        go_ret
        exact ⟨ret_bool hres.out, HB.out _⟩
  · have hres : Hid (false = vB h nx lO lI) := Lib.hid (vB_no fun hx => g1 hx.1)
    have hd : h < 0 ∨ (0 ≤ h ∧ 1000 < h) ∨ (0 ≤ h ∧ h ≤ 1000 ∧ nx < 1) ∨ (0 ≤ h ∧ h ≤ 1000 ∧ 1 ≤ nx ∧ 1000001 < nx) := by omega
    clear g1
    rcases hd with a1 | ⟨a1, a2⟩ | ⟨a1, a2, a3⟩ | ⟨a1, a2, a3, a4⟩
    · go_enter Try.func18, Try.ntmps18
      go_wp2_with fail
      all_goals (try (exfalso; omega))
      go_ret
      exact ⟨ret_bool hres.out, HB.out _⟩
    · have e2 : decide (1000 < h) = true := decide_eq_true a2
      go_enter Try.func18, Try.ntmps18
      go_wp2_with fail
      all_goals (try (exfalso; omega))
      go_ret
      exact ⟨ret_bool hres.out, HB.out _⟩
    · have e2 : decide (1000 < h) = false := decide_eq_false (by omega)
      have e3 : decide (nx < 1) = true := decide_eq_true a3
      go_enter Try.func18, Try.ntmps18
      go_wp2_with fail
      all_goals (try (exfalso; omega))
      go_ret
      exact ⟨ret_bool hres.out, HB.out _⟩
    · have e2 : decide (1000 < h) = false := decide_eq_false (by omega)
      have e3 : decide (nx < 1) = false := decide_eq_false (by omega)
      have e4 : decide (1000001 < nx) = true := decide_eq_true a4
      go_enter Try.func18, Try.ntmps18
      go_wp2_with fail
      all_goals (try (exfalso; omega))
      go_ret
      exact ⟨ret_bool hres.out, HB.out _⟩
end Go.Proofs.Yteeohndgkfilaaa
