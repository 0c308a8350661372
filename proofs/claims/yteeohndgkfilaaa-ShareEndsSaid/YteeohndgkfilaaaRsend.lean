/-
  THE REFERENCE's Send.
-/
import Derived.Test.YteeohndgkfilaaaRefv
import Derived.Test.YteeohndgkfilaaaOwn
namespace Go.Proofs.Yteeohndgkfilaaa
open Go.RowKit
set_option linter.unusedVariables false
attribute [local go_sem ↓] Go.wp_at_zero Go.wp_at_succ

set_option maxRecDepth 100000 in
set_option maxHeartbeats 4000000 in
theorem rsend_b1 (h nx : Int) (A : Option Addr) (n c : Nat) (B : Option Addr) (m d : Nat) (O : List (Int × Int)) (I : List Int) (a : Int) (w : World) (hn : n ≤ 9223372036854775807) (hm : m ≤ 9223372036854775807) (hlO : O.length = n) (hlI : I.length = m) (hRO : RL w A (cT O)) (hRI : RL w B (cI I)) (hv : vB h nx O I = false) :
    Calls Try.prog 12 #[.agg #[.int .i64 h, .int .i64 nx, .slice A n c, .slice B m d], .int .i64 a] w fun e w' => e = .returned (.tuple #[zS, .agg #[.int .i64 0, .int .i64 0], .int .i64 1]) ∧ Below w.heap.size w w' := by
  have HV := Lib.hid hv
  have HRO := Lib.hid hRO
  have HRI := Lib.hid hRI
  have HLO := Lib.hid hlO
  have HLI := Lib.hid hlI

  clear hv hRO hRI hlO hlI
  go_enter Try.func12, Try.ntmps12
  go_wp2_with (go_at_call 19; with_reducible refine (rval_any h nx A n c B m d O I _ hn hm HLO.out HLI.out (HRO.out.keep (bel_alloc (bel_alloc (bel_a w _) _) _)) (HRI.out.keep (bel_alloc (bel_alloc (bel_a w _) _) _))).mono ?_; rintro e w1 ⟨rfl, h1⟩; rw [HV.out]
               have H1 := Lib.hid (bel_step (bel_alloc (bel_alloc (bel_a w (.cells #[.int .i64 h, .int .i64 nx, .slice A n c, .slice B m d] 25)) (.cells #[.int .i64 0, .int .i64 0, .slice none 0 0, .slice none 0 0] 25)) (.cells #[.int .i64 0, .int .i64 0] 27)) h1)
               have p0 := (((OW.new w 25 [.int .i64 h, .int .i64 nx, .slice A n c, .slice B m d]).alloc (.cells #[.int .i64 0, .int .i64 0, .slice none 0 0, .slice none 0 0] 25)).alloc (.cells #[.int .i64 0, .int .i64 0] 27)).keep h1
               have p1 := ((OW.new1 w (.cells #[.int .i64 h, .int .i64 nx, .slice A n c, .slice B m d] 25) 25 [.int .i64 0, .int .i64 0, .slice none 0 0, .slice none 0 0]).alloc (.cells #[.int .i64 0, .int .i64 0] 27)).keep h1
               have p2 := (OW.new2 w (.cells #[.int .i64 h, .int .i64 nx, .slice A n c, .slice B m d] 25) (.cells #[.int .i64 0, .int .i64 0, .slice none 0 0, .slice none 0 0] 25) 27 [.int .i64 0, .int .i64 0]).keep h1
               have c00 := p0.at (j := 0) rfl
               have c01 := p0.at (j := 1) rfl
               have c02 := p0.at (j := 2) rfl
               have c03 := p0.at (j := 3) rfl
               have c10 := p1.at (j := 0) rfl
               have c11 := p1.at (j := 1) rfl
               have c12 := p1.at (j := 2) rfl
               have c13 := p1.at (j := 3) rfl
               have z10 := p1.thaw 0
               have z11 := p1.thaw 1
               have z12 := p1.thaw 2
               have z13 := p1.thaw 3
               have c20 := p2.at (j := 0) rfl
               have c21 := p2.at (j := 1) rfl
               have z20 := p2.thaw 0
               have z21 := p2.thaw 1
               have P1 := Lib.hid p1
               have P2 := Lib.hid p2
               clear p0 p1 p2 h1)
  all_goals (try (exfalso; omega))
  have f1 := (((((P1.out.set 0 (.int .i64 0)).set 1 (.int .i64 0)).set 2 (.slice none 0 0)).set 3 (.slice none 0 0)).far (b := w.heap.size + 1 + 1) (by omega) 0 (.int .i64 0)).far (b := w.heap.size + 1 + 1) (by omega) 1 (.int .i64 0)
  have f2 := (((((P2.out.far (b := w.heap.size + 1) (by omega) 0 (.int .i64 0)).far (b := w.heap.size + 1) (by omega) 1 (.int .i64 0)).far (b := w.heap.size + 1) (by omega) 2 (.slice none 0 0)).far (b := w.heap.size + 1) (by omega) 3 (.slice none 0 0)).set 0 (.int .i64 0)).set 1 (.int .i64 0)
  have fb := (((((H1.out.setCell (p := ⟨w.heap.size + 1, 0, none⟩) (by show w.heap.size ≤ w.heap.size + 1; omega) (.int .i64 0)).setCell (p := ⟨w.heap.size + 1, 1, none⟩) (by show w.heap.size ≤ w.heap.size + 1; omega) (.int .i64 0)).setCell (p := ⟨w.heap.size + 1, 2, none⟩) (by show w.heap.size ≤ w.heap.size + 1; omega) (.slice none 0 0)).setCell (p := ⟨w.heap.size + 1, 3, none⟩) (by show w.heap.size ≤ w.heap.size + 1; omega) (.slice none 0 0)).setCell (p := ⟨w.heap.size + 1 + 1, 0, none⟩) (by show w.heap.size ≤ w.heap.size + 1 + 1; omega) (.int .i64 0)).setCell (p := ⟨w.heap.size + 1 + 1, 1, none⟩) (by show w.heap.size ≤ w.heap.size + 1 + 1; omega) (.int .i64 0)
  obtain ⟨wF, hwF⟩ : ∃ wF, (((((w1.setCell ⟨w.heap.size + 1, 0, none⟩ (.int .i64 0)).setCell ⟨w.heap.size + 1, 1, none⟩ (.int .i64 0)).setCell ⟨w.heap.size + 1, 2, none⟩ (.slice none 0 0)).setCell ⟨w.heap.size + 1, 3, none⟩ (.slice none 0 0)).setCell ⟨w.heap.size + 1 + 1, 0, none⟩ (.int .i64 0)).setCell ⟨w.heap.size + 1 + 1, 1, none⟩ (.int .i64 0) = wF := ⟨_, rfl⟩
  rw [hwF] at f1 f2 fb ⊢
  have d0 : wF.cell? ⟨w.heap.size + 1, 0, none⟩ = some (.int .i64 0) := f1.at rfl
  have d1 : wF.cell? ⟨w.heap.size + 1, 1, none⟩ = some (.int .i64 0) := f1.at rfl
  have d2 : wF.cell? ⟨w.heap.size + 1, 2, none⟩ = some (.slice none 0 0) := f1.at rfl
  have d3 : wF.cell? ⟨w.heap.size + 1, 3, none⟩ = some (.slice none 0 0) := f1.at rfl
  have d4 : wF.cell? ⟨w.heap.size + 1 + 1, 0, none⟩ = some (.int .i64 0) := f2.at rfl
  have d5 : wF.cell? ⟨w.heap.size + 1 + 1, 1, none⟩ = some (.int .i64 0) := f2.at rfl
  (try simp only [Exit.inBlock, Exit.then])
  refine bodyPost_ret (by simp [results, Try.results12, go_sem, d0, d1, d2, d3, d4, d5]; try rfl) rfl ?_
  exact ⟨rfl, fb⟩

set_option maxRecDepth 100000 in
set_option maxHeartbeats 4000000 in
theorem rsend_b2 (h nx : Int) (A : Option Addr) (n c : Nat) (B : Option Addr) (m d : Nat) (O : List (Int × Int)) (I : List Int) (a : Int) (w : World) (hn : n ≤ 9223372036854775807) (hm : m ≤ 9223372036854775807) (hlO : O.length = n) (hlI : I.length = m) (hRO : RL w A (cT O)) (hRI : RL w B (cI I)) (hv : vB h nx O I = true) (ha : a < 1) :
    Calls Try.prog 12 #[.agg #[.int .i64 h, .int .i64 nx, .slice A n c, .slice B m d], .int .i64 a] w fun e w' => e = .returned (.tuple #[zS, .agg #[.int .i64 0, .int .i64 0], .int .i64 1]) ∧ Below w.heap.size w w' := by
  have HV := Lib.hid hv
  have HRO := Lib.hid hRO
  have HRI := Lib.hid hRI
  have HLO := Lib.hid hlO
  have HLI := Lib.hid hlI
  have hvs := vB_iff.1 hv
  have hh2 := hvs.1
  have hn64 : n ≤ 64 := by have := hvs.2.1; omega
  have hm64 : m ≤ 64 := by have := hvs.2.1; omega
  obtain ⟨⟨b1, b2⟩, b3, b4⟩ := hh2
  clear hvs
  have e1 : decide (a < 1) = true := decide_eq_true ha
  clear hv hRO hRI hlO hlI
  go_enter Try.func12, Try.ntmps12
  go_wp2_with (go_at_call 19; with_reducible refine (rval_any h nx A n c B m d O I _ hn hm HLO.out HLI.out (HRO.out.keep (bel_alloc (bel_alloc (bel_a w _) _) _)) (HRI.out.keep (bel_alloc (bel_alloc (bel_a w _) _) _))).mono ?_; rintro e w1 ⟨rfl, h1⟩; rw [HV.out]
               have H1 := Lib.hid (bel_step (bel_alloc (bel_alloc (bel_a w (.cells #[.int .i64 h, .int .i64 nx, .slice A n c, .slice B m d] 25)) (.cells #[.int .i64 0, .int .i64 0, .slice none 0 0, .slice none 0 0] 25)) (.cells #[.int .i64 0, .int .i64 0] 27)) h1)
               have p0 := (((OW.new w 25 [.int .i64 h, .int .i64 nx, .slice A n c, .slice B m d]).alloc (.cells #[.int .i64 0, .int .i64 0, .slice none 0 0, .slice none 0 0] 25)).alloc (.cells #[.int .i64 0, .int .i64 0] 27)).keep h1
               have p1 := ((OW.new1 w (.cells #[.int .i64 h, .int .i64 nx, .slice A n c, .slice B m d] 25) 25 [.int .i64 0, .int .i64 0, .slice none 0 0, .slice none 0 0]).alloc (.cells #[.int .i64 0, .int .i64 0] 27)).keep h1
               have p2 := (OW.new2 w (.cells #[.int .i64 h, .int .i64 nx, .slice A n c, .slice B m d] 25) (.cells #[.int .i64 0, .int .i64 0, .slice none 0 0, .slice none 0 0] 25) 27 [.int .i64 0, .int .i64 0]).keep h1
               have c00 := p0.at (j := 0) rfl
               have c01 := p0.at (j := 1) rfl
               have c02 := p0.at (j := 2) rfl
               have c03 := p0.at (j := 3) rfl
               have c10 := p1.at (j := 0) rfl
               have c11 := p1.at (j := 1) rfl
               have c12 := p1.at (j := 2) rfl
               have c13 := p1.at (j := 3) rfl
               have z10 := p1.thaw 0
               have z11 := p1.thaw 1
               have z12 := p1.thaw 2
               have z13 := p1.thaw 3
               have c20 := p2.at (j := 0) rfl
               have c21 := p2.at (j := 1) rfl
               have z20 := p2.thaw 0
               have z21 := p2.thaw 1
               have P1 := Lib.hid p1
               have P2 := Lib.hid p2
               clear p0 p1 p2 h1)
  all_goals (try (exfalso; omega))
  have f1 := (((((P1.out.set 0 (.int .i64 0)).set 1 (.int .i64 0)).set 2 (.slice none 0 0)).set 3 (.slice none 0 0)).far (b := w.heap.size + 1 + 1) (by omega) 0 (.int .i64 0)).far (b := w.heap.size + 1 + 1) (by omega) 1 (.int .i64 0)
  have f2 := (((((P2.out.far (b := w.heap.size + 1) (by omega) 0 (.int .i64 0)).far (b := w.heap.size + 1) (by omega) 1 (.int .i64 0)).far (b := w.heap.size + 1) (by omega) 2 (.slice none 0 0)).far (b := w.heap.size + 1) (by omega) 3 (.slice none 0 0)).set 0 (.int .i64 0)).set 1 (.int .i64 0)
  have fb := (((((H1.out.setCell (p := ⟨w.heap.size + 1, 0, none⟩) (by show w.heap.size ≤ w.heap.size + 1; omega) (.int .i64 0)).setCell (p := ⟨w.heap.size + 1, 1, none⟩) (by show w.heap.size ≤ w.heap.size + 1; omega) (.int .i64 0)).setCell (p := ⟨w.heap.size + 1, 2, none⟩) (by show w.heap.size ≤ w.heap.size + 1; omega) (.slice none 0 0)).setCell (p := ⟨w.heap.size + 1, 3, none⟩) (by show w.heap.size ≤ w.heap.size + 1; omega) (.slice none 0 0)).setCell (p := ⟨w.heap.size + 1 + 1, 0, none⟩) (by show w.heap.size ≤ w.heap.size + 1 + 1; omega) (.int .i64 0)).setCell (p := ⟨w.heap.size + 1 + 1, 1, none⟩) (by show w.heap.size ≤ w.heap.size + 1 + 1; omega) (.int .i64 0)
  obtain ⟨wF, hwF⟩ : ∃ wF, (((((w1.setCell ⟨w.heap.size + 1, 0, none⟩ (.int .i64 0)).setCell ⟨w.heap.size + 1, 1, none⟩ (.int .i64 0)).setCell ⟨w.heap.size + 1, 2, none⟩ (.slice none 0 0)).setCell ⟨w.heap.size + 1, 3, none⟩ (.slice none 0 0)).setCell ⟨w.heap.size + 1 + 1, 0, none⟩ (.int .i64 0)).setCell ⟨w.heap.size + 1 + 1, 1, none⟩ (.int .i64 0) = wF := ⟨_, rfl⟩
  rw [hwF] at f1 f2 fb ⊢
  have d0 : wF.cell? ⟨w.heap.size + 1, 0, none⟩ = some (.int .i64 0) := f1.at rfl
  have d1 : wF.cell? ⟨w.heap.size + 1, 1, none⟩ = some (.int .i64 0) := f1.at rfl
  have d2 : wF.cell? ⟨w.heap.size + 1, 2, none⟩ = some (.slice none 0 0) := f1.at rfl
  have d3 : wF.cell? ⟨w.heap.size + 1, 3, none⟩ = some (.slice none 0 0) := f1.at rfl
  have d4 : wF.cell? ⟨w.heap.size + 1 + 1, 0, none⟩ = some (.int .i64 0) := f2.at rfl
  have d5 : wF.cell? ⟨w.heap.size + 1 + 1, 1, none⟩ = some (.int .i64 0) := f2.at rfl
  (try simp only [Exit.inBlock, Exit.then])
  refine bodyPost_ret (by simp [results, Try.results12, go_sem, d0, d1, d2, d3, d4, d5]; try rfl) rfl ?_
  exact ⟨rfl, fb⟩

set_option maxRecDepth 100000 in
set_option maxHeartbeats 4000000 in
theorem rsend_b3 (h nx : Int) (A : Option Addr) (n c : Nat) (B : Option Addr) (m d : Nat) (O : List (Int × Int)) (I : List Int) (a : Int) (w : World) (hn : n ≤ 9223372036854775807) (hm : m ≤ 9223372036854775807) (hlO : O.length = n) (hlI : I.length = m) (hRO : RL w A (cT O)) (hRI : RL w B (cI I)) (hv : vB h nx O I = true) (ha : 1000 < a) :
    Calls Try.prog 12 #[.agg #[.int .i64 h, .int .i64 nx, .slice A n c, .slice B m d], .int .i64 a] w fun e w' => e = .returned (.tuple #[zS, .agg #[.int .i64 0, .int .i64 0], .int .i64 1]) ∧ Below w.heap.size w w' := by
  have HV := Lib.hid hv
  have HRO := Lib.hid hRO
  have HRI := Lib.hid hRI
  have HLO := Lib.hid hlO
  have HLI := Lib.hid hlI
  have hvs := vB_iff.1 hv
  have hh2 := hvs.1
  have hn64 : n ≤ 64 := by have := hvs.2.1; omega
  have hm64 : m ≤ 64 := by have := hvs.2.1; omega
  obtain ⟨⟨b1, b2⟩, b3, b4⟩ := hh2
  clear hvs
  have e1 : decide (a < 1) = false := decide_eq_false (by omega)
  have e2 : decide (1000 < a) = true := decide_eq_true ha
  clear hv hRO hRI hlO hlI
  go_enter Try.func12, Try.ntmps12
  go_wp2_with (go_at_call 19; with_reducible refine (rval_any h nx A n c B m d O I _ hn hm HLO.out HLI.out (HRO.out.keep (bel_alloc (bel_alloc (bel_a w _) _) _)) (HRI.out.keep (bel_alloc (bel_alloc (bel_a w _) _) _))).mono ?_; rintro e w1 ⟨rfl, h1⟩; rw [HV.out]
               have H1 := Lib.hid (bel_step (bel_alloc (bel_alloc (bel_a w (.cells #[.int .i64 h, .int .i64 nx, .slice A n c, .slice B m d] 25)) (.cells #[.int .i64 0, .int .i64 0, .slice none 0 0, .slice none 0 0] 25)) (.cells #[.int .i64 0, .int .i64 0] 27)) h1)
               have p0 := (((OW.new w 25 [.int .i64 h, .int .i64 nx, .slice A n c, .slice B m d]).alloc (.cells #[.int .i64 0, .int .i64 0, .slice none 0 0, .slice none 0 0] 25)).alloc (.cells #[.int .i64 0, .int .i64 0] 27)).keep h1
               have p1 := ((OW.new1 w (.cells #[.int .i64 h, .int .i64 nx, .slice A n c, .slice B m d] 25) 25 [.int .i64 0, .int .i64 0, .slice none 0 0, .slice none 0 0]).alloc (.cells #[.int .i64 0, .int .i64 0] 27)).keep h1
               have p2 := (OW.new2 w (.cells #[.int .i64 h, .int .i64 nx, .slice A n c, .slice B m d] 25) (.cells #[.int .i64 0, .int .i64 0, .slice none 0 0, .slice none 0 0] 25) 27 [.int .i64 0, .int .i64 0]).keep h1
               have c00 := p0.at (j := 0) rfl
               have c01 := p0.at (j := 1) rfl
               have c02 := p0.at (j := 2) rfl
               have c03 := p0.at (j := 3) rfl
               have c10 := p1.at (j := 0) rfl
               have c11 := p1.at (j := 1) rfl
               have c12 := p1.at (j := 2) rfl
               have c13 := p1.at (j := 3) rfl
               have z10 := p1.thaw 0
               have z11 := p1.thaw 1
               have z12 := p1.thaw 2
               have z13 := p1.thaw 3
               have c20 := p2.at (j := 0) rfl
               have c21 := p2.at (j := 1) rfl
               have z20 := p2.thaw 0
               have z21 := p2.thaw 1
               have P1 := Lib.hid p1
               have P2 := Lib.hid p2
               clear p0 p1 p2 h1)
  all_goals (try (exfalso; omega))
  have f1 := (((((P1.out.set 0 (.int .i64 0)).set 1 (.int .i64 0)).set 2 (.slice none 0 0)).set 3 (.slice none 0 0)).far (b := w.heap.size + 1 + 1) (by omega) 0 (.int .i64 0)).far (b := w.heap.size + 1 + 1) (by omega) 1 (.int .i64 0)
  have f2 := (((((P2.out.far (b := w.heap.size + 1) (by omega) 0 (.int .i64 0)).far (b := w.heap.size + 1) (by omega) 1 (.int .i64 0)).far (b := w.heap.size + 1) (by omega) 2 (.slice none 0 0)).far (b := w.heap.size + 1) (by omega) 3 (.slice none 0 0)).set 0 (.int .i64 0)).set 1 (.int .i64 0)
  have fb := (((((H1.out.setCell (p := ⟨w.heap.size + 1, 0, none⟩) (by show w.heap.size ≤ w.heap.size + 1; omega) (.int .i64 0)).setCell (p := ⟨w.heap.size + 1, 1, none⟩) (by show w.heap.size ≤ w.heap.size + 1; omega) (.int .i64 0)).setCell (p := ⟨w.heap.size + 1, 2, none⟩) (by show w.heap.size ≤ w.heap.size + 1; omega) (.slice none 0 0)).setCell (p := ⟨w.heap.size + 1, 3, none⟩) (by show w.heap.size ≤ w.heap.size + 1; omega) (.slice none 0 0)).setCell (p := ⟨w.heap.size + 1 + 1, 0, none⟩) (by show w.heap.size ≤ w.heap.size + 1 + 1; omega) (.int .i64 0)).setCell (p := ⟨w.heap.size + 1 + 1, 1, none⟩) (by show w.heap.size ≤ w.heap.size + 1 + 1; omega) (.int .i64 0)
  obtain ⟨wF, hwF⟩ : ∃ wF, (((((w1.setCell ⟨w.heap.size + 1, 0, none⟩ (.int .i64 0)).setCell ⟨w.heap.size + 1, 1, none⟩ (.int .i64 0)).setCell ⟨w.heap.size + 1, 2, none⟩ (.slice none 0 0)).setCell ⟨w.heap.size + 1, 3, none⟩ (.slice none 0 0)).setCell ⟨w.heap.size + 1 + 1, 0, none⟩ (.int .i64 0)).setCell ⟨w.heap.size + 1 + 1, 1, none⟩ (.int .i64 0) = wF := ⟨_, rfl⟩
  rw [hwF] at f1 f2 fb ⊢
  have d0 : wF.cell? ⟨w.heap.size + 1, 0, none⟩ = some (.int .i64 0) := f1.at rfl
  have d1 : wF.cell? ⟨w.heap.size + 1, 1, none⟩ = some (.int .i64 0) := f1.at rfl
  have d2 : wF.cell? ⟨w.heap.size + 1, 2, none⟩ = some (.slice none 0 0) := f1.at rfl
  have d3 : wF.cell? ⟨w.heap.size + 1, 3, none⟩ = some (.slice none 0 0) := f1.at rfl
  have d4 : wF.cell? ⟨w.heap.size + 1 + 1, 0, none⟩ = some (.int .i64 0) := f2.at rfl
  have d5 : wF.cell? ⟨w.heap.size + 1 + 1, 1, none⟩ = some (.int .i64 0) := f2.at rfl
  (try simp only [Exit.inBlock, Exit.then])
  refine bodyPost_ret (by simp [results, Try.results12, go_sem, d0, d1, d2, d3, d4, d5]; try rfl) rfl ?_
  exact ⟨rfl, fb⟩

set_option maxRecDepth 100000 in
set_option maxHeartbeats 4000000 in
theorem rsend_b4 (h nx : Int) (A : Option Addr) (n c : Nat) (B : Option Addr) (m d : Nat) (O : List (Int × Int)) (I : List Int) (a : Int) (w : World) (hn : n ≤ 9223372036854775807) (hm : m ≤ 9223372036854775807) (hlO : O.length = n) (hlI : I.length = m) (hRO : RL w A (cT O)) (hRI : RL w B (cI I)) (hv : vB h nx O I = true) (ha : 1 ≤ a ∧ a ≤ 1000) (hh : h < a) :
    Calls Try.prog 12 #[.agg #[.int .i64 h, .int .i64 nx, .slice A n c, .slice B m d], .int .i64 a] w fun e w' => e = .returned (.tuple #[zS, .agg #[.int .i64 0, .int .i64 0], .int .i64 13]) ∧ Below w.heap.size w w' := by
  have HV := Lib.hid hv
  have HRO := Lib.hid hRO
  have HRI := Lib.hid hRI
  have HLO := Lib.hid hlO
  have HLI := Lib.hid hlI
  have hvs := vB_iff.1 hv
  have hh2 := hvs.1
  have hn64 : n ≤ 64 := by have := hvs.2.1; omega
  have hm64 : m ≤ 64 := by have := hvs.2.1; omega
  obtain ⟨⟨b1, b2⟩, b3, b4⟩ := hh2
  clear hvs
  have e1 : decide (a < 1) = false := decide_eq_false (by omega)
  have e2 : decide (1000 < a) = false := decide_eq_false (by omega)
  clear hv hRO hRI hlO hlI
  go_enter Try.func12, Try.ntmps12
  go_wp2_with (go_at_call 19; with_reducible refine (rval_any h nx A n c B m d O I _ hn hm HLO.out HLI.out (HRO.out.keep (bel_alloc (bel_alloc (bel_a w _) _) _)) (HRI.out.keep (bel_alloc (bel_alloc (bel_a w _) _) _))).mono ?_; rintro e w1 ⟨rfl, h1⟩; rw [HV.out]
               have H1 := Lib.hid (bel_step (bel_alloc (bel_alloc (bel_a w (.cells #[.int .i64 h, .int .i64 nx, .slice A n c, .slice B m d] 25)) (.cells #[.int .i64 0, .int .i64 0, .slice none 0 0, .slice none 0 0] 25)) (.cells #[.int .i64 0, .int .i64 0] 27)) h1)
               have p0 := (((OW.new w 25 [.int .i64 h, .int .i64 nx, .slice A n c, .slice B m d]).alloc (.cells #[.int .i64 0, .int .i64 0, .slice none 0 0, .slice none 0 0] 25)).alloc (.cells #[.int .i64 0, .int .i64 0] 27)).keep h1
               have p1 := ((OW.new1 w (.cells #[.int .i64 h, .int .i64 nx, .slice A n c, .slice B m d] 25) 25 [.int .i64 0, .int .i64 0, .slice none 0 0, .slice none 0 0]).alloc (.cells #[.int .i64 0, .int .i64 0] 27)).keep h1
               have p2 := (OW.new2 w (.cells #[.int .i64 h, .int .i64 nx, .slice A n c, .slice B m d] 25) (.cells #[.int .i64 0, .int .i64 0, .slice none 0 0, .slice none 0 0] 25) 27 [.int .i64 0, .int .i64 0]).keep h1
               have c00 := p0.at (j := 0) rfl
               have c01 := p0.at (j := 1) rfl
               have c02 := p0.at (j := 2) rfl
               have c03 := p0.at (j := 3) rfl
               have c10 := p1.at (j := 0) rfl
               have c11 := p1.at (j := 1) rfl
               have c12 := p1.at (j := 2) rfl
               have c13 := p1.at (j := 3) rfl
               have z10 := p1.thaw 0
               have z11 := p1.thaw 1
               have z12 := p1.thaw 2
               have z13 := p1.thaw 3
               have c20 := p2.at (j := 0) rfl
               have c21 := p2.at (j := 1) rfl
               have z20 := p2.thaw 0
               have z21 := p2.thaw 1
               have P1 := Lib.hid p1
               have P2 := Lib.hid p2
               clear p0 p1 p2 h1)
  all_goals (try (exfalso; omega))
  have f1 := (((((P1.out.set 0 (.int .i64 0)).set 1 (.int .i64 0)).set 2 (.slice none 0 0)).set 3 (.slice none 0 0)).far (b := w.heap.size + 1 + 1) (by omega) 0 (.int .i64 0)).far (b := w.heap.size + 1 + 1) (by omega) 1 (.int .i64 0)
  have f2 := (((((P2.out.far (b := w.heap.size + 1) (by omega) 0 (.int .i64 0)).far (b := w.heap.size + 1) (by omega) 1 (.int .i64 0)).far (b := w.heap.size + 1) (by omega) 2 (.slice none 0 0)).far (b := w.heap.size + 1) (by omega) 3 (.slice none 0 0)).set 0 (.int .i64 0)).set 1 (.int .i64 0)
  have fb := (((((H1.out.setCell (p := ⟨w.heap.size + 1, 0, none⟩) (by show w.heap.size ≤ w.heap.size + 1; omega) (.int .i64 0)).setCell (p := ⟨w.heap.size + 1, 1, none⟩) (by show w.heap.size ≤ w.heap.size + 1; omega) (.int .i64 0)).setCell (p := ⟨w.heap.size + 1, 2, none⟩) (by show w.heap.size ≤ w.heap.size + 1; omega) (.slice none 0 0)).setCell (p := ⟨w.heap.size + 1, 3, none⟩) (by show w.heap.size ≤ w.heap.size + 1; omega) (.slice none 0 0)).setCell (p := ⟨w.heap.size + 1 + 1, 0, none⟩) (by show w.heap.size ≤ w.heap.size + 1 + 1; omega) (.int .i64 0)).setCell (p := ⟨w.heap.size + 1 + 1, 1, none⟩) (by show w.heap.size ≤ w.heap.size + 1 + 1; omega) (.int .i64 0)
  obtain ⟨wF, hwF⟩ : ∃ wF, (((((w1.setCell ⟨w.heap.size + 1, 0, none⟩ (.int .i64 0)).setCell ⟨w.heap.size + 1, 1, none⟩ (.int .i64 0)).setCell ⟨w.heap.size + 1, 2, none⟩ (.slice none 0 0)).setCell ⟨w.heap.size + 1, 3, none⟩ (.slice none 0 0)).setCell ⟨w.heap.size + 1 + 1, 0, none⟩ (.int .i64 0)).setCell ⟨w.heap.size + 1 + 1, 1, none⟩ (.int .i64 0) = wF := ⟨_, rfl⟩
  rw [hwF] at f1 f2 fb ⊢
  have d0 : wF.cell? ⟨w.heap.size + 1, 0, none⟩ = some (.int .i64 0) := f1.at rfl
  have d1 : wF.cell? ⟨w.heap.size + 1, 1, none⟩ = some (.int .i64 0) := f1.at rfl
  have d2 : wF.cell? ⟨w.heap.size + 1, 2, none⟩ = some (.slice none 0 0) := f1.at rfl
  have d3 : wF.cell? ⟨w.heap.size + 1, 3, none⟩ = some (.slice none 0 0) := f1.at rfl
  have d4 : wF.cell? ⟨w.heap.size + 1 + 1, 0, none⟩ = some (.int .i64 0) := f2.at rfl
  have d5 : wF.cell? ⟨w.heap.size + 1 + 1, 1, none⟩ = some (.int .i64 0) := f2.at rfl
  (try simp only [Exit.inBlock, Exit.then])
  refine bodyPost_ret (by simp [results, Try.results12, go_sem, d0, d1, d2, d3, d4, d5]; try rfl) rfl ?_
  exact ⟨rfl, fb⟩

set_option maxRecDepth 100000 in
set_option maxHeartbeats 4000000 in
theorem rsend_b5 (h nx : Int) (A : Option Addr) (n c : Nat) (B : Option Addr) (m d : Nat) (O : List (Int × Int)) (I : List Int) (a : Int) (w : World) (hn : n ≤ 9223372036854775807) (hm : m ≤ 9223372036854775807) (hlO : O.length = n) (hlI : I.length = m) (hRO : RL w A (cT O)) (hRI : RL w B (cI I)) (hv : vB h nx O I = true) (ha : 1 ≤ a ∧ a ≤ 1000) (hh : a ≤ h) (h64 : n = 64) :
    Calls Try.prog 12 #[.agg #[.int .i64 h, .int .i64 nx, .slice A n c, .slice B m d], .int .i64 a] w fun e w' => e = .returned (.tuple #[zS, .agg #[.int .i64 0, .int .i64 0], .int .i64 10]) ∧ Below w.heap.size w w' := by
  have HV := Lib.hid hv
  have HRO := Lib.hid hRO
  have HRI := Lib.hid hRI
  have HLO := Lib.hid hlO
  have HLI := Lib.hid hlI
  have hvs := vB_iff.1 hv
  have hh2 := hvs.1
  have hn64 : n ≤ 64 := by have := hvs.2.1; omega
  have hm64 : m ≤ 64 := by have := hvs.2.1; omega
  obtain ⟨⟨b1, b2⟩, b3, b4⟩ := hh2
  clear hvs
  have e1 : decide (a < 1) = false := decide_eq_false (by omega)
  have e2 : decide (1000 < a) = false := decide_eq_false (by omega)
  have e3 : ((n : Int) == 64) = true := by simp; omega
  clear h64
  clear hv hRO hRI hlO hlI
  go_enter Try.func12, Try.ntmps12
  go_wp2_with (go_at_call 19; with_reducible refine (rval_any h nx A n c B m d O I _ hn hm HLO.out HLI.out (HRO.out.keep (bel_alloc (bel_alloc (bel_a w _) _) _)) (HRI.out.keep (bel_alloc (bel_alloc (bel_a w _) _) _))).mono ?_; rintro e w1 ⟨rfl, h1⟩; rw [HV.out]
               have H1 := Lib.hid (bel_step (bel_alloc (bel_alloc (bel_a w (.cells #[.int .i64 h, .int .i64 nx, .slice A n c, .slice B m d] 25)) (.cells #[.int .i64 0, .int .i64 0, .slice none 0 0, .slice none 0 0] 25)) (.cells #[.int .i64 0, .int .i64 0] 27)) h1)
               have p0 := (((OW.new w 25 [.int .i64 h, .int .i64 nx, .slice A n c, .slice B m d]).alloc (.cells #[.int .i64 0, .int .i64 0, .slice none 0 0, .slice none 0 0] 25)).alloc (.cells #[.int .i64 0, .int .i64 0] 27)).keep h1
               have p1 := ((OW.new1 w (.cells #[.int .i64 h, .int .i64 nx, .slice A n c, .slice B m d] 25) 25 [.int .i64 0, .int .i64 0, .slice none 0 0, .slice none 0 0]).alloc (.cells #[.int .i64 0, .int .i64 0] 27)).keep h1
               have p2 := (OW.new2 w (.cells #[.int .i64 h, .int .i64 nx, .slice A n c, .slice B m d] 25) (.cells #[.int .i64 0, .int .i64 0, .slice none 0 0, .slice none 0 0] 25) 27 [.int .i64 0, .int .i64 0]).keep h1
               have c00 := p0.at (j := 0) rfl
               have c01 := p0.at (j := 1) rfl
               have c02 := p0.at (j := 2) rfl
               have c03 := p0.at (j := 3) rfl
               have c10 := p1.at (j := 0) rfl
               have c11 := p1.at (j := 1) rfl
               have c12 := p1.at (j := 2) rfl
               have c13 := p1.at (j := 3) rfl
               have z10 := p1.thaw 0
               have z11 := p1.thaw 1
               have z12 := p1.thaw 2
               have z13 := p1.thaw 3
               have c20 := p2.at (j := 0) rfl
               have c21 := p2.at (j := 1) rfl
               have z20 := p2.thaw 0
               have z21 := p2.thaw 1
               have P1 := Lib.hid p1
               have P2 := Lib.hid p2
               clear p0 p1 p2 h1)
  all_goals (try (exfalso; omega))
  have f1 := (((((P1.out.set 0 (.int .i64 0)).set 1 (.int .i64 0)).set 2 (.slice none 0 0)).set 3 (.slice none 0 0)).far (b := w.heap.size + 1 + 1) (by omega) 0 (.int .i64 0)).far (b := w.heap.size + 1 + 1) (by omega) 1 (.int .i64 0)
  have f2 := (((((P2.out.far (b := w.heap.size + 1) (by omega) 0 (.int .i64 0)).far (b := w.heap.size + 1) (by omega) 1 (.int .i64 0)).far (b := w.heap.size + 1) (by omega) 2 (.slice none 0 0)).far (b := w.heap.size + 1) (by omega) 3 (.slice none 0 0)).set 0 (.int .i64 0)).set 1 (.int .i64 0)
  have fb := (((((H1.out.setCell (p := ⟨w.heap.size + 1, 0, none⟩) (by show w.heap.size ≤ w.heap.size + 1; omega) (.int .i64 0)).setCell (p := ⟨w.heap.size + 1, 1, none⟩) (by show w.heap.size ≤ w.heap.size + 1; omega) (.int .i64 0)).setCell (p := ⟨w.heap.size + 1, 2, none⟩) (by show w.heap.size ≤ w.heap.size + 1; omega) (.slice none 0 0)).setCell (p := ⟨w.heap.size + 1, 3, none⟩) (by show w.heap.size ≤ w.heap.size + 1; omega) (.slice none 0 0)).setCell (p := ⟨w.heap.size + 1 + 1, 0, none⟩) (by show w.heap.size ≤ w.heap.size + 1 + 1; omega) (.int .i64 0)).setCell (p := ⟨w.heap.size + 1 + 1, 1, none⟩) (by show w.heap.size ≤ w.heap.size + 1 + 1; omega) (.int .i64 0)
  obtain ⟨wF, hwF⟩ : ∃ wF, (((((w1.setCell ⟨w.heap.size + 1, 0, none⟩ (.int .i64 0)).setCell ⟨w.heap.size + 1, 1, none⟩ (.int .i64 0)).setCell ⟨w.heap.size + 1, 2, none⟩ (.slice none 0 0)).setCell ⟨w.heap.size + 1, 3, none⟩ (.slice none 0 0)).setCell ⟨w.heap.size + 1 + 1, 0, none⟩ (.int .i64 0)).setCell ⟨w.heap.size + 1 + 1, 1, none⟩ (.int .i64 0) = wF := ⟨_, rfl⟩
  rw [hwF] at f1 f2 fb ⊢
  have d0 : wF.cell? ⟨w.heap.size + 1, 0, none⟩ = some (.int .i64 0) := f1.at rfl
  have d1 : wF.cell? ⟨w.heap.size + 1, 1, none⟩ = some (.int .i64 0) := f1.at rfl
  have d2 : wF.cell? ⟨w.heap.size + 1, 2, none⟩ = some (.slice none 0 0) := f1.at rfl
  have d3 : wF.cell? ⟨w.heap.size + 1, 3, none⟩ = some (.slice none 0 0) := f1.at rfl
  have d4 : wF.cell? ⟨w.heap.size + 1 + 1, 0, none⟩ = some (.int .i64 0) := f2.at rfl
  have d5 : wF.cell? ⟨w.heap.size + 1 + 1, 1, none⟩ = some (.int .i64 0) := f2.at rfl
  (try simp only [Exit.inBlock, Exit.then])
  refine bodyPost_ret (by simp [results, Try.results12, go_sem, d0, d1, d2, d3, d4, d5]; try rfl) rfl ?_
  exact ⟨rfl, fb⟩

set_option maxRecDepth 100000 in
set_option maxHeartbeats 4000000 in
theorem rsend_b6 (h nx : Int) (A : Option Addr) (n c : Nat) (B : Option Addr) (m d : Nat) (O : List (Int × Int)) (I : List Int) (a : Int) (w : World) (hn : n ≤ 9223372036854775807) (hm : m ≤ 9223372036854775807) (hlO : O.length = n) (hlI : I.length = m) (hRO : RL w A (cT O)) (hRI : RL w B (cI I)) (hv : vB h nx O I = true) (ha : 1 ≤ a ∧ a ≤ 1000) (hh : a ≤ h) (h64 : n ≠ 64) (hnx : 1000000 < nx) :
    Calls Try.prog 12 #[.agg #[.int .i64 h, .int .i64 nx, .slice A n c, .slice B m d], .int .i64 a] w fun e w' => e = .returned (.tuple #[zS, .agg #[.int .i64 0, .int .i64 0], .int .i64 3]) ∧ Below w.heap.size w w' := by
  have HV := Lib.hid hv
  have HRO := Lib.hid hRO
  have HRI := Lib.hid hRI
  have HLO := Lib.hid hlO
  have HLI := Lib.hid hlI
  have hvs := vB_iff.1 hv
  have hh2 := hvs.1
  have hn64 : n ≤ 64 := by have := hvs.2.1; omega
  have hm64 : m ≤ 64 := by have := hvs.2.1; omega
  obtain ⟨⟨b1, b2⟩, b3, b4⟩ := hh2
  clear hvs
  have e1 : decide (a < 1) = false := decide_eq_false (by omega)
  have e2 : decide (1000 < a) = false := decide_eq_false (by omega)
  have e3 : ((n : Int) == 64) = false := by simp; omega
  clear hv hRO hRI hlO hlI
  go_enter Try.func12, Try.ntmps12
  go_wp2_with (go_at_call 19; with_reducible refine (rval_any h nx A n c B m d O I _ hn hm HLO.out HLI.out (HRO.out.keep (bel_alloc (bel_alloc (bel_a w _) _) _)) (HRI.out.keep (bel_alloc (bel_alloc (bel_a w _) _) _))).mono ?_; rintro e w1 ⟨rfl, h1⟩; rw [HV.out]
               have H1 := Lib.hid (bel_step (bel_alloc (bel_alloc (bel_a w (.cells #[.int .i64 h, .int .i64 nx, .slice A n c, .slice B m d] 25)) (.cells #[.int .i64 0, .int .i64 0, .slice none 0 0, .slice none 0 0] 25)) (.cells #[.int .i64 0, .int .i64 0] 27)) h1)
               have p0 := (((OW.new w 25 [.int .i64 h, .int .i64 nx, .slice A n c, .slice B m d]).alloc (.cells #[.int .i64 0, .int .i64 0, .slice none 0 0, .slice none 0 0] 25)).alloc (.cells #[.int .i64 0, .int .i64 0] 27)).keep h1
               have p1 := ((OW.new1 w (.cells #[.int .i64 h, .int .i64 nx, .slice A n c, .slice B m d] 25) 25 [.int .i64 0, .int .i64 0, .slice none 0 0, .slice none 0 0]).alloc (.cells #[.int .i64 0, .int .i64 0] 27)).keep h1
               have p2 := (OW.new2 w (.cells #[.int .i64 h, .int .i64 nx, .slice A n c, .slice B m d] 25) (.cells #[.int .i64 0, .int .i64 0, .slice none 0 0, .slice none 0 0] 25) 27 [.int .i64 0, .int .i64 0]).keep h1
               have c00 := p0.at (j := 0) rfl
               have c01 := p0.at (j := 1) rfl
               have c02 := p0.at (j := 2) rfl
               have c03 := p0.at (j := 3) rfl
               have c10 := p1.at (j := 0) rfl
               have c11 := p1.at (j := 1) rfl
               have c12 := p1.at (j := 2) rfl
               have c13 := p1.at (j := 3) rfl
               have z10 := p1.thaw 0
               have z11 := p1.thaw 1
               have z12 := p1.thaw 2
               have z13 := p1.thaw 3
               have c20 := p2.at (j := 0) rfl
               have c21 := p2.at (j := 1) rfl
               have z20 := p2.thaw 0
               have z21 := p2.thaw 1
               have P1 := Lib.hid p1
               have P2 := Lib.hid p2
               clear p0 p1 p2 h1)
  all_goals (try (exfalso; omega))
  have f1 := (((((P1.out.set 0 (.int .i64 0)).set 1 (.int .i64 0)).set 2 (.slice none 0 0)).set 3 (.slice none 0 0)).far (b := w.heap.size + 1 + 1) (by omega) 0 (.int .i64 0)).far (b := w.heap.size + 1 + 1) (by omega) 1 (.int .i64 0)
  have f2 := (((((P2.out.far (b := w.heap.size + 1) (by omega) 0 (.int .i64 0)).far (b := w.heap.size + 1) (by omega) 1 (.int .i64 0)).far (b := w.heap.size + 1) (by omega) 2 (.slice none 0 0)).far (b := w.heap.size + 1) (by omega) 3 (.slice none 0 0)).set 0 (.int .i64 0)).set 1 (.int .i64 0)
  have fb := (((((H1.out.setCell (p := ⟨w.heap.size + 1, 0, none⟩) (by show w.heap.size ≤ w.heap.size + 1; omega) (.int .i64 0)).setCell (p := ⟨w.heap.size + 1, 1, none⟩) (by show w.heap.size ≤ w.heap.size + 1; omega) (.int .i64 0)).setCell (p := ⟨w.heap.size + 1, 2, none⟩) (by show w.heap.size ≤ w.heap.size + 1; omega) (.slice none 0 0)).setCell (p := ⟨w.heap.size + 1, 3, none⟩) (by show w.heap.size ≤ w.heap.size + 1; omega) (.slice none 0 0)).setCell (p := ⟨w.heap.size + 1 + 1, 0, none⟩) (by show w.heap.size ≤ w.heap.size + 1 + 1; omega) (.int .i64 0)).setCell (p := ⟨w.heap.size + 1 + 1, 1, none⟩) (by show w.heap.size ≤ w.heap.size + 1 + 1; omega) (.int .i64 0)
  obtain ⟨wF, hwF⟩ : ∃ wF, (((((w1.setCell ⟨w.heap.size + 1, 0, none⟩ (.int .i64 0)).setCell ⟨w.heap.size + 1, 1, none⟩ (.int .i64 0)).setCell ⟨w.heap.size + 1, 2, none⟩ (.slice none 0 0)).setCell ⟨w.heap.size + 1, 3, none⟩ (.slice none 0 0)).setCell ⟨w.heap.size + 1 + 1, 0, none⟩ (.int .i64 0)).setCell ⟨w.heap.size + 1 + 1, 1, none⟩ (.int .i64 0) = wF := ⟨_, rfl⟩
  rw [hwF] at f1 f2 fb ⊢
  have d0 : wF.cell? ⟨w.heap.size + 1, 0, none⟩ = some (.int .i64 0) := f1.at rfl
  have d1 : wF.cell? ⟨w.heap.size + 1, 1, none⟩ = some (.int .i64 0) := f1.at rfl
  have d2 : wF.cell? ⟨w.heap.size + 1, 2, none⟩ = some (.slice none 0 0) := f1.at rfl
  have d3 : wF.cell? ⟨w.heap.size + 1, 3, none⟩ = some (.slice none 0 0) := f1.at rfl
  have d4 : wF.cell? ⟨w.heap.size + 1 + 1, 0, none⟩ = some (.int .i64 0) := f2.at rfl
  have d5 : wF.cell? ⟨w.heap.size + 1 + 1, 1, none⟩ = some (.int .i64 0) := f2.at rfl
  (try simp only [Exit.inBlock, Exit.then])
  refine bodyPost_ret (by simp [results, Try.results12, go_sem, d0, d1, d2, d3, d4, d5]; try rfl) rfl ?_
  exact ⟨rfl, fb⟩


def RSendR (W : World) (v t : Value) (er : Int) (h nx : Int) (O : List (Int × Int)) (I : List Int) (a : Int) : Prop :=
  er = sE h nx O I a ∧ ((er = 0 ∧ SV W v (h - a) (nx + 1) (O ++ [(nx, a)]) I ∧ t = .agg #[.int .i64 nx, .int .i64 a]) ∨ (er ≠ 0 ∧ v = zS ∧ t = .agg #[.int .i64 0, .int .i64 0]))
theorem OW.grow {w w' : World} {g : Nat} {t : TypeId} {cs : List Value} {v : Option Nat} (h : OW w g t cs) (hg : w.grownBy w' v) (hne : v ≠ some g) : OW w' g t cs := (hg.block _ h.lt (fun e => hne e.symm)).trans h
theorem blk_ne {g n cap B : Nat} (h : g ≠ B) : (Value.slice (some ⟨g, 0, none⟩) n cap).ownBlock ≠ some B := by simp [Value.ownBlock]; exact h
theorem blk_ge {g n cap B : Nat} (h : B ≤ g) : ∀ x, (Value.slice (some ⟨g, 0, none⟩) n cap).ownBlock = some x → B ≤ x := by
  intro x e
  have : g = x := by simpa [Value.ownBlock] using e
  omega
theorem own_blk {w : World} {base : Nat} {e : TypeId} {size : Nat} {v : Value} {n : Nat} {xs : List Value} (h : w.ownsRow base e size v n xs) {b : Nat} (hb : b < base) : v.ownBlock ≠ some b := fun e => by have := own_ge h b e; omega
theorem grow_h {B : Nat} {w W wA : World} {row : Option Nat} (h : Below B w W) (hB : B ≤ W.heap.size) (hg : W.grownBy wA row) (hr : ∀ x, row = some x → B ≤ x) : Below B w wA := h.grown hg hB hr

theorem heap_second (w : World) (X Y : Obj) : ((w.alloc X).alloc Y).heap[w.heap.size + 1]? = some Y := by
  have q := heap_alloc_new (w.alloc X) Y
  simpa using q
theorem own_set {W : World} {B : Nat} {t : TypeId} {s n : Nat} {v : Value} {xs : List Value} (h : W.ownsRow B t s v n xs) {b : Nat} (hb : b < B) (j : Nat) (z : Value) : (W.setCell ⟨b, j, none⟩ z).ownsRow B t s v n xs := by
  refine ⟨h.1, ?_⟩
  rcases h.2 with h' | ⟨g, cap, cur, h1, h2, h3, h4⟩
  · exact .inl h'
  · exact .inr ⟨g, cap, cur, h1, h2, (Below.heap_setCell W ⟨b, j, none⟩ z g (fun e => by simp at e; omega)).trans h3, h4⟩
theorem own_drew {W : World} {B : Nat} {t : TypeId} {s n : Nat} {v : Value} {xs : List Value} (h : W.ownsRow B t s v n xs) : W.drew.ownsRow B t s v n xs := h

set_option maxRecDepth 100000 in
set_option maxHeartbeats 4000000 in
theorem rsend_ok (h nx : Int) (A : Option Addr) (n c : Nat) (B : Option Addr) (m d : Nat) (O : List (Int × Int)) (I : List Int) (a : Int) (w : World) (hlO : O.length = n) (hlI : I.length = m) (hRO : RL w A (cT O)) (hRI : RL w B (cI I)) (hAn : A = none → n = 0 ∧ c = 0) (hBn : B = none → m = 0 ∧ d = 0) (hv : vB h nx O I = true) (ha : 1 ≤ a ∧ a ≤ 1000) (hh : a ≤ h) (h64 : n ≠ 64) (hnx : nx ≤ 1000000) (hc : n ≤ c ∧ c ≤ 9223372036854775807) (hd : m ≤ d ∧ d ≤ 9223372036854775807) :
    Calls Try.prog 12 #[.agg #[.int .i64 h, .int .i64 nx, .slice A n c, .slice B m d], .int .i64 a] w fun e w' => (∃ v, e = .returned (.tuple #[v, .agg #[.int .i64 nx, .int .i64 a], .int .i64 0]) ∧ SV w' v (h - a) (nx + 1) (O ++ [(nx, a)]) I) ∧ Below w.heap.size w w' := by
  have hvs := vB_iff.1 hv
  have hh2 := hvs.1
  have hn : n ≤ 64 := by have := hvs.2.1; omega
  have hm : m ≤ 64 := by have := hvs.2.1; omega
  have HV := Lib.hid hv
  have HRO := Lib.hid hRO
  have HRI := Lib.hid hRI
  have HLO := Lib.hid hlO
  have HLI := Lib.hid hlI
  have HAN := Lib.hid hAn
  have HBN := Lib.hid hBn
  have HC := Lib.hid hc
  have HD := Lib.hid hd
  have e1 : decide (a < 1) = false := decide_eq_false (by omega)
  have e2 : decide (1000 < a) = false := decide_eq_false (by omega)
  have e3 : ((n : Int) == 64) = false := by simp; omega
  obtain ⟨⟨b1, b2⟩, b3, b4⟩ := hh2
  obtain ⟨i0, hi, hz0, hz1, hz2⟩ := info_parts infoTr
  have HI := Lib.hid hi
  have HZ0 := Lib.hid hz0
  have HZ1 := Lib.hid hz1
  have HZ2 := Lib.hid hz2
  clear hv hvs hRO hRI hlO hlI hAn hBn hi hz0 hz1 hz2 hc hd
  go_enter Try.func12, Try.ntmps12
  go_upto_region 9 with (first
    | (go_at_call 19; with_reducible refine (rval_any h nx A n c B m d O I _ (by omega) (by omega) HLO.out HLI.out (HRO.out.keep (bel_alloc (bel_alloc (bel_a w _) _) _)) (HRI.out.keep (bel_alloc (bel_alloc (bel_a w _) _) _))).mono ?_; rintro e w1 ⟨rfl, h1⟩; rw [HV.out]
       have H1 := Lib.hid (bel_step (bel_alloc (bel_alloc (bel_a w (.cells #[.int .i64 h, .int .i64 nx, .slice A n c, .slice B m d] 25)) (.cells #[.int .i64 0, .int .i64 0, .slice none 0 0, .slice none 0 0] 25)) (.cells #[.int .i64 0, .int .i64 0] 27)) h1)
       have p0 := (((OW.new w 25 [.int .i64 h, .int .i64 nx, .slice A n c, .slice B m d]).alloc (.cells #[.int .i64 0, .int .i64 0, .slice none 0 0, .slice none 0 0] 25)).alloc (.cells #[.int .i64 0, .int .i64 0] 27)).keep h1
       have p1 := ((OW.new1 w (.cells #[.int .i64 h, .int .i64 nx, .slice A n c, .slice B m d] 25) 25 [.int .i64 0, .int .i64 0, .slice none 0 0, .slice none 0 0]).alloc (.cells #[.int .i64 0, .int .i64 0] 27)).keep h1
       have p2 := (OW.new2 w (.cells #[.int .i64 h, .int .i64 nx, .slice A n c, .slice B m d] 25) (.cells #[.int .i64 0, .int .i64 0, .slice none 0 0, .slice none 0 0] 25) 27 [.int .i64 0, .int .i64 0]).keep h1
       obtain ⟨c00, c01, c02, c03⟩ := cell4 p0
       have P0 := Lib.hid p0
       have P1 := Lib.hid p1
       have P2 := Lib.hid p2
       have l1 := p2.lt
       clear p0 p1 p2 h1))
  all_goals (try (exfalso; omega))
  go_upto_region 10 with (fail)
  clear c00 c01 c02 c03
  have Q7 := Lib.hid (OW.new w1 27 [.int .i64 nx, .int .i64 a])
  replace P0 := Lib.hid (P0.out.alloc (.cells #[.int .i64 nx, .int .i64 a] 27))
  replace P1 := Lib.hid (P1.out.alloc (.cells #[.int .i64 nx, .int .i64 a] 27))
  replace P2 := Lib.hid (P2.out.alloc (.cells #[.int .i64 nx, .int .i64 a] 27))
  have HB := Lib.hid (bel_alloc H1.out (.cells #[.int .i64 nx, .int .i64 a] 27))
  obtain ⟨W1, eW⟩ : ∃ W, w1.alloc (.cells #[.int .i64 nx, .int .i64 a] 27) = W := ⟨_, rfl⟩
  have hW1 : W1.heap.size = w1.heap.size + 1 := by rw [← eW]; simp
  have hlw : w.heap.size + 1 + 1 < w1.heap.size := l1
  rw [eW] at P0 P1 P2 Q7 HB ⊢
  clear eW H1
  obtain ⟨b7, eB⟩ : ∃ b, w1.heap.size = b := ⟨_, rfl⟩
  rw [eB] at Q7 hW1 hlw ⊢
  clear eB
  obtain ⟨B2, hB2⟩ : ∃ b, w.heap.size + 1 + 1 = b := ⟨_, rfl⟩
  obtain ⟨B1, hB1⟩ : ∃ b, w.heap.size + 1 = b := ⟨_, rfl⟩
  obtain ⟨B0, hB0⟩ : ∃ b, w.heap.size = b := ⟨_, rfl⟩
  have o1 : B0 < B1 ∧ B1 < B2 ∧ B2 < b7 ∧ b7 < W1.heap.size ∧ w.heap.size ≤ B0 := by omega
  rw [hB2] at P2 ⊢
  rw [hB1] at P1 ⊢
  rw [hB0] at P0
  first | rw [hB0] | skip
  clear hB0 hB1 hB2 hlw hW1 l1
  obtain ⟨o2, o3, o4, o5, o6⟩ := o1
  obtain ⟨y0, y1, y2, y3⟩ := cell4 P0.out
  obtain ⟨t0, t1⟩ := cell2 Q7.out
  have hbe := Below.refl W1.heap.size W1
  have k0 : B0 < W1.heap.size := by omega
  have o7 := HB.out.size
  go_cut [] (fun wx => ∃ v2, OW wx B0 25 [.int .i64 h, .int .i64 nx, v2, .slice B m d] ∧ wx.ownsRow W1.heap.size 27 2 v2 (n + 1) (cT (O ++ [(nx, a)])) ∧ OW wx B1 25 [.int .i64 0, .int .i64 0, .slice none 0 0, .slice none 0 0] ∧ OW wx B2 27 [.int .i64 0, .int .i64 0] ∧ OW wx b7 27 [.int .i64 nx, .int .i64 a] ∧ Below w.heap.size w wx)
  case first =>
    go_region_law (first
      | (refine step_rl _ (by rfl) (.tmp 42) (.tmp 44) 22 (by rfl) W1.heap.size 27 i0 _ 2 16 Try.underlying22 HI.out HZ0.out HZ1.out HZ2.out (by rfl) (by omega) _ 0 [] (by rfl) (own_at0 (by first | exact heap_alloc_new W1 _ | exact (Below.heap_alloc _ _ _ (by simp)).trans (heap_alloc_new W1 _) | exact heap_second W1 _ _) (by first | omega | (simp <;> omega)) (by decide) (by rfl)) A n c (cT O) (by rfl) HAN.out (by rw [cT_len, HLO.out]) ((HRO.out.keep HB.out).keep (by repeat (first | with_reducible exact hbe | with_reducible apply bel_alloc | with_reducible apply below_drew))) (cT_one _) n (by omega) (by unfold maxLen; omega) (by omega) (by first | omega | (simp <;> omega)) ?_; intro v1 wA hown1 hgrow1; rw [List.nil_append] at hown1
         have rb0 := OW.grow (by repeat (first | with_reducible exact P0.out | with_reducible apply OW.alloc | with_reducible apply OW.drew)) hgrow1 (blk_ne (by first | omega | (simp <;> omega))); have rb1 := OW.grow (by repeat (first | with_reducible exact P1.out | with_reducible apply OW.alloc | with_reducible apply OW.drew)) hgrow1 (blk_ne (by first | omega | (simp <;> omega))); have rb2 := OW.grow (by repeat (first | with_reducible exact P2.out | with_reducible apply OW.alloc | with_reducible apply OW.drew)) hgrow1 (blk_ne (by first | omega | (simp <;> omega))); have rb7 := OW.grow (by repeat (first | with_reducible exact Q7.out | with_reducible apply OW.alloc | with_reducible apply OW.drew)) hgrow1 (blk_ne (by first | omega | (simp <;> omega))); (try (first | (have rq : OW wA W1.heap.size 27 [.int .i64 nx, .int .i64 a] := OW.grow (((OW.new W1 27 [.int .i64 nx, .int .i64 a]).alloc _).drew) hgrow1 (blk_ne (by first | omega | (simp <;> omega)))) | (have rq : OW wA (W1.heap.size + 1) 27 [.int .i64 nx, .int .i64 a] := OW.grow ((OW.new1 W1 _ 27 [.int .i64 nx, .int .i64 a]).drew) hgrow1 (blk_ne (by first | omega | (simp <;> omega)))))); have hbe := grow_h (by repeat (first | with_reducible exact hbe | with_reducible apply bel_alloc | with_reducible apply below_drew)) (by first | omega | (simp <;> omega)) hgrow1 (blk_ge (by first | omega | (simp <;> omega))); have hbz := hbe.size; obtain ⟨u0, u1⟩ := cell2 rb7; have ub := rb7.lt; clear hgrow1)
      | (refine step_rl _ (by rfl) (.tmp 45) (.tmp 47) 22 (by rfl) W1.heap.size 27 i0 _ 2 16 Try.underlying22 HI.out HZ0.out HZ1.out HZ2.out (by rfl) (by omega) _ n _ (by rfl) (by first | exact hown1 | exact hown1.alloc _) (some ⟨_, 0, none⟩) 1 1 [.int .i64 nx, .int .i64 a] (by rfl) (fun e => (by cases e)) (by rfl) (by first | exact OW.rl rq | exact OW.rl (OW.new wA 27 [.int .i64 nx, .int .i64 a])) (one2 _ _) (n + 1) (by omega) (by unfold maxLen; omega) (by omega) (by first | omega | (simp <;> omega)) ?_; intro v2 wB hown2 hgrow2; rw [cT_snoc] at hown2; obtain ⟨A2, c2, rfl, hc2, ha2⟩ := own_form hown2
         have rc0 := OW.grow (by repeat (first | with_reducible exact rb0 | with_reducible apply OW.alloc | with_reducible apply OW.drew)) hgrow2 (own_blk hown1 (by omega)); have rc1 := OW.grow (by repeat (first | with_reducible exact rb1 | with_reducible apply OW.alloc | with_reducible apply OW.drew)) hgrow2 (own_blk hown1 (by omega)); have rc2 := OW.grow (by repeat (first | with_reducible exact rb2 | with_reducible apply OW.alloc | with_reducible apply OW.drew)) hgrow2 (own_blk hown1 (by omega)); have rc7 := OW.grow (by repeat (first | with_reducible exact rb7 | with_reducible apply OW.alloc | with_reducible apply OW.drew)) hgrow2 (own_blk hown1 (by omega)); have hbf := grow_h (by repeat (first | with_reducible exact hbe | with_reducible apply bel_alloc | with_reducible apply below_drew)) (by first | omega | (simp <;> omega)) hgrow2 (own_ge hown1); obtain ⟨s0, s1, s2, s3⟩ := cell4 rc0; have sf := rc0.thaw 2; have sb := rc0.lt; clear hgrow2))
    all_goals (go_wp2_with fail; go_meet)
    all_goals (exact ⟨_, rc0.set 2 _, own_set hown2 (by omega) 2 _, rc1.far (by omega) 2 _, rc2.far (by omega) 2 _, rc7.far (by omega) 2 _, (HB.out.trans (hbf.mono o7)).setCell o6 _⟩)
  case rest =>
    obtain ⟨v2, q0, qo, q1, q2, q7, qb⟩ := hcut
    obtain ⟨A2, c2, rfl, hc2, ha2⟩ := own_form qo
    have HC2 := Lib.hid hc2
    have HA2 := Lib.hid ha2
    have Q0 := Lib.hid q0
    have QO := Lib.hid qo
    have Q1 := Lib.hid q1
    have Q2 := Lib.hid q2
    have Q7' := Lib.hid q7
    have QB := Lib.hid qb
    obtain ⟨s0, s1, s2, s3⟩ := cell4 q0
    have f0 := q0.thaw 0
    have f1 := q0.thaw 1
    clear q0 qo q1 q2 q7 qb hc2 ha2 P0 P1 P2 Q7 HB y0 y1 y2 y3 t0 t1
    go_upto_region 13 with (fail)
    clear s0 s1 s2 s3 f0 f1
    have T9 : Hid (OW ((wc.setCell ⟨B0, 0, none⟩ (.int .i64 (h - a))).setCell ⟨B0, 1, none⟩ (.int .i64 (nx + 1))) B0 25 [.int .i64 (h - a), .int .i64 (nx + 1), .slice A2 (n + 1) c2, .slice B m d]) := Lib.hid ((Q0.out.set 0 (.int .i64 (h - a))).set 1 (.int .i64 (nx + 1)))
    have T1 := Lib.hid ((Q1.out.far (b := B0) (by omega) 0 (.int .i64 (h - a))).far (b := B0) (by omega) 1 (.int .i64 (nx + 1)))
    have T2 := Lib.hid ((Q2.out.far (b := B0) (by omega) 0 (.int .i64 (h - a))).far (b := B0) (by omega) 1 (.int .i64 (nx + 1)))
    have T8 := Lib.hid ((Q7'.out.far (b := B0) (by omega) 0 (.int .i64 (h - a))).far (b := B0) (by omega) 1 (.int .i64 (nx + 1)))
    have TO := Lib.hid (own_set (own_set QO.out (b := B0) (by omega) 0 (.int .i64 (h - a))) (b := B0) (by omega) 1 (.int .i64 (nx + 1)))
    have TB : Hid (Below w.heap.size w ((wc.setCell ⟨B0, 0, none⟩ (.int .i64 (h - a))).setCell ⟨B0, 1, none⟩ (.int .i64 (nx + 1)))) := Lib.hid ((QB.out.setCell (p := ⟨B0, 0, none⟩) o6 (.int .i64 (h - a))).setCell (p := ⟨B0, 1, none⟩) o6 (.int .i64 (nx + 1)))
    obtain ⟨w4, hw4⟩ : ∃ w4, (wc.setCell ⟨B0, 0, none⟩ (.int .i64 (h - a))).setCell ⟨B0, 1, none⟩ (.int .i64 (nx + 1)) = w4 := ⟨_, rfl⟩
    rw [hw4] at T1 T2 T8 T9 TO TB ⊢
    clear hw4 Q0 Q1 Q2 Q7' QO QB
    have c90 := T9.out.at (j := 0) rfl
    have c91 := T9.out.at (j := 1) rfl
    have c92 := T9.out.at (j := 2) rfl
    have c93 := T9.out.at (j := 3) rfl
    have c80 := T8.out.at (j := 0) rfl
    have c81 := T8.out.at (j := 1) rfl
    have c10 := T1.out.at (j := 0) rfl
    have c11 := T1.out.at (j := 1) rfl
    have c12 := T1.out.at (j := 2) rfl
    have c13 := T1.out.at (j := 3) rfl
    have z10 := T1.out.thaw 0
    have z11 := T1.out.thaw 1
    have z12 := T1.out.thaw 2
    have z13 := T1.out.thaw 3
    have c20 := T2.out.at (j := 0) rfl
    have c21 := T2.out.at (j := 1) rfl
    have z20 := T2.out.thaw 0
    have z21 := T2.out.thaw 1
    have v1 : ¬ B1 = b7 := by omega
    have v2 : ¬ B1 = B2 := by omega
    have v3 : ¬ b7 = B1 := by omega
    have v4 : ¬ B2 = B1 := by omega
    obtain ⟨wF, hwF⟩ : ∃ wF, ((((((w4.setCell ⟨B1, 0, none⟩ (.int .i64 (h - a))).setCell ⟨B1, 1, none⟩ (.int .i64 (nx + 1))).setCell ⟨B1, 2, none⟩ (.slice A2 (n + 1) c2)).setCell ⟨B1, 3, none⟩ (.slice B m d)).setCell ⟨B2, 0, none⟩ (.int .i64 nx)).setCell ⟨B2, 1, none⟩ (.int .i64 a)).drew = wF := ⟨_, rfl⟩
    have F1 : Hid (OW wF B1 25 [.int .i64 (h - a), .int .i64 (nx + 1), .slice A2 (n + 1) c2, .slice B m d]) := Lib.hid (by
      have q := ((((((T1.out.set 0 (.int .i64 (h - a))).set 1 (.int .i64 (nx + 1))).set 2 (.slice A2 (n + 1) c2)).set 3 (.slice B m d)).far (b := B2) (by omega) 0 (.int .i64 nx)).far (b := B2) (by omega) 1 (.int .i64 a)).drew
      rw [hwF] at q
      exact q)
    have F2 : Hid (OW wF B2 27 [.int .i64 nx, .int .i64 a]) := Lib.hid (by
      have q := ((((((T2.out.far (b := B1) (by omega) 0 (.int .i64 (h - a))).far (b := B1) (by omega) 1 (.int .i64 (nx + 1))).far (b := B1) (by omega) 2 (.slice A2 (n + 1) c2)).far (b := B1) (by omega) 3 (.slice B m d)).set 0 (.int .i64 nx)).set 1 (.int .i64 a)).drew
      rw [hwF] at q
      exact q)
    have FO : Hid (wF.ownsRow W1.heap.size 27 2 (.slice A2 (n + 1) c2) (n + 1) (cT (O ++ [(nx, a)]))) := Lib.hid (by
      have q := own_drew (own_set (own_set (own_set (own_set (own_set (own_set TO.out (b := B1) (by omega) 0 (.int .i64 (h - a))) (b := B1) (by omega) 1 (.int .i64 (nx + 1))) (b := B1) (by omega) 2 (.slice A2 (n + 1) c2)) (b := B1) (by omega) 3 (.slice B m d)) (b := B2) (by omega) 0 (.int .i64 nx)) (b := B2) (by omega) 1 (.int .i64 a))
      rw [hwF] at q
      exact q)
    have FB : Hid (Below w.heap.size w wF) := Lib.hid (by
      have q := below_drew ((((((TB.out.setCell (p := ⟨B1, 0, none⟩) (by show w.heap.size ≤ B1; omega) (.int .i64 (h - a))).setCell (p := ⟨B1, 1, none⟩) (by show w.heap.size ≤ B1; omega) (.int .i64 (nx + 1))).setCell (p := ⟨B1, 2, none⟩) (by show w.heap.size ≤ B1; omega) (.slice A2 (n + 1) c2)).setCell (p := ⟨B1, 3, none⟩) (by show w.heap.size ≤ B1; omega) (.slice B m d)).setCell (p := ⟨B2, 0, none⟩) (by show w.heap.size ≤ B2; omega) (.int .i64 nx)).setCell (p := ⟨B2, 1, none⟩) (by show w.heap.size ≤ B2; omega) (.int .i64 a))
      rw [hwF] at q
      exact q)
    have HWF := Lib.hid hwF
    clear hwF
    go_cut [6] (fun q wx => q = .int .i64 0 ∧ OW wx B1 25 [.int .i64 (h - a), .int .i64 (nx + 1), .slice A2 (n + 1) c2, .slice B m d] ∧ OW wx B2 27 [.int .i64 nx, .int .i64 a] ∧ wx.ownsRow W1.heap.size 27 2 (.slice A2 (n + 1) c2) (n + 1) (cT (O ++ [(nx, a)])) ∧ Below w.heap.size w wx)
    case first =>
      have K0 := Lib.hid (six T9.out.drew T8.out.drew)
      have K9 := Lib.hid (six ((((T9.out.far (b := B1) (by omega) 0 (.int .i64 (h - a))).far (b := B1) (by omega) 1 (.int .i64 (nx + 1))).far (b := B1) (by omega) 2 (.slice A2 (n + 1) c2)).far (b := B1) (by omega) 3 (.slice B m d)).drew ((((T8.out.far (b := B1) (by omega) 0 (.int .i64 (h - a))).far (b := B1) (by omega) 1 (.int .i64 (nx + 1))).far (b := B1) (by omega) 2 (.slice A2 (n + 1) c2)).far (b := B1) (by omega) 3 (.slice B m d)).drew)
      have K10 := Lib.hid (six ((((((T9.out.far (b := B1) (by omega) 0 (.int .i64 (h - a))).far (b := B1) (by omega) 1 (.int .i64 (nx + 1))).far (b := B1) (by omega) 2 (.slice A2 (n + 1) c2)).far (b := B1) (by omega) 3 (.slice B m d)).far (b := B2) (by omega) 0 (.int .i64 nx)).far (b := B2) (by omega) 1 (.int .i64 a)).drew ((((((T8.out.far (b := B1) (by omega) 0 (.int .i64 (h - a))).far (b := B1) (by omega) 1 (.int .i64 (nx + 1))).far (b := B1) (by omega) 2 (.slice A2 (n + 1) c2)).far (b := B1) (by omega) 3 (.slice B m d)).far (b := B2) (by omega) 0 (.int .i64 nx)).far (b := B2) (by omega) 1 (.int .i64 a)).drew)
      go_region_held3 (fun w' => w'.cell? ⟨B0, 0, none⟩ = some (.int .i64 (h - a)) ∧ w'.cell? ⟨B0, 1, none⟩ = some (.int .i64 (nx + 1)) ∧ w'.cell? ⟨B0, 2, none⟩ = some (.slice A2 (n + 1) c2) ∧ w'.cell? ⟨B0, 3, none⟩ = some (.slice B m d) ∧ w'.cell? ⟨b7, 0, none⟩ = some (.int .i64 nx) ∧ w'.cell? ⟨b7, 1, none⟩ = some (.int .i64 a))
        (first | with_reducible exact K0.out | with_reducible exact K9.out | with_reducible exact K10.out) (fail)
      rw [HWF.out]
      (try go_wp2_with fail)
      go_meet
      exact ⟨rfl, F1.out, F2.out, FO.out, FB.out⟩
    case rest =>
      obtain ⟨rfl, f1, f2, fO, fb⟩ := hcut
      have d0 : wc.cell? ⟨B1, 0, none⟩ = some (.int .i64 (h - a)) := f1.at rfl
      have d1 : wc.cell? ⟨B1, 1, none⟩ = some (.int .i64 (nx + 1)) := f1.at rfl
      have d2 : wc.cell? ⟨B1, 2, none⟩ = some (.slice A2 (n + 1) c2) := f1.at rfl
      have d3 : wc.cell? ⟨B1, 3, none⟩ = some (.slice B m d) := f1.at rfl
      have d4 : wc.cell? ⟨B2, 0, none⟩ = some (.int .i64 nx) := f2.at rfl
      have d5 : wc.cell? ⟨B2, 1, none⟩ = some (.int .i64 a) := f2.at rfl
      have FIN : Hid (SV wc (.agg #[.int .i64 (h - a), .int .i64 (nx + 1), .slice A2 (n + 1) c2, .slice B m d]) (h - a) (nx + 1) (O ++ [(nx, a)]) I) := Lib.hid (by
        refine ⟨A2, c2, B, d, by rw [HLI.out, List.length_append, HLO.out]; rfl, own_rl fO, HRI.out.keep fb, fun e => ?_, fun e => ?_, ?_, ?_⟩
        · rw [List.length_append, HLO.out]; exact HA2.out e
        · rw [HLI.out]; exact HBN.out e
        · rw [List.length_append, HLO.out]; exact HC2.out
        · rw [HLI.out]; exact HD.out)
      have FB := Lib.hid fb
      clear fO fb f1 f2
      go_wp2_with fail
      (try simp only [Exit.inBlock, Exit.then])
      refine bodyPost_ret (by simp [results, Try.results12, go_sem, d0, d1, d2, d3, d4, d5]; try rfl) rfl ?_
      exact ⟨⟨_, rfl, FIN.out⟩, FB.out⟩

/-- Send, whatever it is given -/
theorem rsend_all (v : Value) (h nx : Int) (O : List (Int × Int)) (I : List Int) (a : Int) (w : World) (hs : SV w v h nx O I) :
    Calls Try.prog 12 #[v, .int .i64 a] w fun e w' => (∃ v' t er, e = .returned (.tuple #[v', t, .int .i64 er]) ∧ RSendR w' v' t er h nx O I a) ∧ Below w.heap.size w w' := by
  obtain ⟨A, c, B, d, rfl, hRO, hRI, hAn, hBn, hc, hd⟩ := hs
  have bad : ∀ er : Int, er ≠ 0 → er = sE h nx O I a → ∀ w' : World, RSendR w' zS (.agg #[.int .i64 0, .int .i64 0]) er h nx O I a := fun er h0 he w' => ⟨he, .inr ⟨h0, rfl, rfl⟩⟩
  cases hv : vB h nx O I
  · refine (rsend_b1 h nx A _ c B _ d O I a w (by omega) (by omega) rfl rfl hRO hRI hv).mono ?_
    rintro e w' ⟨rfl, hb⟩
    exact ⟨⟨_, _, _, rfl, bad 1 (by decide) (by unfold sE; rw [if_neg (fun x => by rw [hv] at x; exact absurd x.1 (by decide))]) _⟩, hb⟩
  · by_cases h1 : a < 1
    · refine (rsend_b2 h nx A _ c B _ d O I a w (by omega) (by omega) rfl rfl hRO hRI hv h1).mono ?_
      rintro e w' ⟨rfl, hb⟩
      exact ⟨⟨_, _, _, rfl, bad 1 (by decide) (by unfold sE; rw [if_neg (fun x => by omega)]) _⟩, hb⟩
    · by_cases h2 : 1000 < a
      · refine (rsend_b3 h nx A _ c B _ d O I a w (by omega) (by omega) rfl rfl hRO hRI hv h2).mono ?_
        rintro e w' ⟨rfl, hb⟩
        exact ⟨⟨_, _, _, rfl, bad 1 (by decide) (by unfold sE; rw [if_neg (fun x => by omega)]) _⟩, hb⟩
      · have hp : vB h nx O I = true ∧ 1 ≤ a ∧ a ≤ 1000 := ⟨hv, by omega, by omega⟩
        by_cases h3 : h < a
        · refine (rsend_b4 h nx A _ c B _ d O I a w (by omega) (by omega) rfl rfl hRO hRI hv (by omega) h3).mono ?_
          rintro e w' ⟨rfl, hb⟩
          exact ⟨⟨_, _, _, rfl, bad 13 (by decide) (by unfold sE; rw [if_pos hp, if_pos h3]) _⟩, hb⟩
        · by_cases h4 : O.length = 64
          · refine (rsend_b5 h nx A _ c B _ d O I a w (by omega) (by omega) rfl rfl hRO hRI hv (by omega) (by omega) h4).mono ?_
            rintro e w' ⟨rfl, hb⟩
            exact ⟨⟨_, _, _, rfl, bad 10 (by decide) (by unfold sE; rw [if_pos hp, if_neg h3, if_pos h4]) _⟩, hb⟩
          · by_cases h5 : 1000000 < nx
            · refine (rsend_b6 h nx A _ c B _ d O I a w (by omega) (by omega) rfl rfl hRO hRI hv (by omega) (by omega) h4 h5).mono ?_
              rintro e w' ⟨rfl, hb⟩
              exact ⟨⟨_, _, _, rfl, bad 3 (by decide) (by unfold sE; rw [if_pos hp, if_neg h3, if_neg h4, if_pos h5]) _⟩, hb⟩
            · refine (rsend_ok h nx A _ c B _ d O I a w rfl rfl hRO hRI hAn hBn hv (by omega) (by omega) h4 (by omega) hc hd).mono ?_
              rintro e w' ⟨⟨v', rfl, hs'⟩, hb⟩
              exact ⟨⟨_, _, _, rfl, by unfold sE; rw [if_pos hp, if_neg h3, if_neg h4, if_neg h5], .inl ⟨rfl, hs', rfl⟩⟩, hb⟩

end Go.Proofs.Yteeohndgkfilaaa
