/-
  THE WALKS over package share, seventh part: Send's refusals; Send.
-/
import Derived.Test.YteeohndgkfilaaaSend
namespace Go.Proofs.Yteeohndgkfilaaa
open Go.RowKit
set_option linter.unusedVariables false
attribute [local go_sem ↓] Go.wp_at_zero Go.wp_at_succ

set_option maxRecDepth 100000 in
set_option maxHeartbeats 4000000 in
theorem send_b1 (h nx : Int) (A : Option Addr) (n c : Nat) (B : Option Addr) (m d : Nat) (O : List (Int × Int)) (I : List Int) (a : Int) (w : World) (hn : n ≤ 9223372036854775807) (hm : m ≤ 9223372036854775807) (hlO : O.length = n) (hlI : I.length = m) (hRO : RL w A (cT O)) (hRI : RL w B (cI I)) (hv : vB h nx O I = false) :
    Calls Try.prog 11 #[.agg #[.int .i64 h, .int .i64 nx, .slice A n c, .slice B m d], .int .i64 a] w fun e w' => e = .returned (.tuple #[zS, .agg #[.int .i64 0, .int .i64 0], .int .i64 1]) ∧ Below w.heap.size w w' := by
  have HV := Lib.hid hv
  have HRO := Lib.hid hRO
  have HRI := Lib.hid hRI
  have HLO := Lib.hid hlO
  have HLI := Lib.hid hlI

  clear hv hRO hRI hlO hlI
  go_enter Try.func11, Try.ntmps11
  go_wp2_with (go_at_call 18; with_reducible refine (val_any h nx A n c B m d O I _ hn hm HLO.out HLI.out (HRO.out.keep (bel_alloc (bel_alloc (bel_a w _) _) _)) (HRI.out.keep (bel_alloc (bel_alloc (bel_a w _) _) _))).mono ?_; rintro e w1 ⟨rfl, h1⟩; rw [HV.out]
               have H1 := Lib.hid (bel_step (bel_alloc (bel_alloc (bel_a w (.cells #[.int .i64 h, .int .i64 nx, .slice A n c, .slice B m d] 25)) (.cells #[.int .i64 0, .int .i64 0, .slice none 0 0, .slice none 0 0] 25)) (.cells #[.int .i64 0, .int .i64 0] 27)) h1)
               have p0 := (((OW.new w 25 [.int .i64 h, .int .i64 nx, .slice A n c, .slice B m d]).alloc (.cells #[.int .i64 0, .int .i64 0, .slice none 0 0, .slice none 0 0] 25)).alloc (.cells #[.int .i64 0, .int .i64 0] 27)).keep h1
               have p1 := ((OW.new1 w (.cells #[.int .i64 h, .int .i64 nx, .slice A n c, .slice B m d] 25) 25 [.int .i64 0, .int .i64 0, .slice none 0 0, .slice none 0 0]).alloc (.cells #[.int .i64 0, .int .i64 0] 27)).keep h1
               have p2 := (OW.new2 w (.cells #[.int .i64 h, .int .i64 nx, .slice A n c, .slice B m d] 25) (.cells #[.int .i64 0, .int .i64 0, .slice none 0 0, .slice none 0 0] 25) 27 [.int .i64 0, .int .i64 0]).keep h1
               have c00 := p0.at (j := 0) rfl
               have c01 := p0.at (j := 1) rfl
               have c02 := p0.at (j := 2) rfl
               have c03 := p0.at (j := 3) rfl
               have c10 := p1.at (j := 0) rfl
               have c11 := p1.at (j := 1) rfl
               have c12 := p1.at (j := 2) rfl
               have c13 := p1.at (j := 3) rfl
               have z10 := p1.thaw 0
               have z11 := p1.thaw 1
               have z12 := p1.thaw 2
               have z13 := p1.thaw 3
               have c20 := p2.at (j := 0) rfl
               have c21 := p2.at (j := 1) rfl
               have z20 := p2.thaw 0
               have z21 := p2.thaw 1
               have P1 := Lib.hid p1
               have P2 := Lib.hid p2
               clear p0 p1 p2 h1)
  all_goals (try (exfalso; omega))
  have f1 := (((((P1.out.set 0 (.int .i64 0)).set 1 (.int .i64 0)).set 2 (.slice none 0 0)).set 3 (.slice none 0 0)).far (b := w.heap.size + 1 + 1) (by omega) 0 (.int .i64 0)).far (b := w.heap.size + 1 + 1) (by omega) 1 (.int .i64 0)
  have f2 := (((((P2.out.far (b := w.heap.size + 1) (by omega) 0 (.int .i64 0)).far (b := w.heap.size + 1) (by omega) 1 (.int .i64 0)).far (b := w.heap.size + 1) (by omega) 2 (.slice none 0 0)).far (b := w.heap.size + 1) (by omega) 3 (.slice none 0 0)).set 0 (.int .i64 0)).set 1 (.int .i64 0)
  have fb := (((((H1.out.setCell (p := ⟨w.heap.size + 1, 0, none⟩) (by show w.heap.size ≤ w.heap.size + 1; omega) (.int .i64 0)).setCell (p := ⟨w.heap.size + 1, 1, none⟩) (by show w.heap.size ≤ w.heap.size + 1; omega) (.int .i64 0)).setCell (p := ⟨w.heap.size + 1, 2, none⟩) (by show w.heap.size ≤ w.heap.size + 1; omega) (.slice none 0 0)).setCell (p := ⟨w.heap.size + 1, 3, none⟩) (by show w.heap.size ≤ w.heap.size + 1; omega) (.slice none 0 0)).setCell (p := ⟨w.heap.size + 1 + 1, 0, none⟩) (by show w.heap.size ≤ w.heap.size + 1 + 1; omega) (.int .i64 0)).setCell (p := ⟨w.heap.size + 1 + 1, 1, none⟩) (by show w.heap.size ≤ w.heap.size + 1 + 1; omega) (.int .i64 0)
  obtain ⟨wF, hwF⟩ : ∃ wF, (((((w1.setCell ⟨w.heap.size + 1, 0, none⟩ (.int .i64 0)).setCell ⟨w.heap.size + 1, 1, none⟩ (.int .i64 0)).setCell ⟨w.heap.size + 1, 2, none⟩ (.slice none 0 0)).setCell ⟨w.heap.size + 1, 3, none⟩ (.slice none 0 0)).setCell ⟨w.heap.size + 1 + 1, 0, none⟩ (.int .i64 0)).setCell ⟨w.heap.size + 1 + 1, 1, none⟩ (.int .i64 0) = wF := ⟨_, rfl⟩
  rw [hwF] at f1 f2 fb ⊢
  have d0 : wF.cell? ⟨w.heap.size + 1, 0, none⟩ = some (.int .i64 0) := f1.at rfl
  have d1 : wF.cell? ⟨w.heap.size + 1, 1, none⟩ = some (.int .i64 0) := f1.at rfl
  have d2 : wF.cell? ⟨w.heap.size + 1, 2, none⟩ = some (.slice none 0 0) := f1.at rfl
  have d3 : wF.cell? ⟨w.heap.size + 1, 3, none⟩ = some (.slice none 0 0) := f1.at rfl
  have d4 : wF.cell? ⟨w.heap.size + 1 + 1, 0, none⟩ = some (.int .i64 0) := f2.at rfl
  have d5 : wF.cell? ⟨w.heap.size + 1 + 1, 1, none⟩ = some (.int .i64 0) := f2.at rfl
  (try simp only [Exit.inBlock, Exit.then])
  refine bodyPost_ret (by simp [results, Try.results11, go_sem, d0, d1, d2, d3, d4, d5]; try rfl) rfl ?_
  exact ⟨rfl, fb⟩

set_option maxRecDepth 100000 in
set_option maxHeartbeats 4000000 in
theorem send_b2 (h nx : Int) (A : Option Addr) (n c : Nat) (B : Option Addr) (m d : Nat) (O : List (Int × Int)) (I : List Int) (a : Int) (w : World) (hn : n ≤ 9223372036854775807) (hm : m ≤ 9223372036854775807) (hlO : O.length = n) (hlI : I.length = m) (hRO : RL w A (cT O)) (hRI : RL w B (cI I)) (hv : vB h nx O I = true) (ha : a < 1) :
    Calls Try.prog 11 #[.agg #[.int .i64 h, .int .i64 nx, .slice A n c, .slice B m d], .int .i64 a] w fun e w' => e = .returned (.tuple #[zS, .agg #[.int .i64 0, .int .i64 0], .int .i64 1]) ∧ Below w.heap.size w w' := by
  have HV := Lib.hid hv
  have HRO := Lib.hid hRO
  have HRI := Lib.hid hRI
  have HLO := Lib.hid hlO
  have HLI := Lib.hid hlI
  have hvs := vB_iff.1 hv
  have hh2 := hvs.1
  have hn64 : n ≤ 64 := by have := hvs.2.1; omega
  have hm64 : m ≤ 64 := by have := hvs.2.1; omega
  obtain ⟨⟨b1, b2⟩, b3, b4⟩ := hh2
  clear hvs
  have e1 : decide (a < 1) = true := decide_eq_true ha
  clear hv hRO hRI hlO hlI
  go_enter Try.func11, Try.ntmps11
  go_wp2_with (go_at_call 18; with_reducible refine (val_any h nx A n c B m d O I _ hn hm HLO.out HLI.out (HRO.out.keep (bel_alloc (bel_alloc (bel_a w _) _) _)) (HRI.out.keep (bel_alloc (bel_alloc (bel_a w _) _) _))).mono ?_; rintro e w1 ⟨rfl, h1⟩; rw [HV.out]
               have H1 := Lib.hid (bel_step (bel_alloc (bel_alloc (bel_a w (.cells #[.int .i64 h, .int .i64 nx, .slice A n c, .slice B m d] 25)) (.cells #[.int .i64 0, .int .i64 0, .slice none 0 0, .slice none 0 0] 25)) (.cells #[.int .i64 0, .int .i64 0] 27)) h1)
               have p0 := (((OW.new w 25 [.int .i64 h, .int .i64 nx, .slice A n c, .slice B m d]).alloc (.cells #[.int .i64 0, .int .i64 0, .slice none 0 0, .slice none 0 0] 25)).alloc (.cells #[.int .i64 0, .int .i64 0] 27)).keep h1
               have p1 := ((OW.new1 w (.cells #[.int .i64 h, .int .i64 nx, .slice A n c, .slice B m d] 25) 25 [.int .i64 0, .int .i64 0, .slice none 0 0, .slice none 0 0]).alloc (.cells #[.int .i64 0, .int .i64 0] 27)).keep h1
               have p2 := (OW.new2 w (.cells #[.int .i64 h, .int .i64 nx, .slice A n c, .slice B m d] 25) (.cells #[.int .i64 0, .int .i64 0, .slice none 0 0, .slice none 0 0] 25) 27 [.int .i64 0, .int .i64 0]).keep h1
               have c00 := p0.at (j := 0) rfl
               have c01 := p0.at (j := 1) rfl
               have c02 := p0.at (j := 2) rfl
               have c03 := p0.at (j := 3) rfl
               have c10 := p1.at (j := 0) rfl
               have c11 := p1.at (j := 1) rfl
               have c12 := p1.at (j := 2) rfl
               have c13 := p1.at (j := 3) rfl
               have z10 := p1.thaw 0
               have z11 := p1.thaw 1
               have z12 := p1.thaw 2
               have z13 := p1.thaw 3
               have c20 := p2.at (j := 0) rfl
               have c21 := p2.at (j := 1) rfl
               have z20 := p2.thaw 0
               have z21 := p2.thaw 1
               have P1 := Lib.hid p1
               have P2 := Lib.hid p2
               clear p0 p1 p2 h1)
  all_goals (try (exfalso; omega))
  have f1 := (((((P1.out.set 0 (.int .i64 0)).set 1 (.int .i64 0)).set 2 (.slice none 0 0)).set 3 (.slice none 0 0)).far (b := w.heap.size + 1 + 1) (by omega) 0 (.int .i64 0)).far (b := w.heap.size + 1 + 1) (by omega) 1 (.int .i64 0)
  have f2 := (((((P2.out.far (b := w.heap.size + 1) (by omega) 0 (.int .i64 0)).far (b := w.heap.size + 1) (by omega) 1 (.int .i64 0)).far (b := w.heap.size + 1) (by omega) 2 (.slice none 0 0)).far (b := w.heap.size + 1) (by omega) 3 (.slice none 0 0)).set 0 (.int .i64 0)).set 1 (.int .i64 0)
  have fb := (((((H1.out.setCell (p := ⟨w.heap.size + 1, 0, none⟩) (by show w.heap.size ≤ w.heap.size + 1; omega) (.int .i64 0)).setCell (p := ⟨w.heap.size + 1, 1, none⟩) (by show w.heap.size ≤ w.heap.size + 1; omega) (.int .i64 0)).setCell (p := ⟨w.heap.size + 1, 2, none⟩) (by show w.heap.size ≤ w.heap.size + 1; omega) (.slice none 0 0)).setCell (p := ⟨w.heap.size + 1, 3, none⟩) (by show w.heap.size ≤ w.heap.size + 1; omega) (.slice none 0 0)).setCell (p := ⟨w.heap.size + 1 + 1, 0, none⟩) (by show w.heap.size ≤ w.heap.size + 1 + 1; omega) (.int .i64 0)).setCell (p := ⟨w.heap.size + 1 + 1, 1, none⟩) (by show w.heap.size ≤ w.heap.size + 1 + 1; omega) (.int .i64 0)
  obtain ⟨wF, hwF⟩ : ∃ wF, (((((w1.setCell ⟨w.heap.size + 1, 0, none⟩ (.int .i64 0)).setCell ⟨w.heap.size + 1, 1, none⟩ (.int .i64 0)).setCell ⟨w.heap.size + 1, 2, none⟩ (.slice none 0 0)).setCell ⟨w.heap.size + 1, 3, none⟩ (.slice none 0 0)).setCell ⟨w.heap.size + 1 + 1, 0, none⟩ (.int .i64 0)).setCell ⟨w.heap.size + 1 + 1, 1, none⟩ (.int .i64 0) = wF := ⟨_, rfl⟩
  rw [hwF] at f1 f2 fb ⊢
  have d0 : wF.cell? ⟨w.heap.size + 1, 0, none⟩ = some (.int .i64 0) := f1.at rfl
  have d1 : wF.cell? ⟨w.heap.size + 1, 1, none⟩ = some (.int .i64 0) := f1.at rfl
  have d2 : wF.cell? ⟨w.heap.size + 1, 2, none⟩ = some (.slice none 0 0) := f1.at rfl
  have d3 : wF.cell? ⟨w.heap.size + 1, 3, none⟩ = some (.slice none 0 0) := f1.at rfl
  have d4 : wF.cell? ⟨w.heap.size + 1 + 1, 0, none⟩ = some (.int .i64 0) := f2.at rfl
  have d5 : wF.cell? ⟨w.heap.size + 1 + 1, 1, none⟩ = some (.int .i64 0) := f2.at rfl
  (try simp only [Exit.inBlock, Exit.then])
  refine bodyPost_ret (by simp [results, Try.results11, go_sem, d0, d1, d2, d3, d4, d5]; try rfl) rfl ?_
  exact ⟨rfl, fb⟩

set_option maxRecDepth 100000 in
set_option maxHeartbeats 4000000 in
theorem send_b3 (h nx : Int) (A : Option Addr) (n c : Nat) (B : Option Addr) (m d : Nat) (O : List (Int × Int)) (I : List Int) (a : Int) (w : World) (hn : n ≤ 9223372036854775807) (hm : m ≤ 9223372036854775807) (hlO : O.length = n) (hlI : I.length = m) (hRO : RL w A (cT O)) (hRI : RL w B (cI I)) (hv : vB h nx O I = true) (ha : 1000 < a) :
    Calls Try.prog 11 #[.agg #[.int .i64 h, .int .i64 nx, .slice A n c, .slice B m d], .int .i64 a] w fun e w' => e = .returned (.tuple #[zS, .agg #[.int .i64 0, .int .i64 0], .int .i64 1]) ∧ Below w.heap.size w w' := by
  have HV := Lib.hid hv
  have HRO := Lib.hid hRO
  have HRI := Lib.hid hRI
  have HLO := Lib.hid hlO
  have HLI := Lib.hid hlI
  have hvs := vB_iff.1 hv
  have hh2 := hvs.1
  have hn64 : n ≤ 64 := by have := hvs.2.1; omega
  have hm64 : m ≤ 64 := by have := hvs.2.1; omega
  obtain ⟨⟨b1, b2⟩, b3, b4⟩ := hh2
  clear hvs
  have e1 : decide (a < 1) = false := decide_eq_false (by omega)
  have e2 : decide (1000 < a) = true := decide_eq_true ha
  clear hv hRO hRI hlO hlI
  go_enter Try.func11, Try.ntmps11
  go_wp2_with (go_at_call 18; with_reducible refine (val_any h nx A n c B m d O I _ hn hm HLO.out HLI.out (HRO.out.keep (bel_alloc (bel_alloc (bel_a w _) _) _)) (HRI.out.keep (bel_alloc (bel_alloc (bel_a w _) _) _))).mono ?_; rintro e w1 ⟨rfl, h1⟩; rw [HV.out]
               have H1 := Lib.hid (bel_step (bel_alloc (bel_alloc (bel_a w (.cells #[.int .i64 h, .int .i64 nx, .slice A n c, .slice B m d] 25)) (.cells #[.int .i64 0, .int .i64 0, .slice none 0 0, .slice none 0 0] 25)) (.cells #[.int .i64 0, .int .i64 0] 27)) h1)
               have p0 := (((OW.new w 25 [.int .i64 h, .int .i64 nx, .slice A n c, .slice B m d]).alloc (.cells #[.int .i64 0, .int .i64 0, .slice none 0 0, .slice none 0 0] 25)).alloc (.cells #[.int .i64 0, .int .i64 0] 27)).keep h1
               have p1 := ((OW.new1 w (.cells #[.int .i64 h, .int .i64 nx, .slice A n c, .slice B m d] 25) 25 [.int .i64 0, .int .i64 0, .slice none 0 0, .slice none 0 0]).alloc (.cells #[.int .i64 0, .int .i64 0] 27)).keep h1
               have p2 := (OW.new2 w (.cells #[.int .i64 h, .int .i64 nx, .slice A n c, .slice B m d] 25) (.cells #[.int .i64 0, .int .i64 0, .slice none 0 0, .slice none 0 0] 25) 27 [.int .i64 0, .int .i64 0]).keep h1
               have c00 := p0.at (j := 0) rfl
               have c01 := p0.at (j := 1) rfl
               have c02 := p0.at (j := 2) rfl
               have c03 := p0.at (j := 3) rfl
               have c10 := p1.at (j := 0) rfl
               have c11 := p1.at (j := 1) rfl
               have c12 := p1.at (j := 2) rfl
               have c13 := p1.at (j := 3) rfl
               have z10 := p1.thaw 0
               have z11 := p1.thaw 1
               have z12 := p1.thaw 2
               have z13 := p1.thaw 3
               have c20 := p2.at (j := 0) rfl
               have c21 := p2.at (j := 1) rfl
               have z20 := p2.thaw 0
               have z21 := p2.thaw 1
               have P1 := Lib.hid p1
               have P2 := Lib.hid p2
               clear p0 p1 p2 h1)
  all_goals (try (exfalso; omega))
  have f1 := (((((P1.out.set 0 (.int .i64 0)).set 1 (.int .i64 0)).set 2 (.slice none 0 0)).set 3 (.slice none 0 0)).far (b := w.heap.size + 1 + 1) (by omega) 0 (.int .i64 0)).far (b := w.heap.size + 1 + 1) (by omega) 1 (.int .i64 0)
  have f2 := (((((P2.out.far (b := w.heap.size + 1) (by omega) 0 (.int .i64 0)).far (b := w.heap.size + 1) (by omega) 1 (.int .i64 0)).far (b := w.heap.size + 1) (by omega) 2 (.slice none 0 0)).far (b := w.heap.size + 1) (by omega) 3 (.slice none 0 0)).set 0 (.int .i64 0)).set 1 (.int .i64 0)
  have fb := (((((H1.out.setCell (p := ⟨w.heap.size + 1, 0, none⟩) (by show w.heap.size ≤ w.heap.size + 1; omega) (.int .i64 0)).setCell (p := ⟨w.heap.size + 1, 1, none⟩) (by show w.heap.size ≤ w.heap.size + 1; omega) (.int .i64 0)).setCell (p := ⟨w.heap.size + 1, 2, none⟩) (by show w.heap.size ≤ w.heap.size + 1; omega) (.slice none 0 0)).setCell (p := ⟨w.heap.size + 1, 3, none⟩) (by show w.heap.size ≤ w.heap.size + 1; omega) (.slice none 0 0)).setCell (p := ⟨w.heap.size + 1 + 1, 0, none⟩) (by show w.heap.size ≤ w.heap.size + 1 + 1; omega) (.int .i64 0)).setCell (p := ⟨w.heap.size + 1 + 1, 1, none⟩) (by show w.heap.size ≤ w.heap.size + 1 + 1; omega) (.int .i64 0)
  obtain ⟨wF, hwF⟩ : ∃ wF, (((((w1.setCell ⟨w.heap.size + 1, 0, none⟩ (.int .i64 0)).setCell ⟨w.heap.size + 1, 1, none⟩ (.int .i64 0)).setCell ⟨w.heap.size + 1, 2, none⟩ (.slice none 0 0)).setCell ⟨w.heap.size + 1, 3, none⟩ (.slice none 0 0)).setCell ⟨w.heap.size + 1 + 1, 0, none⟩ (.int .i64 0)).setCell ⟨w.heap.size + 1 + 1, 1, none⟩ (.int .i64 0) = wF := ⟨_, rfl⟩
  rw [hwF] at f1 f2 fb ⊢
  have d0 : wF.cell? ⟨w.heap.size + 1, 0, none⟩ = some (.int .i64 0) := f1.at rfl
  have d1 : wF.cell? ⟨w.heap.size + 1, 1, none⟩ = some (.int .i64 0) := f1.at rfl
  have d2 : wF.cell? ⟨w.heap.size + 1, 2, none⟩ = some (.slice none 0 0) := f1.at rfl
  have d3 : wF.cell? ⟨w.heap.size + 1, 3, none⟩ = some (.slice none 0 0) := f1.at rfl
  have d4 : wF.cell? ⟨w.heap.size + 1 + 1, 0, none⟩ = some (.int .i64 0) := f2.at rfl
  have d5 : wF.cell? ⟨w.heap.size + 1 + 1, 1, none⟩ = some (.int .i64 0) := f2.at rfl
  (try simp only [Exit.inBlock, Exit.then])
  refine bodyPost_ret (by simp [results, Try.results11, go_sem, d0, d1, d2, d3, d4, d5]; try rfl) rfl ?_
  exact ⟨rfl, fb⟩

set_option maxRecDepth 100000 in
set_option maxHeartbeats 4000000 in
theorem send_b4 (h nx : Int) (A : Option Addr) (n c : Nat) (B : Option Addr) (m d : Nat) (O : List (Int × Int)) (I : List Int) (a : Int) (w : World) (hn : n ≤ 9223372036854775807) (hm : m ≤ 9223372036854775807) (hlO : O.length = n) (hlI : I.length = m) (hRO : RL w A (cT O)) (hRI : RL w B (cI I)) (hv : vB h nx O I = true) (ha : 1 ≤ a ∧ a ≤ 1000) (hh : h < a) :
    Calls Try.prog 11 #[.agg #[.int .i64 h, .int .i64 nx, .slice A n c, .slice B m d], .int .i64 a] w fun e w' => e = .returned (.tuple #[zS, .agg #[.int .i64 0, .int .i64 0], .int .i64 13]) ∧ Below w.heap.size w w' := by
  have HV := Lib.hid hv
  have HRO := Lib.hid hRO
  have HRI := Lib.hid hRI
  have HLO := Lib.hid hlO
  have HLI := Lib.hid hlI
  have hvs := vB_iff.1 hv
  have hh2 := hvs.1
  have hn64 : n ≤ 64 := by have := hvs.2.1; omega
  have hm64 : m ≤ 64 := by have := hvs.2.1; omega
  obtain ⟨⟨b1, b2⟩, b3, b4⟩ := hh2
  clear hvs
  have e1 : decide (a < 1) = false := decide_eq_false (by omega)
  have e2 : decide (1000 < a) = false := decide_eq_false (by omega)
  clear hv hRO hRI hlO hlI
  go_enter Try.func11, Try.ntmps11
  go_wp2_with (go_at_call 18; with_reducible refine (val_any h nx A n c B m d O I _ hn hm HLO.out HLI.out (HRO.out.keep (bel_alloc (bel_alloc (bel_a w _) _) _)) (HRI.out.keep (bel_alloc (bel_alloc (bel_a w _) _) _))).mono ?_; rintro e w1 ⟨rfl, h1⟩; rw [HV.out]
               have H1 := Lib.hid (bel_step (bel_alloc (bel_alloc (bel_a w (.cells #[.int .i64 h, .int .i64 nx, .slice A n c, .slice B m d] 25)) (.cells #[.int .i64 0, .int .i64 0, .slice none 0 0, .slice none 0 0] 25)) (.cells #[.int .i64 0, .int .i64 0] 27)) h1)
               have p0 := (((OW.new w 25 [.int .i64 h, .int .i64 nx, .slice A n c, .slice B m d]).alloc (.cells #[.int .i64 0, .int .i64 0, .slice none 0 0, .slice none 0 0] 25)).alloc (.cells #[.int .i64 0, .int .i64 0] 27)).keep h1
               have p1 := ((OW.new1 w (.cells #[.int .i64 h, .int .i64 nx, .slice A n c, .slice B m d] 25) 25 [.int .i64 0, .int .i64 0, .slice none 0 0, .slice none 0 0]).alloc (.cells #[.int .i64 0, .int .i64 0] 27)).keep h1
               have p2 := (OW.new2 w (.cells #[.int .i64 h, .int .i64 nx, .slice A n c, .slice B m d] 25) (.cells #[.int .i64 0, .int .i64 0, .slice none 0 0, .slice none 0 0] 25) 27 [.int .i64 0, .int .i64 0]).keep h1
               have c00 := p0.at (j := 0) rfl
               have c01 := p0.at (j := 1) rfl
               have c02 := p0.at (j := 2) rfl
               have c03 := p0.at (j := 3) rfl
               have c10 := p1.at (j := 0) rfl
               have c11 := p1.at (j := 1) rfl
               have c12 := p1.at (j := 2) rfl
               have c13 := p1.at (j := 3) rfl
               have z10 := p1.thaw 0
               have z11 := p1.thaw 1
               have z12 := p1.thaw 2
               have z13 := p1.thaw 3
               have c20 := p2.at (j := 0) rfl
               have c21 := p2.at (j := 1) rfl
               have z20 := p2.thaw 0
               have z21 := p2.thaw 1
               have P1 := Lib.hid p1
               have P2 := Lib.hid p2
               clear p0 p1 p2 h1)
  all_goals (try (exfalso; omega))
  have f1 := (((((P1.out.set 0 (.int .i64 0)).set 1 (.int .i64 0)).set 2 (.slice none 0 0)).set 3 (.slice none 0 0)).far (b := w.heap.size + 1 + 1) (by omega) 0 (.int .i64 0)).far (b := w.heap.size + 1 + 1) (by omega) 1 (.int .i64 0)
  have f2 := (((((P2.out.far (b := w.heap.size + 1) (by omega) 0 (.int .i64 0)).far (b := w.heap.size + 1) (by omega) 1 (.int .i64 0)).far (b := w.heap.size + 1) (by omega) 2 (.slice none 0 0)).far (b := w.heap.size + 1) (by omega) 3 (.slice none 0 0)).set 0 (.int .i64 0)).set 1 (.int .i64 0)
  have fb := (((((H1.out.setCell (p := ⟨w.heap.size + 1, 0, none⟩) (by show w.heap.size ≤ w.heap.size + 1; omega) (.int .i64 0)).setCell (p := ⟨w.heap.size + 1, 1, none⟩) (by show w.heap.size ≤ w.heap.size + 1; omega) (.int .i64 0)).setCell (p := ⟨w.heap.size + 1, 2, none⟩) (by show w.heap.size ≤ w.heap.size + 1; omega) (.slice none 0 0)).setCell (p := ⟨w.heap.size + 1, 3, none⟩) (by show w.heap.size ≤ w.heap.size + 1; omega) (.slice none 0 0)).setCell (p := ⟨w.heap.size + 1 + 1, 0, none⟩) (by show w.heap.size ≤ w.heap.size + 1 + 1; omega) (.int .i64 0)).setCell (p := ⟨w.heap.size + 1 + 1, 1, none⟩) (by show w.heap.size ≤ w.heap.size + 1 + 1; omega) (.int .i64 0)
  obtain ⟨wF, hwF⟩ : ∃ wF, (((((w1.setCell ⟨w.heap.size + 1, 0, none⟩ (.int .i64 0)).setCell ⟨w.heap.size + 1, 1, none⟩ (.int .i64 0)).setCell ⟨w.heap.size + 1, 2, none⟩ (.slice none 0 0)).setCell ⟨w.heap.size + 1, 3, none⟩ (.slice none 0 0)).setCell ⟨w.heap.size + 1 + 1, 0, none⟩ (.int .i64 0)).setCell ⟨w.heap.size + 1 + 1, 1, none⟩ (.int .i64 0) = wF := ⟨_, rfl⟩
  rw [hwF] at f1 f2 fb ⊢
  have d0 : wF.cell? ⟨w.heap.size + 1, 0, none⟩ = some (.int .i64 0) := f1.at rfl
  have d1 : wF.cell? ⟨w.heap.size + 1, 1, none⟩ = some (.int .i64 0) := f1.at rfl
  have d2 : wF.cell? ⟨w.heap.size + 1, 2, none⟩ = some (.slice none 0 0) := f1.at rfl
  have d3 : wF.cell? ⟨w.heap.size + 1, 3, none⟩ = some (.slice none 0 0) := f1.at rfl
  have d4 : wF.cell? ⟨w.heap.size + 1 + 1, 0, none⟩ = some (.int .i64 0) := f2.at rfl
  have d5 : wF.cell? ⟨w.heap.size + 1 + 1, 1, none⟩ = some (.int .i64 0) := f2.at rfl
  (try simp only [Exit.inBlock, Exit.then])
  refine bodyPost_ret (by simp [results, Try.results11, go_sem, d0, d1, d2, d3, d4, d5]; try rfl) rfl ?_
  exact ⟨rfl, fb⟩

set_option maxRecDepth 100000 in
set_option maxHeartbeats 4000000 in
theorem send_b5 (h nx : Int) (A : Option Addr) (n c : Nat) (B : Option Addr) (m d : Nat) (O : List (Int × Int)) (I : List Int) (a : Int) (w : World) (hn : n ≤ 9223372036854775807) (hm : m ≤ 9223372036854775807) (hlO : O.length = n) (hlI : I.length = m) (hRO : RL w A (cT O)) (hRI : RL w B (cI I)) (hv : vB h nx O I = true) (ha : 1 ≤ a ∧ a ≤ 1000) (hh : a ≤ h) (h64 : n = 64) :
    Calls Try.prog 11 #[.agg #[.int .i64 h, .int .i64 nx, .slice A n c, .slice B m d], .int .i64 a] w fun e w' => e = .returned (.tuple #[zS, .agg #[.int .i64 0, .int .i64 0], .int .i64 10]) ∧ Below w.heap.size w w' := by
  have HV := Lib.hid hv
  have HRO := Lib.hid hRO
  have HRI := Lib.hid hRI
  have HLO := Lib.hid hlO
  have HLI := Lib.hid hlI
  have hvs := vB_iff.1 hv
  have hh2 := hvs.1
  have hn64 : n ≤ 64 := by have := hvs.2.1; omega
  have hm64 : m ≤ 64 := by have := hvs.2.1; omega
  obtain ⟨⟨b1, b2⟩, b3, b4⟩ := hh2
  clear hvs
  have e1 : decide (a < 1) = false := decide_eq_false (by omega)
  have e2 : decide (1000 < a) = false := decide_eq_false (by omega)
  have e3 : ((n : Int) == 64) = true := by simp; omega
  clear h64
  clear hv hRO hRI hlO hlI
  go_enter Try.func11, Try.ntmps11
  go_wp2_with (go_at_call 18; with_reducible refine (val_any h nx A n c B m d O I _ hn hm HLO.out HLI.out (HRO.out.keep (bel_alloc (bel_alloc (bel_a w _) _) _)) (HRI.out.keep (bel_alloc (bel_alloc (bel_a w _) _) _))).mono ?_; rintro e w1 ⟨rfl, h1⟩; rw [HV.out]
               have H1 := Lib.hid (bel_step (bel_alloc (bel_alloc (bel_a w (.cells #[.int .i64 h, .int .i64 nx, .slice A n c, .slice B m d] 25)) (.cells #[.int .i64 0, .int .i64 0, .slice none 0 0, .slice none 0 0] 25)) (.cells #[.int .i64 0, .int .i64 0] 27)) h1)
               have p0 := (((OW.new w 25 [.int .i64 h, .int .i64 nx, .slice A n c, .slice B m d]).alloc (.cells #[.int .i64 0, .int .i64 0, .slice none 0 0, .slice none 0 0] 25)).alloc (.cells #[.int .i64 0, .int .i64 0] 27)).keep h1
               have p1 := ((OW.new1 w (.cells #[.int .i64 h, .int .i64 nx, .slice A n c, .slice B m d] 25) 25 [.int .i64 0, .int .i64 0, .slice none 0 0, .slice none 0 0]).alloc (.cells #[.int .i64 0, .int .i64 0] 27)).keep h1
               have p2 := (OW.new2 w (.cells #[.int .i64 h, .int .i64 nx, .slice A n c, .slice B m d] 25) (.cells #[.int .i64 0, .int .i64 0, .slice none 0 0, .slice none 0 0] 25) 27 [.int .i64 0, .int .i64 0]).keep h1
               have c00 := p0.at (j := 0) rfl
               have c01 := p0.at (j := 1) rfl
               have c02 := p0.at (j := 2) rfl
               have c03 := p0.at (j := 3) rfl
               have c10 := p1.at (j := 0) rfl
               have c11 := p1.at (j := 1) rfl
               have c12 := p1.at (j := 2) rfl
               have c13 := p1.at (j := 3) rfl
               have z10 := p1.thaw 0
               have z11 := p1.thaw 1
               have z12 := p1.thaw 2
               have z13 := p1.thaw 3
               have c20 := p2.at (j := 0) rfl
               have c21 := p2.at (j := 1) rfl
               have z20 := p2.thaw 0
               have z21 := p2.thaw 1
               have P1 := Lib.hid p1
               have P2 := Lib.hid p2
               clear p0 p1 p2 h1)
  all_goals (try (exfalso; omega))
  have f1 := (((((P1.out.set 0 (.int .i64 0)).set 1 (.int .i64 0)).set 2 (.slice none 0 0)).set 3 (.slice none 0 0)).far (b := w.heap.size + 1 + 1) (by omega) 0 (.int .i64 0)).far (b := w.heap.size + 1 + 1) (by omega) 1 (.int .i64 0)
  have f2 := (((((P2.out.far (b := w.heap.size + 1) (by omega) 0 (.int .i64 0)).far (b := w.heap.size + 1) (by omega) 1 (.int .i64 0)).far (b := w.heap.size + 1) (by omega) 2 (.slice none 0 0)).far (b := w.heap.size + 1) (by omega) 3 (.slice none 0 0)).set 0 (.int .i64 0)).set 1 (.int .i64 0)
  have fb := (((((H1.out.setCell (p := ⟨w.heap.size + 1, 0, none⟩) (by show w.heap.size ≤ w.heap.size + 1; omega) (.int .i64 0)).setCell (p := ⟨w.heap.size + 1, 1, none⟩) (by show w.heap.size ≤ w.heap.size + 1; omega) (.int .i64 0)).setCell (p := ⟨w.heap.size + 1, 2, none⟩) (by show w.heap.size ≤ w.heap.size + 1; omega) (.slice none 0 0)).setCell (p := ⟨w.heap.size + 1, 3, none⟩) (by show w.heap.size ≤ w.heap.size + 1; omega) (.slice none 0 0)).setCell (p := ⟨w.heap.size + 1 + 1, 0, none⟩) (by show w.heap.size ≤ w.heap.size + 1 + 1; omega) (.int .i64 0)).setCell (p := ⟨w.heap.size + 1 + 1, 1, none⟩) (by show w.heap.size ≤ w.heap.size + 1 + 1; omega) (.int .i64 0)
  obtain ⟨wF, hwF⟩ : ∃ wF, (((((w1.setCell ⟨w.heap.size + 1, 0, none⟩ (.int .i64 0)).setCell ⟨w.heap.size + 1, 1, none⟩ (.int .i64 0)).setCell ⟨w.heap.size + 1, 2, none⟩ (.slice none 0 0)).setCell ⟨w.heap.size + 1, 3, none⟩ (.slice none 0 0)).setCell ⟨w.heap.size + 1 + 1, 0, none⟩ (.int .i64 0)).setCell ⟨w.heap.size + 1 + 1, 1, none⟩ (.int .i64 0) = wF := ⟨_, rfl⟩
  rw [hwF] at f1 f2 fb ⊢
  have d0 : wF.cell? ⟨w.heap.size + 1, 0, none⟩ = some (.int .i64 0) := f1.at rfl
  have d1 : wF.cell? ⟨w.heap.size + 1, 1, none⟩ = some (.int .i64 0) := f1.at rfl
  have d2 : wF.cell? ⟨w.heap.size + 1, 2, none⟩ = some (.slice none 0 0) := f1.at rfl
  have d3 : wF.cell? ⟨w.heap.size + 1, 3, none⟩ = some (.slice none 0 0) := f1.at rfl
  have d4 : wF.cell? ⟨w.heap.size + 1 + 1, 0, none⟩ = some (.int .i64 0) := f2.at rfl
  have d5 : wF.cell? ⟨w.heap.size + 1 + 1, 1, none⟩ = some (.int .i64 0) := f2.at rfl
  (try simp only [Exit.inBlock, Exit.then])
  refine bodyPost_ret (by simp [results, Try.results11, go_sem, d0, d1, d2, d3, d4, d5]; try rfl) rfl ?_
  exact ⟨rfl, fb⟩

set_option maxRecDepth 100000 in
set_option maxHeartbeats 4000000 in
theorem send_b6 (h nx : Int) (A : Option Addr) (n c : Nat) (B : Option Addr) (m d : Nat) (O : List (Int × Int)) (I : List Int) (a : Int) (w : World) (hn : n ≤ 9223372036854775807) (hm : m ≤ 9223372036854775807) (hlO : O.length = n) (hlI : I.length = m) (hRO : RL w A (cT O)) (hRI : RL w B (cI I)) (hv : vB h nx O I = true) (ha : 1 ≤ a ∧ a ≤ 1000) (hh : a ≤ h) (h64 : n ≠ 64) (hnx : 1000000 < nx) :
    Calls Try.prog 11 #[.agg #[.int .i64 h, .int .i64 nx, .slice A n c, .slice B m d], .int .i64 a] w fun e w' => e = .returned (.tuple #[zS, .agg #[.int .i64 0, .int .i64 0], .int .i64 3]) ∧ Below w.heap.size w w' := by
  have HV := Lib.hid hv
  have HRO := Lib.hid hRO
  have HRI := Lib.hid hRI
  have HLO := Lib.hid hlO
  have HLI := Lib.hid hlI
  have hvs := vB_iff.1 hv
  have hh2 := hvs.1
  have hn64 : n ≤ 64 := by have := hvs.2.1; omega
  have hm64 : m ≤ 64 := by have := hvs.2.1; omega
  obtain ⟨⟨b1, b2⟩, b3, b4⟩ := hh2
  clear hvs
  have e1 : decide (a < 1) = false := decide_eq_false (by omega)
  have e2 : decide (1000 < a) = false := decide_eq_false (by omega)
  have e3 : ((n : Int) == 64) = false := by simp; omega
  clear hv hRO hRI hlO hlI
  go_enter Try.func11, Try.ntmps11
  go_wp2_with (go_at_call 18; with_reducible refine (val_any h nx A n c B m d O I _ hn hm HLO.out HLI.out (HRO.out.keep (bel_alloc (bel_alloc (bel_a w _) _) _)) (HRI.out.keep (bel_alloc (bel_alloc (bel_a w _) _) _))).mono ?_; rintro e w1 ⟨rfl, h1⟩; rw [HV.out]
               have H1 := Lib.hid (bel_step (bel_alloc (bel_alloc (bel_a w (.cells #[.int .i64 h, .int .i64 nx, .slice A n c, .slice B m d] 25)) (.cells #[.int .i64 0, .int .i64 0, .slice none 0 0, .slice none 0 0] 25)) (.cells #[.int .i64 0, .int .i64 0] 27)) h1)
               have p0 := (((OW.new w 25 [.int .i64 h, .int .i64 nx, .slice A n c, .slice B m d]).alloc (.cells #[.int .i64 0, .int .i64 0, .slice none 0 0, .slice none 0 0] 25)).alloc (.cells #[.int .i64 0, .int .i64 0] 27)).keep h1
               have p1 := ((OW.new1 w (.cells #[.int .i64 h, .int .i64 nx, .slice A n c, .slice B m d] 25) 25 [.int .i64 0, .int .i64 0, .slice none 0 0, .slice none 0 0]).alloc (.cells #[.int .i64 0, .int .i64 0] 27)).keep h1
               have p2 := (OW.new2 w (.cells #[.int .i64 h, .int .i64 nx, .slice A n c, .slice B m d] 25) (.cells #[.int .i64 0, .int .i64 0, .slice none 0 0, .slice none 0 0] 25) 27 [.int .i64 0, .int .i64 0]).keep h1
               have c00 := p0.at (j := 0) rfl
               have c01 := p0.at (j := 1) rfl
               have c02 := p0.at (j := 2) rfl
               have c03 := p0.at (j := 3) rfl
               have c10 := p1.at (j := 0) rfl
               have c11 := p1.at (j := 1) rfl
               have c12 := p1.at (j := 2) rfl
               have c13 := p1.at (j := 3) rfl
               have z10 := p1.thaw 0
               have z11 := p1.thaw 1
               have z12 := p1.thaw 2
               have z13 := p1.thaw 3
               have c20 := p2.at (j := 0) rfl
               have c21 := p2.at (j := 1) rfl
               have z20 := p2.thaw 0
               have z21 := p2.thaw 1
               have P1 := Lib.hid p1
               have P2 := Lib.hid p2
               clear p0 p1 p2 h1)
  all_goals (try (exfalso; omega))
  have f1 := (((((P1.out.set 0 (.int .i64 0)).set 1 (.int .i64 0)).set 2 (.slice none 0 0)).set 3 (.slice none 0 0)).far (b := w.heap.size + 1 + 1) (by omega) 0 (.int .i64 0)).far (b := w.heap.size + 1 + 1) (by omega) 1 (.int .i64 0)
  have f2 := (((((P2.out.far (b := w.heap.size + 1) (by omega) 0 (.int .i64 0)).far (b := w.heap.size + 1) (by omega) 1 (.int .i64 0)).far (b := w.heap.size + 1) (by omega) 2 (.slice none 0 0)).far (b := w.heap.size + 1) (by omega) 3 (.slice none 0 0)).set 0 (.int .i64 0)).set 1 (.int .i64 0)
  have fb := (((((H1.out.setCell (p := ⟨w.heap.size + 1, 0, none⟩) (by show w.heap.size ≤ w.heap.size + 1; omega) (.int .i64 0)).setCell (p := ⟨w.heap.size + 1, 1, none⟩) (by show w.heap.size ≤ w.heap.size + 1; omega) (.int .i64 0)).setCell (p := ⟨w.heap.size + 1, 2, none⟩) (by show w.heap.size ≤ w.heap.size + 1; omega) (.slice none 0 0)).setCell (p := ⟨w.heap.size + 1, 3, none⟩) (by show w.heap.size ≤ w.heap.size + 1; omega) (.slice none 0 0)).setCell (p := ⟨w.heap.size + 1 + 1, 0, none⟩) (by show w.heap.size ≤ w.heap.size + 1 + 1; omega) (.int .i64 0)).setCell (p := ⟨w.heap.size + 1 + 1, 1, none⟩) (by show w.heap.size ≤ w.heap.size + 1 + 1; omega) (.int .i64 0)
  obtain ⟨wF, hwF⟩ : ∃ wF, (((((w1.setCell ⟨w.heap.size + 1, 0, none⟩ (.int .i64 0)).setCell ⟨w.heap.size + 1, 1, none⟩ (.int .i64 0)).setCell ⟨w.heap.size + 1, 2, none⟩ (.slice none 0 0)).setCell ⟨w.heap.size + 1, 3, none⟩ (.slice none 0 0)).setCell ⟨w.heap.size + 1 + 1, 0, none⟩ (.int .i64 0)).setCell ⟨w.heap.size + 1 + 1, 1, none⟩ (.int .i64 0) = wF := ⟨_, rfl⟩
  rw [hwF] at f1 f2 fb ⊢
  have d0 : wF.cell? ⟨w.heap.size + 1, 0, none⟩ = some (.int .i64 0) := f1.at rfl
  have d1 : wF.cell? ⟨w.heap.size + 1, 1, none⟩ = some (.int .i64 0) := f1.at rfl
  have d2 : wF.cell? ⟨w.heap.size + 1, 2, none⟩ = some (.slice none 0 0) := f1.at rfl
  have d3 : wF.cell? ⟨w.heap.size + 1, 3, none⟩ = some (.slice none 0 0) := f1.at rfl
  have d4 : wF.cell? ⟨w.heap.size + 1 + 1, 0, none⟩ = some (.int .i64 0) := f2.at rfl
  have d5 : wF.cell? ⟨w.heap.size + 1 + 1, 1, none⟩ = some (.int .i64 0) := f2.at rfl
  (try simp only [Exit.inBlock, Exit.then])
  refine bodyPost_ret (by simp [results, Try.results11, go_sem, d0, d1, d2, d3, d4, d5]; try rfl) rfl ?_
  exact ⟨rfl, fb⟩

/-- Send, whatever it is given -/
theorem send_all (v : Value) (h nx : Int) (O : List (Int × Int)) (I : List Int) (a : Int) (w : World) (hs : SV w v h nx O I) :
    Calls Try.prog 11 #[v, .int .i64 a] w fun e w' => (∃ v' t er, e = .returned (.tuple #[v', t, .int .i64 er]) ∧ SendR w' v' t er h nx O I a) ∧ Below w.heap.size w w' := by
  obtain ⟨A, c, B, d, rfl, hRO, hRI, hAn, hBn, hc, hd⟩ := hs
  have bad : ∀ er : Int, er ≠ 0 → er = sE h nx O I a → ∀ w' : World, SendR w' zS (.agg #[.int .i64 0, .int .i64 0]) er h nx O I a := fun er h0 he w' => ⟨he, .inr ⟨h0, rfl, rfl⟩⟩
  cases hv : vB h nx O I
  · refine (send_b1 h nx A _ c B _ d O I a w (by omega) (by omega) rfl rfl hRO hRI hv).mono ?_
    rintro e w' ⟨rfl, hb⟩
    exact ⟨⟨_, _, _, rfl, bad 1 (by decide) (by unfold sE; rw [if_neg (fun x => by rw [hv] at x; exact absurd x.1 (by decide))]) _⟩, hb⟩
  · by_cases h1 : a < 1
    · refine (send_b2 h nx A _ c B _ d O I a w (by omega) (by omega) rfl rfl hRO hRI hv h1).mono ?_
      rintro e w' ⟨rfl, hb⟩
      exact ⟨⟨_, _, _, rfl, bad 1 (by decide) (by unfold sE; rw [if_neg (fun x => by omega)]) _⟩, hb⟩
    · by_cases h2 : 1000 < a
      · refine (send_b3 h nx A _ c B _ d O I a w (by omega) (by omega) rfl rfl hRO hRI hv h2).mono ?_
        rintro e w' ⟨rfl, hb⟩
        exact ⟨⟨_, _, _, rfl, bad 1 (by decide) (by unfold sE; rw [if_neg (fun x => by omega)]) _⟩, hb⟩
      · have hp : vB h nx O I = true ∧ 1 ≤ a ∧ a ≤ 1000 := ⟨hv, by omega, by omega⟩
        by_cases h3 : h < a
        · refine (send_b4 h nx A _ c B _ d O I a w (by omega) (by omega) rfl rfl hRO hRI hv (by omega) h3).mono ?_
          rintro e w' ⟨rfl, hb⟩
          exact ⟨⟨_, _, _, rfl, bad 13 (by decide) (by unfold sE; rw [if_pos hp, if_pos h3]) _⟩, hb⟩
        · by_cases h4 : O.length = 64
          · refine (send_b5 h nx A _ c B _ d O I a w (by omega) (by omega) rfl rfl hRO hRI hv (by omega) (by omega) h4).mono ?_
            rintro e w' ⟨rfl, hb⟩
            exact ⟨⟨_, _, _, rfl, bad 10 (by decide) (by unfold sE; rw [if_pos hp, if_neg h3, if_pos h4]) _⟩, hb⟩
          · by_cases h5 : 1000000 < nx
            · refine (send_b6 h nx A _ c B _ d O I a w (by omega) (by omega) rfl rfl hRO hRI hv (by omega) (by omega) h4 h5).mono ?_
              rintro e w' ⟨rfl, hb⟩
              exact ⟨⟨_, _, _, rfl, bad 3 (by decide) (by unfold sE; rw [if_pos hp, if_neg h3, if_neg h4, if_pos h5]) _⟩, hb⟩
            · refine (send_ok h nx A _ c B _ d O I a w rfl rfl hRO hRI hAn hBn hv (by omega) (by omega) h4 (by omega)).mono ?_
              rintro e w' ⟨⟨v', rfl, hs'⟩, hb⟩
              exact ⟨⟨_, _, _, rfl, by unfold sE; rw [if_pos hp, if_neg h3, if_neg h4, if_neg h5], .inl ⟨rfl, hs', rfl⟩⟩, hb⟩
end Go.Proofs.Yteeohndgkfilaaa
