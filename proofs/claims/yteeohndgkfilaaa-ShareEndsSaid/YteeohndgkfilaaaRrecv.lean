/-
  THE REFERENCE's Has and Receive.
-/
import Derived.Test.YteeohndgkfilaaaRefv
import Derived.Test.YteeohndgkfilaaaRsend
namespace Go.Proofs.Yteeohndgkfilaaa
open Go.RowKit
set_option linter.unusedVariables false
attribute [local go_sem ↓] Go.wp_at_zero Go.wp_at_succ

set_option maxRecDepth 100000 in
set_option maxHeartbeats 2000000 in
theorem has_any (B : Option Addr) (m d : Nat) (I : List Int) (x : Int) (w : World) (hm : m ≤ 9223372036854775806) (hlI : I.length = m) (hR : RL w B (cI I)) :
    Calls Try.prog 30 #[.slice B m d, .int .i64 x] w fun e w' => e = .returned (.bool (decide (x ∈ I))) ∧ w = w' := by
  have HR := Lib.hid hR
  have HL := Lib.hid hlI
  clear hR hlI
  go_enter Try.func30, Try.ntmps30
  go_wp2_with fail
  go_loopw [5] (fun i wr => ∃ k : Nat, k ≤ m ∧ i = .int .i64 k ∧ (∀ j, j < k → at1 I j ≠ x) ∧ w = wr) (fun i _ => m - (intOf i).toNat)
  case atStart => exact ⟨0, Nat.zero_le _, rfl, fun j hj => by omega, rfl⟩
  case round =>
    obtain ⟨k, hk, rfl, hall, rfl⟩ := hrel
    have HA := Lib.hid hall
    clear hall
    by_cases hlt : k < m
    · obtain ⟨b, o, rfl, hb, c0⟩ := HR.out.i (i := k) (by have := HL.out; omega)
      have j0 : (0 : Int) ≤ (k : Int) := by omega
      have j1 : (k : Int) < (m : Int) := by omega
      by_cases he : at1 I k = x
      · have e3 : (at1 I k == x) = true := by simpa using he
        have hres : Hid (true = decide (x ∈ I)) := Lib.hid (by simp; rw [← he]; exact mem_at.2 ⟨k, by have := HL.out; omega, rfl⟩)
        clear he
        go_wp2_with fail
        go_ret
        exact ⟨ret_bool hres.out, rfl⟩
      · have e3 : (at1 I k == x) = false := by simpa using he
        have HS := Lib.hid (all_snoc HA.out he)
        clear he
        go_wp2_with fail
        go_roundw
        case rel => exact ⟨k + 1, by omega, by go_num, HS.out, by simp⟩
        case measure => simp [intOf] <;> omega
    · have hres : Hid (false = decide (x ∈ I)) := Lib.hid (by
        simp
        intro hx
        obtain ⟨j, hj, he⟩ := mem_at.1 hx
        exact HA.out j (by have := HL.out; omega) he)
      go_wp2_with fail
      all_goals (try (exfalso; omega))
      go_ret
      exact ⟨ret_bool hres.out, rfl⟩

set_option maxRecDepth 100000 in
set_option maxHeartbeats 4000000 in
theorem rrecv_b1 (h nx : Int) (A : Option Addr) (n c : Nat) (B : Option Addr) (m d : Nat) (O : List (Int × Int)) (I : List Int) (x y : Int) (w : World) (hn : n ≤ 9223372036854775807) (hm : m ≤ 9223372036854775807) (hlO : O.length = n) (hlI : I.length = m) (hRO : RL w A (cT O)) (hRI : RL w B (cI I)) (hv : vB h nx O I = false) :
    Calls Try.prog 14 #[.agg #[.int .i64 h, .int .i64 nx, .slice A n c, .slice B m d], .agg #[.int .i64 x, .int .i64 y]] w fun e w' => e = .returned (.tuple #[zS, .int .i64 1]) ∧ Below w.heap.size w w' := by
  have HV := Lib.hid hv
  have HRO := Lib.hid hRO
  have HRI := Lib.hid hRI
  have HLO := Lib.hid hlO
  have HLI := Lib.hid hlI

  clear hv hRO hRI hlO hlI
  go_enter Try.func14, Try.ntmps14
  go_wp2_with (first
    | (go_at_call 19; with_reducible refine (rval_any h nx A n c B m d O I _ hn hm HLO.out HLI.out (HRO.out.keep (bel_alloc (bel_alloc (bel_a w _) _) _)) (HRI.out.keep (bel_alloc (bel_alloc (bel_a w _) _) _))).mono ?_; rintro e w1 ⟨rfl, h1⟩; rw [HV.out]
       have H1 := Lib.hid (bel_step (bel_alloc (bel_alloc (bel_a w (.cells #[.int .i64 h, .int .i64 nx, .slice A n c, .slice B m d] 25)) (.cells #[.int .i64 x, .int .i64 y] 27)) (.cells #[.int .i64 0, .int .i64 0, .slice none 0 0, .slice none 0 0] 25)) h1)
       have P0 := Lib.hid ((((OW.new w 25 [.int .i64 h, .int .i64 nx, .slice A n c, .slice B m d]).alloc (.cells #[.int .i64 x, .int .i64 y] 27)).alloc (.cells #[.int .i64 0, .int .i64 0, .slice none 0 0, .slice none 0 0] 25)).keep h1)
       have P1 := Lib.hid (((OW.new1 w (.cells #[.int .i64 h, .int .i64 nx, .slice A n c, .slice B m d] 25) 27 [.int .i64 x, .int .i64 y]).alloc (.cells #[.int .i64 0, .int .i64 0, .slice none 0 0, .slice none 0 0] 25)).keep h1)
       have P2 := Lib.hid ((OW.new2 w (.cells #[.int .i64 h, .int .i64 nx, .slice A n c, .slice B m d] 25) (.cells #[.int .i64 x, .int .i64 y] 27) 25 [.int .i64 0, .int .i64 0, .slice none 0 0, .slice none 0 0]).keep h1)
       obtain ⟨c00, c01, c02, c03⟩ := cell4 P0.out
       obtain ⟨c10, c11⟩ := cell2 P1.out
       obtain ⟨c20, c21, c22, c23⟩ := cell4 P2.out
       have cf0 := P2.out.thaw 0
       have cf1 := P2.out.thaw 1
       have cf2 := P2.out.thaw 2
       have cf3 := P2.out.thaw 3
       clear h1))
  have f1 := P2.out.set4 (.int .i64 0) (.int .i64 0) (.slice none 0 0) (.slice none 0 0)
  have fb := bel_set4 H1.out (b := w.heap.size + 1 + 1) (by omega) 0 1 2 3 (.int .i64 0) (.int .i64 0) (.slice none 0 0) (.slice none 0 0)
  obtain ⟨wF, hwF⟩ : ∃ wF, (((w1.setCell ⟨w.heap.size + 1 + 1, 0, none⟩ (.int .i64 0)).setCell ⟨w.heap.size + 1 + 1, 1, none⟩ (.int .i64 0)).setCell ⟨w.heap.size + 1 + 1, 2, none⟩ (.slice none 0 0)).setCell ⟨w.heap.size + 1 + 1, 3, none⟩ (.slice none 0 0) = wF := ⟨_, rfl⟩
  rw [hwF] at f1 fb ⊢
  obtain ⟨d0, d1, d2, d3⟩ := cell4 f1
  (try simp only [Exit.inBlock, Exit.then])
  refine bodyPost_ret (by simp [results, Try.results14, go_sem, d0, d1, d2, d3]; try rfl) rfl ?_
  exact ⟨rfl, fb⟩

set_option maxRecDepth 100000 in
set_option maxHeartbeats 4000000 in
theorem rrecv_b2 (h nx : Int) (A : Option Addr) (n c : Nat) (B : Option Addr) (m d : Nat) (O : List (Int × Int)) (I : List Int) (x y : Int) (w : World) (hn : n ≤ 9223372036854775807) (hm : m ≤ 9223372036854775807) (hlO : O.length = n) (hlI : I.length = m) (hRO : RL w A (cT O)) (hRI : RL w B (cI I)) (hv : vB h nx O I = true) (ht : vT (x, y) = false) :
    Calls Try.prog 14 #[.agg #[.int .i64 h, .int .i64 nx, .slice A n c, .slice B m d], .agg #[.int .i64 x, .int .i64 y]] w fun e w' => e = .returned (.tuple #[zS, .int .i64 1]) ∧ Below w.heap.size w w' := by
  have HV := Lib.hid hv
  have HRO := Lib.hid hRO
  have HRI := Lib.hid hRI
  have HLO := Lib.hid hlO
  have HLI := Lib.hid hlI
  have HT := Lib.hid ht
  clear ht
  clear hv hRO hRI hlO hlI
  go_enter Try.func14, Try.ntmps14
  go_wp2_with (first
    | (go_at_call 19; with_reducible refine (rval_any h nx A n c B m d O I _ hn hm HLO.out HLI.out (HRO.out.keep (bel_alloc (bel_alloc (bel_a w _) _) _)) (HRI.out.keep (bel_alloc (bel_alloc (bel_a w _) _) _))).mono ?_; rintro e w1 ⟨rfl, h1⟩; rw [HV.out]
       have H1 := Lib.hid (bel_step (bel_alloc (bel_alloc (bel_a w (.cells #[.int .i64 h, .int .i64 nx, .slice A n c, .slice B m d] 25)) (.cells #[.int .i64 x, .int .i64 y] 27)) (.cells #[.int .i64 0, .int .i64 0, .slice none 0 0, .slice none 0 0] 25)) h1)
       have P0 := Lib.hid ((((OW.new w 25 [.int .i64 h, .int .i64 nx, .slice A n c, .slice B m d]).alloc (.cells #[.int .i64 x, .int .i64 y] 27)).alloc (.cells #[.int .i64 0, .int .i64 0, .slice none 0 0, .slice none 0 0] 25)).keep h1)
       have P1 := Lib.hid (((OW.new1 w (.cells #[.int .i64 h, .int .i64 nx, .slice A n c, .slice B m d] 25) 27 [.int .i64 x, .int .i64 y]).alloc (.cells #[.int .i64 0, .int .i64 0, .slice none 0 0, .slice none 0 0] 25)).keep h1)
       have P2 := Lib.hid ((OW.new2 w (.cells #[.int .i64 h, .int .i64 nx, .slice A n c, .slice B m d] 25) (.cells #[.int .i64 x, .int .i64 y] 27) 25 [.int .i64 0, .int .i64 0, .slice none 0 0, .slice none 0 0]).keep h1)
       obtain ⟨c00, c01, c02, c03⟩ := cell4 P0.out
       obtain ⟨c10, c11⟩ := cell2 P1.out
       obtain ⟨c20, c21, c22, c23⟩ := cell4 P2.out
       have cf0 := P2.out.thaw 0
       have cf1 := P2.out.thaw 1
       have cf2 := P2.out.thaw 2
       have cf3 := P2.out.thaw 3
       clear h1)
    | (go_at_call 29; with_reducible refine (rT x y _).mono ?_; rintro e w2 ⟨rfl, h2⟩; rw [HT.out]
       have H2 := Lib.hid (bel_step H1.out h2)
       have Q0 := Lib.hid (P0.out.keep h2)
       have Q1 := Lib.hid (P1.out.keep h2)
       have Q2 := Lib.hid (P2.out.keep h2)
       obtain ⟨d00, d01, d02, d03⟩ := cell4 Q0.out
       obtain ⟨d10, d11⟩ := cell2 Q1.out
       obtain ⟨d20, d21, d22, d23⟩ := cell4 Q2.out
       have df0 := Q2.out.thaw 0
       have df1 := Q2.out.thaw 1
       have df2 := Q2.out.thaw 2
       have df3 := Q2.out.thaw 3
       clear h2))
  have f1 := Q2.out.set4 (.int .i64 0) (.int .i64 0) (.slice none 0 0) (.slice none 0 0)
  have fb := bel_set4 H2.out (b := w.heap.size + 1 + 1) (by omega) 0 1 2 3 (.int .i64 0) (.int .i64 0) (.slice none 0 0) (.slice none 0 0)
  obtain ⟨wF, hwF⟩ : ∃ wF, (((w2.setCell ⟨w.heap.size + 1 + 1, 0, none⟩ (.int .i64 0)).setCell ⟨w.heap.size + 1 + 1, 1, none⟩ (.int .i64 0)).setCell ⟨w.heap.size + 1 + 1, 2, none⟩ (.slice none 0 0)).setCell ⟨w.heap.size + 1 + 1, 3, none⟩ (.slice none 0 0) = wF := ⟨_, rfl⟩
  rw [hwF] at f1 fb ⊢
  obtain ⟨d0, d1, d2, d3⟩ := cell4 f1
  (try simp only [Exit.inBlock, Exit.then])
  refine bodyPost_ret (by simp [results, Try.results14, go_sem, d0, d1, d2, d3]; try rfl) rfl ?_
  exact ⟨rfl, fb⟩

set_option maxRecDepth 100000 in
set_option maxHeartbeats 4000000 in
theorem rrecv_b3 (h nx : Int) (A : Option Addr) (n c : Nat) (B : Option Addr) (m d : Nat) (O : List (Int × Int)) (I : List Int) (x y : Int) (w : World) (hn : n ≤ 9223372036854775807) (hm : m ≤ 9223372036854775807) (hlO : O.length = n) (hlI : I.length = m) (hRO : RL w A (cT O)) (hRI : RL w B (cI I)) (hv : vB h nx O I = true) (ht : vT (x, y) = true) (hx : x ∈ I) :
    Calls Try.prog 14 #[.agg #[.int .i64 h, .int .i64 nx, .slice A n c, .slice B m d], .agg #[.int .i64 x, .int .i64 y]] w fun e w' => e = .returned (.tuple #[zS, .int .i64 5]) ∧ Below w.heap.size w w' := by
  have HV := Lib.hid hv
  have HRO := Lib.hid hRO
  have HRI := Lib.hid hRI
  have HLO := Lib.hid hlO
  have HLI := Lib.hid hlI
  have HT := Lib.hid ht
  have hq := vT_iff.1 ht
  simp only [] at hq
  clear ht
  have hvs := vB_iff.1 hv
  have hm64 : m ≤ 64 := by have := hvs.2.1; omega
  have hn64 : n ≤ 64 := by have := hvs.2.1; omega
  have hh := hvs.1
  clear hvs
  have HX : Hid (decide (x ∈ I) = true) := Lib.hid (decide_eq_true hx)
  clear hx
  clear hv hRO hRI hlO hlI
  go_enter Try.func14, Try.ntmps14
  go_wp2_with (first
    | (go_at_call 19; with_reducible refine (rval_any h nx A n c B m d O I _ hn hm HLO.out HLI.out (HRO.out.keep (bel_alloc (bel_alloc (bel_a w _) _) _)) (HRI.out.keep (bel_alloc (bel_alloc (bel_a w _) _) _))).mono ?_; rintro e w1 ⟨rfl, h1⟩; rw [HV.out]
       have H1 := Lib.hid (bel_step (bel_alloc (bel_alloc (bel_a w (.cells #[.int .i64 h, .int .i64 nx, .slice A n c, .slice B m d] 25)) (.cells #[.int .i64 x, .int .i64 y] 27)) (.cells #[.int .i64 0, .int .i64 0, .slice none 0 0, .slice none 0 0] 25)) h1)
       have P0 := Lib.hid ((((OW.new w 25 [.int .i64 h, .int .i64 nx, .slice A n c, .slice B m d]).alloc (.cells #[.int .i64 x, .int .i64 y] 27)).alloc (.cells #[.int .i64 0, .int .i64 0, .slice none 0 0, .slice none 0 0] 25)).keep h1)
       have P1 := Lib.hid (((OW.new1 w (.cells #[.int .i64 h, .int .i64 nx, .slice A n c, .slice B m d] 25) 27 [.int .i64 x, .int .i64 y]).alloc (.cells #[.int .i64 0, .int .i64 0, .slice none 0 0, .slice none 0 0] 25)).keep h1)
       have P2 := Lib.hid ((OW.new2 w (.cells #[.int .i64 h, .int .i64 nx, .slice A n c, .slice B m d] 25) (.cells #[.int .i64 x, .int .i64 y] 27) 25 [.int .i64 0, .int .i64 0, .slice none 0 0, .slice none 0 0]).keep h1)
       obtain ⟨c00, c01, c02, c03⟩ := cell4 P0.out
       obtain ⟨c10, c11⟩ := cell2 P1.out
       obtain ⟨c20, c21, c22, c23⟩ := cell4 P2.out
       have cf0 := P2.out.thaw 0
       have cf1 := P2.out.thaw 1
       have cf2 := P2.out.thaw 2
       have cf3 := P2.out.thaw 3
       clear h1)
    | (go_at_call 29; with_reducible refine (rT x y _).mono ?_; rintro e w2 ⟨rfl, h2⟩; rw [HT.out]
       have H2 := Lib.hid (bel_step H1.out h2)
       have Q0 := Lib.hid (P0.out.keep h2)
       have Q1 := Lib.hid (P1.out.keep h2)
       have Q2 := Lib.hid (P2.out.keep h2)
       obtain ⟨d00, d01, d02, d03⟩ := cell4 Q0.out
       obtain ⟨d10, d11⟩ := cell2 Q1.out
       obtain ⟨d20, d21, d22, d23⟩ := cell4 Q2.out
       have df0 := Q2.out.thaw 0
       have df1 := Q2.out.thaw 1
       have df2 := Q2.out.thaw 2
       have df3 := Q2.out.thaw 3
       clear h2)
    | (go_at_call 30; with_reducible refine (has_any B m d I x _ (by omega) HLI.out (HRI.out.keep H2.out)).mono ?_; rintro e w3 ⟨rfl, rfl⟩; rw [HX.out]))
  have f1 := Q2.out.set4 (.int .i64 0) (.int .i64 0) (.slice none 0 0) (.slice none 0 0)
  have fb := bel_set4 H2.out (b := w.heap.size + 1 + 1) (by omega) 0 1 2 3 (.int .i64 0) (.int .i64 0) (.slice none 0 0) (.slice none 0 0)
  obtain ⟨wF, hwF⟩ : ∃ wF, (((w2.setCell ⟨w.heap.size + 1 + 1, 0, none⟩ (.int .i64 0)).setCell ⟨w.heap.size + 1 + 1, 1, none⟩ (.int .i64 0)).setCell ⟨w.heap.size + 1 + 1, 2, none⟩ (.slice none 0 0)).setCell ⟨w.heap.size + 1 + 1, 3, none⟩ (.slice none 0 0) = wF := ⟨_, rfl⟩
  rw [hwF] at f1 fb ⊢
  obtain ⟨d0, d1, d2, d3⟩ := cell4 f1
  (try simp only [Exit.inBlock, Exit.then])
  refine bodyPost_ret (by simp [results, Try.results14, go_sem, d0, d1, d2, d3]; try rfl) rfl ?_
  exact ⟨rfl, fb⟩

set_option maxRecDepth 100000 in
set_option maxHeartbeats 4000000 in
theorem rrecv_b4 (h nx : Int) (A : Option Addr) (n c : Nat) (B : Option Addr) (m d : Nat) (O : List (Int × Int)) (I : List Int) (x y : Int) (w : World) (hn : n ≤ 9223372036854775807) (hm : m ≤ 9223372036854775807) (hlO : O.length = n) (hlI : I.length = m) (hRO : RL w A (cT O)) (hRI : RL w B (cI I)) (hv : vB h nx O I = true) (ht : vT (x, y) = true) (hx : x ∉ I) (h64 : m = 64) :
    Calls Try.prog 14 #[.agg #[.int .i64 h, .int .i64 nx, .slice A n c, .slice B m d], .agg #[.int .i64 x, .int .i64 y]] w fun e w' => e = .returned (.tuple #[zS, .int .i64 10]) ∧ Below w.heap.size w w' := by
  have HV := Lib.hid hv
  have HRO := Lib.hid hRO
  have HRI := Lib.hid hRI
  have HLO := Lib.hid hlO
  have HLI := Lib.hid hlI
  have HT := Lib.hid ht
  have hq := vT_iff.1 ht
  simp only [] at hq
  clear ht
  have hvs := vB_iff.1 hv
  have hm64 : m ≤ 64 := by have := hvs.2.1; omega
  have hn64 : n ≤ 64 := by have := hvs.2.1; omega
  have hh := hvs.1
  clear hvs
  have HX : Hid (decide (x ∈ I) = false) := Lib.hid (decide_eq_false hx)
  have HXN := Lib.hid hx
  clear hx
  have e3 : ((m : Int) == 64) = true := by simp; omega
  clear h64
  clear hv hRO hRI hlO hlI
  go_enter Try.func14, Try.ntmps14
  go_wp2_with (first
    | (go_at_call 19; with_reducible refine (rval_any h nx A n c B m d O I _ hn hm HLO.out HLI.out (HRO.out.keep (bel_alloc (bel_alloc (bel_a w _) _) _)) (HRI.out.keep (bel_alloc (bel_alloc (bel_a w _) _) _))).mono ?_; rintro e w1 ⟨rfl, h1⟩; rw [HV.out]
       have H1 := Lib.hid (bel_step (bel_alloc (bel_alloc (bel_a w (.cells #[.int .i64 h, .int .i64 nx, .slice A n c, .slice B m d] 25)) (.cells #[.int .i64 x, .int .i64 y] 27)) (.cells #[.int .i64 0, .int .i64 0, .slice none 0 0, .slice none 0 0] 25)) h1)
       have P0 := Lib.hid ((((OW.new w 25 [.int .i64 h, .int .i64 nx, .slice A n c, .slice B m d]).alloc (.cells #[.int .i64 x, .int .i64 y] 27)).alloc (.cells #[.int .i64 0, .int .i64 0, .slice none 0 0, .slice none 0 0] 25)).keep h1)
       have P1 := Lib.hid (((OW.new1 w (.cells #[.int .i64 h, .int .i64 nx, .slice A n c, .slice B m d] 25) 27 [.int .i64 x, .int .i64 y]).alloc (.cells #[.int .i64 0, .int .i64 0, .slice none 0 0, .slice none 0 0] 25)).keep h1)
       have P2 := Lib.hid ((OW.new2 w (.cells #[.int .i64 h, .int .i64 nx, .slice A n c, .slice B m d] 25) (.cells #[.int .i64 x, .int .i64 y] 27) 25 [.int .i64 0, .int .i64 0, .slice none 0 0, .slice none 0 0]).keep h1)
       obtain ⟨c00, c01, c02, c03⟩ := cell4 P0.out
       obtain ⟨c10, c11⟩ := cell2 P1.out
       obtain ⟨c20, c21, c22, c23⟩ := cell4 P2.out
       have cf0 := P2.out.thaw 0
       have cf1 := P2.out.thaw 1
       have cf2 := P2.out.thaw 2
       have cf3 := P2.out.thaw 3
       clear h1)
    | (go_at_call 29; with_reducible refine (rT x y _).mono ?_; rintro e w2 ⟨rfl, h2⟩; rw [HT.out]
       have H2 := Lib.hid (bel_step H1.out h2)
       have Q0 := Lib.hid (P0.out.keep h2)
       have Q1 := Lib.hid (P1.out.keep h2)
       have Q2 := Lib.hid (P2.out.keep h2)
       obtain ⟨d00, d01, d02, d03⟩ := cell4 Q0.out
       obtain ⟨d10, d11⟩ := cell2 Q1.out
       obtain ⟨d20, d21, d22, d23⟩ := cell4 Q2.out
       have df0 := Q2.out.thaw 0
       have df1 := Q2.out.thaw 1
       have df2 := Q2.out.thaw 2
       have df3 := Q2.out.thaw 3
       clear h2)
    | (go_at_call 30; with_reducible refine (has_any B m d I x _ (by omega) HLI.out (HRI.out.keep H2.out)).mono ?_; rintro e w3 ⟨rfl, rfl⟩; rw [HX.out]))
  have f1 := Q2.out.set4 (.int .i64 0) (.int .i64 0) (.slice none 0 0) (.slice none 0 0)
  have fb := bel_set4 H2.out (b := w.heap.size + 1 + 1) (by omega) 0 1 2 3 (.int .i64 0) (.int .i64 0) (.slice none 0 0) (.slice none 0 0)
  obtain ⟨wF, hwF⟩ : ∃ wF, (((w2.setCell ⟨w.heap.size + 1 + 1, 0, none⟩ (.int .i64 0)).setCell ⟨w.heap.size + 1 + 1, 1, none⟩ (.int .i64 0)).setCell ⟨w.heap.size + 1 + 1, 2, none⟩ (.slice none 0 0)).setCell ⟨w.heap.size + 1 + 1, 3, none⟩ (.slice none 0 0) = wF := ⟨_, rfl⟩
  rw [hwF] at f1 fb ⊢
  obtain ⟨d0, d1, d2, d3⟩ := cell4 f1
  (try simp only [Exit.inBlock, Exit.then])
  refine bodyPost_ret (by simp [results, Try.results14, go_sem, d0, d1, d2, d3]; try rfl) rfl ?_
  exact ⟨rfl, fb⟩

set_option maxRecDepth 100000 in
set_option maxHeartbeats 4000000 in
theorem rrecv_b5 (h nx : Int) (A : Option Addr) (n c : Nat) (B : Option Addr) (m d : Nat) (O : List (Int × Int)) (I : List Int) (x y : Int) (w : World) (hn : n ≤ 9223372036854775807) (hm : m ≤ 9223372036854775807) (hlO : O.length = n) (hlI : I.length = m) (hRO : RL w A (cT O)) (hRI : RL w B (cI I)) (hv : vB h nx O I = true) (ht : vT (x, y) = true) (hx : x ∉ I) (h64 : m ≠ 64) (hr : 1000 < h + y) :
    Calls Try.prog 14 #[.agg #[.int .i64 h, .int .i64 nx, .slice A n c, .slice B m d], .agg #[.int .i64 x, .int .i64 y]] w fun e w' => e = .returned (.tuple #[zS, .int .i64 3]) ∧ Below w.heap.size w w' := by
  have HV := Lib.hid hv
  have HRO := Lib.hid hRO
  have HRI := Lib.hid hRI
  have HLO := Lib.hid hlO
  have HLI := Lib.hid hlI
  have HT := Lib.hid ht
  have hq := vT_iff.1 ht
  simp only [] at hq
  clear ht
  have hvs := vB_iff.1 hv
  have hm64 : m ≤ 64 := by have := hvs.2.1; omega
  have hn64 : n ≤ 64 := by have := hvs.2.1; omega
  have hh := hvs.1
  clear hvs
  have HX : Hid (decide (x ∈ I) = false) := Lib.hid (decide_eq_false hx)
  have HXN := Lib.hid hx
  clear hx
  have e3 : ((m : Int) == 64) = false := by simp; omega
  clear hv hRO hRI hlO hlI
  go_enter Try.func14, Try.ntmps14
  go_wp2_with (first
    | (go_at_call 19; with_reducible refine (rval_any h nx A n c B m d O I _ hn hm HLO.out HLI.out (HRO.out.keep (bel_alloc (bel_alloc (bel_a w _) _) _)) (HRI.out.keep (bel_alloc (bel_alloc (bel_a w _) _) _))).mono ?_; rintro e w1 ⟨rfl, h1⟩; rw [HV.out]
       have H1 := Lib.hid (bel_step (bel_alloc (bel_alloc (bel_a w (.cells #[.int .i64 h, .int .i64 nx, .slice A n c, .slice B m d] 25)) (.cells #[.int .i64 x, .int .i64 y] 27)) (.cells #[.int .i64 0, .int .i64 0, .slice none 0 0, .slice none 0 0] 25)) h1)
       have P0 := Lib.hid ((((OW.new w 25 [.int .i64 h, .int .i64 nx, .slice A n c, .slice B m d]).alloc (.cells #[.int .i64 x, .int .i64 y] 27)).alloc (.cells #[.int .i64 0, .int .i64 0, .slice none 0 0, .slice none 0 0] 25)).keep h1)
       have P1 := Lib.hid (((OW.new1 w (.cells #[.int .i64 h, .int .i64 nx, .slice A n c, .slice B m d] 25) 27 [.int .i64 x, .int .i64 y]).alloc (.cells #[.int .i64 0, .int .i64 0, .slice none 0 0, .slice none 0 0] 25)).keep h1)
       have P2 := Lib.hid ((OW.new2 w (.cells #[.int .i64 h, .int .i64 nx, .slice A n c, .slice B m d] 25) (.cells #[.int .i64 x, .int .i64 y] 27) 25 [.int .i64 0, .int .i64 0, .slice none 0 0, .slice none 0 0]).keep h1)
       obtain ⟨c00, c01, c02, c03⟩ := cell4 P0.out
       obtain ⟨c10, c11⟩ := cell2 P1.out
       obtain ⟨c20, c21, c22, c23⟩ := cell4 P2.out
       have cf0 := P2.out.thaw 0
       have cf1 := P2.out.thaw 1
       have cf2 := P2.out.thaw 2
       have cf3 := P2.out.thaw 3
       clear h1)
    | (go_at_call 29; with_reducible refine (rT x y _).mono ?_; rintro e w2 ⟨rfl, h2⟩; rw [HT.out]
       have H2 := Lib.hid (bel_step H1.out h2)
       have Q0 := Lib.hid (P0.out.keep h2)
       have Q1 := Lib.hid (P1.out.keep h2)
       have Q2 := Lib.hid (P2.out.keep h2)
       obtain ⟨d00, d01, d02, d03⟩ := cell4 Q0.out
       obtain ⟨d10, d11⟩ := cell2 Q1.out
       obtain ⟨d20, d21, d22, d23⟩ := cell4 Q2.out
       have df0 := Q2.out.thaw 0
       have df1 := Q2.out.thaw 1
       have df2 := Q2.out.thaw 2
       have df3 := Q2.out.thaw 3
       clear h2)
    | (go_at_call 30; with_reducible refine (has_any B m d I x _ (by omega) HLI.out (HRI.out.keep H2.out)).mono ?_; rintro e w3 ⟨rfl, rfl⟩; rw [HX.out]))
  all_goals (try (exfalso; omega))
  have f1 := Q2.out.set4 (.int .i64 0) (.int .i64 0) (.slice none 0 0) (.slice none 0 0)
  have fb := bel_set4 H2.out (b := w.heap.size + 1 + 1) (by omega) 0 1 2 3 (.int .i64 0) (.int .i64 0) (.slice none 0 0) (.slice none 0 0)
  obtain ⟨wF, hwF⟩ : ∃ wF, (((w2.setCell ⟨w.heap.size + 1 + 1, 0, none⟩ (.int .i64 0)).setCell ⟨w.heap.size + 1 + 1, 1, none⟩ (.int .i64 0)).setCell ⟨w.heap.size + 1 + 1, 2, none⟩ (.slice none 0 0)).setCell ⟨w.heap.size + 1 + 1, 3, none⟩ (.slice none 0 0) = wF := ⟨_, rfl⟩
  rw [hwF] at f1 fb ⊢
  obtain ⟨d0, d1, d2, d3⟩ := cell4 f1
  (try simp only [Exit.inBlock, Exit.then])
  refine bodyPost_ret (by simp [results, Try.results14, go_sem, d0, d1, d2, d3]; try rfl) rfl ?_
  exact ⟨rfl, fb⟩

/-- how the reference inserts -/
def insB (x : Int) (b : Bool) (l : List Int) : Prop := b = true ↔ ∃ z ∈ l, x < z
def insL (x : Int) (b : Bool) (l : List Int) : List Int := if b = true then insO x l else l
theorem insO_none {x : Int} : ∀ {l : List Int}, (¬ ∃ z ∈ l, x < z) → insO x l = l ++ [x] := by
  intro l
  induction l with
  | nil => intro _; rfl
  | cons z l ih =>
    intro h
    have h1 : ¬ x < z := fun e => h ⟨z, List.mem_cons_self .., e⟩
    simp only [insO, if_neg h1, List.cons_append]
    rw [ih fun ⟨u, hu, e⟩ => h ⟨u, List.mem_cons_of_mem _ hu, e⟩]
theorem insO_old {x y : Int} : ∀ {l : List Int}, (∃ z ∈ l, x < z) → insO x (l ++ [y]) = insO x l ++ [y] := by
  intro l
  induction l with
  | nil => rintro ⟨z, hz, _⟩; simp at hz
  | cons z l ih =>
    rintro ⟨u, hu, e⟩
    simp only [List.cons_append, insO]
    by_cases h1 : x < z
    · rw [if_pos h1, if_pos h1]; rfl
    · rw [if_neg h1, if_neg h1]
      rcases List.mem_cons.1 hu with rfl | hu
      · exact absurd e h1
      · rw [ih ⟨u, hu, e⟩]; rfl
theorem insO_here {x y : Int} (hy : x < y) : ∀ {l : List Int}, (¬ ∃ z ∈ l, x < z) → insO x (l ++ [y]) = l ++ [x] ++ [y] := by
  intro l
  induction l with
  | nil => intro _; simp [insO, hy]
  | cons z l ih =>
    intro h
    have h1 : ¬ x < z := fun e => h ⟨z, List.mem_cons_self .., e⟩
    simp only [List.cons_append, insO, if_neg h1]
    rw [ih fun ⟨u, hu, e⟩ => h ⟨u, List.mem_cons_of_mem _ hu, e⟩]
theorem insB_true {x : Int} {l : List Int} {y : Int} (h : insB x true l) : insB x true (l ++ [y]) := by
  obtain ⟨z, hz, e⟩ := h.1 rfl
  exact ⟨fun _ => ⟨z, List.mem_append_left _ hz, e⟩, fun _ => rfl⟩
theorem insB_new {x : Int} {l : List Int} {y : Int} (hy : x < y) : insB x true (l ++ [y]) := ⟨fun _ => ⟨y, by simp, hy⟩, fun _ => rfl⟩
theorem insB_not {x : Int} {l : List Int} {y : Int} (h : insB x false l) (hy : ¬ x < y) : insB x false (l ++ [y]) := by
  refine ⟨fun e => (by cases e), ?_⟩
  rintro ⟨z, hz, e⟩
  rcases List.mem_append.1 hz with hz | hz
  · exact h.2 ⟨z, hz, e⟩
  · obtain rfl : z = y := by simpa using hz
    exact absurd e hy
theorem insB_no {x : Int} {l : List Int} (h : insB x false l) : ¬ ∃ z ∈ l, x < z := fun e => by cases h.2 e
theorem drewN_below (w : World) (n : Nat) : Below w.heap.size w (w.drewN n) := below_drewN (Below.refl _ _) n
theorem insL_len (x : Int) (b : Bool) (l : List Int) : (insL x b l).length ≤ l.length + 1 := by
  unfold insL; split
  · rw [insO_len]; omega
  · omega
set_option maxRecDepth 100000 in
set_option maxHeartbeats 4000000 in
theorem rrecv_ok (h nx : Int) (A : Option Addr) (n c : Nat) (B : Option Addr) (m d : Nat) (O : List (Int × Int)) (I : List Int) (x y : Int) (w : World) (hn : n ≤ 9223372036854775807) (hm : m ≤ 9223372036854775807) (hlO : O.length = n) (hlI : I.length = m) (hRO : RL w A (cT O)) (hRI : RL w B (cI I)) (hAn : A = none → n = 0 ∧ c = 0) (hBn : B = none → m = 0 ∧ d = 0) (hv : vB h nx O I = true) (ht : vT (x, y) = true) (hx : x ∉ I) (h64 : m ≠ 64) (hr : h + y ≤ 1000) (hc : n ≤ c ∧ c ≤ 9223372036854775807) (hd : m ≤ d ∧ d ≤ 9223372036854775807) :
    Calls Try.prog 14 #[.agg #[.int .i64 h, .int .i64 nx, .slice A n c, .slice B m d], .agg #[.int .i64 x, .int .i64 y]] w fun e w' => (∃ v, e = .returned (.tuple #[v, .int .i64 0]) ∧ SV w' v (h + y) nx O (insO x I)) ∧ Below w.heap.size w w' := by
  have HV := Lib.hid hv
  have HRO := Lib.hid hRO
  have HRI := Lib.hid hRI
  have HLO := Lib.hid hlO
  have HLI := Lib.hid hlI
  have HT := Lib.hid ht
  have hq := vT_iff.1 ht
  simp only [] at hq
  clear ht
  have hvs := vB_iff.1 hv
  have hm64 : m ≤ 64 := by have := hvs.2.1; omega
  have hn64 : n ≤ 64 := by have := hvs.2.1; omega
  have hh := hvs.1
  clear hvs
  have HX : Hid (decide (x ∈ I) = false) := Lib.hid (decide_eq_false hx)
  have HXN := Lib.hid hx
  clear hx
  have e3 : ((m : Int) == 64) = false := by simp; omega
  have HAN := Lib.hid hAn
  have HBN := Lib.hid hBn
  have HC := Lib.hid hc
  obtain ⟨i0, hi, hz0, hz1, hz2⟩ := info_parts infoInt
  have HI := Lib.hid hi
  have HZ0 := Lib.hid hz0
  have HZ1 := Lib.hid hz1
  have HZ2 := Lib.hid hz2
  clear hAn hBn hi hz0 hz1 hz2 hc
  clear hv hRO hRI hlO hlI
  go_enter Try.func14, Try.ntmps14
  go_upto_region 9 with (first
    | (go_at_call 19; with_reducible refine (rval_any h nx A n c B m d O I _ hn hm HLO.out HLI.out (HRO.out.keep (bel_alloc (bel_alloc (bel_a w _) _) _)) (HRI.out.keep (bel_alloc (bel_alloc (bel_a w _) _) _))).mono ?_; rintro e w1 ⟨rfl, h1⟩; rw [HV.out]
       have H1 := Lib.hid (bel_step (bel_alloc (bel_alloc (bel_a w (.cells #[.int .i64 h, .int .i64 nx, .slice A n c, .slice B m d] 25)) (.cells #[.int .i64 x, .int .i64 y] 27)) (.cells #[.int .i64 0, .int .i64 0, .slice none 0 0, .slice none 0 0] 25)) h1)
       have P0 := Lib.hid ((((OW.new w 25 [.int .i64 h, .int .i64 nx, .slice A n c, .slice B m d]).alloc (.cells #[.int .i64 x, .int .i64 y] 27)).alloc (.cells #[.int .i64 0, .int .i64 0, .slice none 0 0, .slice none 0 0] 25)).keep h1)
       have P1 := Lib.hid (((OW.new1 w (.cells #[.int .i64 h, .int .i64 nx, .slice A n c, .slice B m d] 25) 27 [.int .i64 x, .int .i64 y]).alloc (.cells #[.int .i64 0, .int .i64 0, .slice none 0 0, .slice none 0 0] 25)).keep h1)
       have P2 := Lib.hid ((OW.new2 w (.cells #[.int .i64 h, .int .i64 nx, .slice A n c, .slice B m d] 25) (.cells #[.int .i64 x, .int .i64 y] 27) 25 [.int .i64 0, .int .i64 0, .slice none 0 0, .slice none 0 0]).keep h1)
       obtain ⟨c00, c01, c02, c03⟩ := cell4 P0.out
       obtain ⟨c10, c11⟩ := cell2 P1.out
       obtain ⟨c20, c21, c22, c23⟩ := cell4 P2.out
       have cf0 := P2.out.thaw 0
       have cf1 := P2.out.thaw 1
       have cf2 := P2.out.thaw 2
       have cf3 := P2.out.thaw 3
       clear h1)
    | (go_at_call 29; with_reducible refine (rT x y _).mono ?_; rintro e w2 ⟨rfl, h2⟩; rw [HT.out]
       have H2 := Lib.hid (bel_step H1.out h2)
       have Q0 := Lib.hid (P0.out.keep h2)
       have Q1 := Lib.hid (P1.out.keep h2)
       have Q2 := Lib.hid (P2.out.keep h2)
       obtain ⟨d00, d01, d02, d03⟩ := cell4 Q0.out
       obtain ⟨d10, d11⟩ := cell2 Q1.out
       obtain ⟨d20, d21, d22, d23⟩ := cell4 Q2.out
       have df0 := Q2.out.thaw 0
       have df1 := Q2.out.thaw 1
       have df2 := Q2.out.thaw 2
       have df3 := Q2.out.thaw 3
       clear h2)
    | (go_at_call 30; with_reducible refine (has_any B m d I x _ (by omega) HLI.out (HRI.out.keep H2.out)).mono ?_; rintro e w3 ⟨rfl, rfl⟩; rw [HX.out]))
  all_goals (try (exfalso; omega))
  clear c00 c01 c02 c03 c10 c11 c20 c21 c22 c23 cf0 cf1 cf2 cf3 P0 P1 P2 H1
  clear d00 d01 d02 d03 d10 d11 d20 d21 d22 d23 df0 df1 df2 df3
  obtain ⟨b2, hB2⟩ : ∃ b, w.heap.size + 1 + 1 = b := ⟨_, rfl⟩
  obtain ⟨b1, hB1⟩ : ∃ b, w.heap.size + 1 = b := ⟨_, rfl⟩
  obtain ⟨b0, hB0⟩ : ∃ b, w.heap.size = b := ⟨_, rfl⟩
  have o1 : b0 < b1 ∧ b1 < b2 ∧ w.heap.size ≤ b0 := by omega
  rw [hB2] at Q2 ⊢
  rw [hB1] at Q1 ⊢
  rw [hB0] at Q0
  first | rw [hB0] | skip
  have l2 := Q2.out.lt
  clear hB0 hB1 hB2
  obtain ⟨o2, o3, o4⟩ := o1
  go_wp2_with fail
  go_loopw [6, 7, 8] (fun v q i wr => ∃ (k : Nat) (bb : Bool), k ≤ m ∧ i = .int .i64 k ∧ q = .bool bb ∧ insB x bb (I.take k) ∧ wr.ownsRow w2.heap.size 3 1 v (insL x bb (I.take k)).length (cI (insL x bb (I.take k))) ∧ Below w2.heap.size w2 wr) (fun _ _ i _ => m - (intOf i).toNat)
  case atStart => exact ⟨0, false, Nat.zero_le _, rfl, rfl, ⟨fun e => (by cases e), fun ⟨z, hz, _⟩ => by simp at hz⟩, World.ownsRow_nil _ _ _ _, Below.refl _ _⟩
  case round =>
    obtain ⟨k, bb, hk, rfl, rfl, hib, how, hbw⟩ := hrel
    obtain ⟨A9, c9, hv9, hc9, hn9⟩ := own_form how
    have hl9 := insL_len x bb (I.take k)
    have hk9 : (I.take k).length ≤ k := by simp; omega
    have HIB := Lib.hid hib
    have HOW := Lib.hid how
    have HBW := Lib.hid hbw
    have hbs := hbw.size
    obtain ⟨s, hs9⟩ : ∃ s, (insL x bb (I.take k)).length = s := ⟨_, rfl⟩
    rw [hs9] at hv9 hc9 HOW hl9 hn9
    subst hv9
    have HS9 := Lib.hid hs9
    clear how hbw hs9 hib
    obtain ⟨y00, y01, y02, y03⟩ := cell4 (Q0.out.keep HBW.out)
    obtain ⟨y10, y11⟩ := cell2 (Q1.out.keep HBW.out)
    have l0 := (Q0.out.keep HBW.out).lt
    have l1 := (Q1.out.keep HBW.out).lt
    by_cases hlt : k < m
    · obtain ⟨b, o, rfl, hb, x0⟩ := (HRI.out.keep (bel_step H2.out HBW.out)).i (i := k) (by have := HLI.out; omega)
      have j0 : (0 : Int) ≤ (k : Int) := by omega
      have j1 : (k : Int) < (m : Int) := by omega
      have HT2 := Lib.hid (take_snoc1 (l := I) (k := k) (by have := HLI.out; omega))
      generalize hp1 : at1 I k = p1 at *
      have HP1 := Lib.hid hp1
      clear hp1
      cases bb
      · by_cases hg : x < p1
        · have e7 : decide (x < p1) = true := decide_eq_true hg
          have HNB : Hid (insB x true (I.take (k + 1))) := Lib.hid (by rw [HT2.out]; exact insB_new hg)
          have HNL : Hid (cI (insL x false (I.take k)) ++ [.int .i64 x] ++ [.int .i64 p1] = cI (insL x true (I.take (k + 1)))) := Lib.hid (by
            rw [HT2.out]
            simp only [insL, if_true]
            rw [insO_here hg (insB_no HIB.out), cI_snoc, cI_snoc]
            rfl)
          have HNN : Hid (s + 1 + 1 = (insL x true (I.take (k + 1))).length) := Lib.hid (by
            have q := congrArg List.length HNL.out
            rw [List.length_append, List.length_append, cI_len, cI_len, HS9.out] at q
            exact q)
          clear hg
          go_upto_region 14 with (fail)
          go_quiet (fail)
          have HOW1 := Lib.hid (own_below HOW.out (drewN_below wr nq))
          have HBW1 := Lib.hid (below_drewN HBW.out nq)
          have z00 : (wr.drewN nq).cell? ⟨b0, 3, none⟩ = some (.slice (some ⟨b, o, none⟩) m d) := y03
          have z10 : (wr.drewN nq).cell? ⟨b1, 0, none⟩ = some (.int .i64 x) := y10
          have z20 : (wr.drewN nq).cell? ⟨b, o + k, none⟩ = some (.int .i64 p1) := x0
          obtain ⟨wx, hwx⟩ : ∃ wx, wr.drewN nq = wx := ⟨_, rfl⟩
          rw [hwx] at HOW1 HBW1 z00 z10 z20 ⊢
          clear hwx y00 y01 y02 y03 y10 y11 x0
          have hbs1 := HBW1.out.size
          go_upto_region 17 with (first
            | (at_builtin; refine wpList_append_lies _ rfl (.tmp 55) (.tmp 58) 23 rfl w2.heap.size 3 i0 _ 1 8 Try.underlying23 HI.out HZ0.out HZ1.out HZ2.out rfl (by omega) (.slice A9 s c9) s _ rfl (HOW1.out.alloc _) ⟨_, 0, none⟩ 1 1 [.int .i64 x] rfl rfl (World.news_of_block (heap_alloc_new _ _)) (one1c _) (by omega) (by unfold maxLen; omega) (by omega) (by simp; omega) _ rfl ?_; intro g1 cap1 wB hown1 hgrow1 hat1 hlt1
               have HB1 := Lib.hid (Below.grown (bel_alloc HBW1.out _) hgrow1 (bel_alloc HBW1.out _).size (own_ge HOW1.out)))
            | fail)
          clear z00 z10 z20
          have HOW2 := Lib.hid hown1
          clear hown1 hgrow1 hat1
          obtain ⟨y00, y01, y02, y03⟩ := cell4 (Q0.out.keep HB1.out)
          obtain ⟨b', o', e', hb', x0⟩ := (HRI.out.keep (bel_step H2.out HB1.out)).i (i := k) (by have := HLI.out; omega)
          cases e'
          rw [HP1.out] at x0
          have hbs2 := HB1.out.size
          go_wp2_with (first
            | (at_builtin; refine wpList_append_lies _ rfl (.tmp 60) (.tmp 66) 23 rfl w2.heap.size 3 i0 _ 1 8 Try.underlying23 HI.out HZ0.out HZ1.out HZ2.out rfl (by omega) _ (s + 1) _ rfl (HOW2.out.alloc _) ⟨_, 0, none⟩ 1 1 [.int .i64 p1] rfl rfl (World.news_of_block (heap_alloc_new _ _)) (one1c _) (by omega) (by unfold maxLen; omega) (by omega) (by simp; omega) _ rfl ?_; intro g2 cap2 wC hown2 hgrow2 hat2 hlt2; rw [HNL.out, HNN.out] at hown2
               have HB2 := Lib.hid (Below.grown (bel_alloc HB1.out _) hgrow2 (bel_alloc HB1.out _).size (own_ge HOW2.out)))
            | fail)
          go_roundw
          case rel => exact ⟨k + 1, true, by omega, by go_num, rfl, HNB.out, by rw [HNN.out]; exact hown2, HB2.out⟩
          case measure => simp [intOf] <;> omega
        · have e7 : decide (x < p1) = false := decide_eq_false hg
          have HNB : Hid (insB x false (I.take (k + 1))) := Lib.hid (by rw [HT2.out]; exact insB_not HIB.out hg)
          have HNL : Hid (cI (insL x false (I.take k)) ++ [.int .i64 p1] = cI (insL x false (I.take (k + 1)))) := Lib.hid (by
            rw [HT2.out]
            simp only [insL, Bool.false_eq_true, if_false]
            rw [cI_snoc])
          have HNN : Hid (s + 1 = (insL x false (I.take (k + 1))).length) := Lib.hid (by
            have q := congrArg List.length HNL.out
            rw [List.length_append, cI_len, cI_len, HS9.out] at q
            exact q)
          clear hg
          go_upto_region 14 with (fail)
          go_quiet (fail)
          have HOW1 := Lib.hid (own_below HOW.out (drewN_below wr nq))
          have HBW1 := Lib.hid (below_drewN HBW.out nq)
          have z00 : (wr.drewN nq).cell? ⟨b0, 3, none⟩ = some (.slice (some ⟨b, o, none⟩) m d) := y03
          have z10 : (wr.drewN nq).cell? ⟨b1, 0, none⟩ = some (.int .i64 x) := y10
          have z20 : (wr.drewN nq).cell? ⟨b, o + k, none⟩ = some (.int .i64 p1) := x0
          obtain ⟨wx, hwx⟩ : ∃ wx, wr.drewN nq = wx := ⟨_, rfl⟩
          rw [hwx] at HOW1 HBW1 z00 z10 z20 ⊢
          clear hwx y00 y01 y02 y03 y10 y11 x0
          have hbs1 := HBW1.out.size
          go_wp2_with (first
            | (at_builtin; refine wpList_append_lies _ rfl (.tmp 60) (.tmp 66) 23 rfl w2.heap.size 3 i0 _ 1 8 Try.underlying23 HI.out HZ0.out HZ1.out HZ2.out rfl (by omega) (.slice A9 s c9) s _ rfl (HOW1.out.alloc _) ⟨_, 0, none⟩ 1 1 [.int .i64 p1] rfl rfl (World.news_of_block (heap_alloc_new _ _)) (one1c _) (by omega) (by unfold maxLen; omega) (by omega) (by simp; omega) _ rfl ?_; intro g2 cap2 wC hown2 hgrow2 hat2 hlt2; rw [HNL.out, HNN.out] at hown2
               have HB2 := Lib.hid (Below.grown (bel_alloc HBW1.out _) hgrow2 (bel_alloc HBW1.out _).size (own_ge HOW1.out)))
            | fail)
          go_roundw
          case rel => exact ⟨k + 1, false, by omega, by go_num, rfl, HNB.out, by rw [HNN.out]; exact hown2, HB2.out⟩
          case measure => simp [intOf] <;> omega
      · have HNB : Hid (insB x true (I.take (k + 1))) := Lib.hid (by rw [HT2.out]; exact insB_true HIB.out)
        have HNL : Hid (cI (insL x true (I.take k)) ++ [.int .i64 p1] = cI (insL x true (I.take (k + 1)))) := Lib.hid (by
          rw [HT2.out]
          simp only [insL, if_true]
          rw [cI_snoc, insO_old (HIB.out.1 rfl)])
        have HNN : Hid (s + 1 = (insL x true (I.take (k + 1))).length) := Lib.hid (by
          have q := congrArg List.length HNL.out
          rw [List.length_append, cI_len, cI_len, HS9.out] at q
          exact q)
        go_upto_region 14 with (fail)
        go_quiet (fail)
        have HOW1 := Lib.hid (own_below HOW.out (drewN_below wr nq))
        have HBW1 := Lib.hid (below_drewN HBW.out nq)
        have z00 : (wr.drewN nq).cell? ⟨b0, 3, none⟩ = some (.slice (some ⟨b, o, none⟩) m d) := y03
        have z10 : (wr.drewN nq).cell? ⟨b1, 0, none⟩ = some (.int .i64 x) := y10
        have z20 : (wr.drewN nq).cell? ⟨b, o + k, none⟩ = some (.int .i64 p1) := x0
        obtain ⟨wx, hwx⟩ : ∃ wx, wr.drewN nq = wx := ⟨_, rfl⟩
        rw [hwx] at HOW1 HBW1 z00 z10 z20 ⊢
        clear hwx y00 y01 y02 y03 y10 y11 x0
        have hbs1 := HBW1.out.size
        go_wp2_with (first
          | (at_builtin; refine wpList_append_lies _ rfl (.tmp 60) (.tmp 66) 23 rfl w2.heap.size 3 i0 _ 1 8 Try.underlying23 HI.out HZ0.out HZ1.out HZ2.out rfl (by omega) (.slice A9 s c9) s _ rfl (HOW1.out.alloc _) ⟨_, 0, none⟩ 1 1 [.int .i64 p1] rfl rfl (World.news_of_block (heap_alloc_new _ _)) (one1c _) (by omega) (by unfold maxLen; omega) (by omega) (by simp; omega) _ rfl ?_; intro g2 cap2 wC hown2 hgrow2 hat2 hlt2; rw [HNL.out, HNN.out] at hown2
             have HB2 := Lib.hid (Below.grown (bel_alloc HBW1.out _) hgrow2 (bel_alloc HBW1.out _).size (own_ge HOW1.out)))
          | fail)
        go_roundw
        case rel => exact ⟨k + 1, true, by omega, by go_num, rfl, HNB.out, by rw [HNN.out]; exact hown2, HB2.out⟩
        case measure => simp [intOf] <;> omega
    · obtain rfl : k = m := by omega
      have HTK : Hid (I.take k = I) := Lib.hid (by rw [← HLI.out]; exact List.take_length)
      have z0 := (Q0.out.keep HBW.out).thaw 0
      have z3 := (Q0.out.keep HBW.out).thaw 3
      cases bb
      · have HNL : Hid (cI (insL x false (I.take k)) ++ [.int .i64 x] = cI (insO x I)) := Lib.hid (by
          have q := insB_no HIB.out
          rw [HTK.out] at q ⊢
          simp only [insL, Bool.false_eq_true, if_false]
          rw [insO_none q, cI_snoc])
        go_upto_region 20 with (first
          | (at_builtin; refine wpList_append_lies _ rfl (.tmp 70) (.tmp 73) 23 rfl w2.heap.size 3 i0 _ 1 8 Try.underlying23 HI.out HZ0.out HZ1.out HZ2.out rfl (by omega) (.slice A9 s c9) s _ rfl (HOW.out.alloc _) ⟨_, 0, none⟩ 1 1 [.int .i64 x] rfl rfl (World.news_of_block (heap_alloc_new _ _)) (one1c _) (by omega) (by unfold maxLen; omega) (by omega) (by simp; omega) _ rfl ?_; intro g2 cap2 wC hown2 hgrow2 hat2 hlt2; rw [HNL.out] at hown2
             have HB2 := Lib.hid (Below.grown (bel_alloc HBW.out _) hgrow2 (bel_alloc HBW.out _).size (own_ge HOW.out)))
          | fail)
        clear y00 y01 y02 y03 y10 y11 z0 z3 hgrow2 hat2 hlt2
        obtain ⟨A2, c2, hv2, hc2, ha2⟩ := own_form hown2
        cases hv2
        have HOW2 := Lib.hid hown2
        have HLL : Hid ((insO x I).length = s + 1) := Lib.hid (by
          have q := hown2.1
          rw [cI_len] at q
          omega)
        have P0 := Lib.hid (Q0.out.keep HB2.out)
        have P1 := Lib.hid (Q1.out.keep HB2.out)
        have P2 := Lib.hid (Q2.out.keep HB2.out)
        obtain ⟨y00, y01, y02, y03⟩ := cell4 P0.out
        obtain ⟨y10, y11⟩ := cell2 P1.out
        have z0 := P0.out.thaw 0
        have z3 := P0.out.thaw 3
        have v1 : ¬ b0 = b1 := by omega
        have v2 : ¬ b1 = b0 := by omega
        go_upto_region 22 with (fail)
        clear y00 y01 y02 y03 y10 y11 z0 z3
        have T0 : Hid (OW ((wC.setCell ⟨b0, 3, none⟩ (.slice (some ⟨g2, 0, none⟩) (s + 1) cap2)).setCell ⟨b0, 0, none⟩ (.int .i64 (h + y))) b0 25 [.int .i64 (h + y), .int .i64 nx, .slice A n c, (.slice (some ⟨g2, 0, none⟩) (s + 1) cap2)]) := Lib.hid ((P0.out.set 3 (.slice (some ⟨g2, 0, none⟩) (s + 1) cap2)).set 0 (.int .i64 (h + y)))
        have T2 := Lib.hid ((P2.out.far (b := b0) (by omega) 3 (.slice (some ⟨g2, 0, none⟩) (s + 1) cap2)).far (b := b0) (by omega) 0 (.int .i64 (h + y)))
        have TO := Lib.hid (own_set (own_set HOW2.out (b := b0) (by omega) 3 (.slice (some ⟨g2, 0, none⟩) (s + 1) cap2)) (b := b0) (by omega) 0 (.int .i64 (h + y)))
        have TB := Lib.hid (((bel_step H2.out HB2.out).setCell (p := ⟨b0, 3, none⟩) o4 (.slice (some ⟨g2, 0, none⟩) (s + 1) cap2)).setCell (p := ⟨b0, 0, none⟩) o4 (.int .i64 (h + y)))
        obtain ⟨w4, hw4⟩ : ∃ w4, (wC.setCell ⟨b0, 3, none⟩ (.slice (some ⟨g2, 0, none⟩) (s + 1) cap2)).setCell ⟨b0, 0, none⟩ (.int .i64 (h + y)) = w4 := ⟨_, rfl⟩
        rw [hw4] at T0 T2 TO TB ⊢
        clear hw4
        obtain ⟨y00, y01, y02, y03⟩ := cell4 T0.out
        obtain ⟨y20, y21, y22, y23⟩ := cell4 T2.out
        have z0 := T2.out.thaw 0
        have z1 := T2.out.thaw 1
        have z2 := T2.out.thaw 2
        have z3 := T2.out.thaw 3
        have v3 : ¬ b0 = b2 := by omega
        have v4 : ¬ b2 = b0 := by omega
        go_wp2_with fail
        have f1 := T2.out.set4 (.int .i64 (h + y)) (.int .i64 nx) (.slice A n c) (.slice (some ⟨g2, 0, none⟩) (s + 1) cap2)
        have fO := own_set (own_set (own_set (own_set TO.out (b := b2) (by omega) 0 (.int .i64 (h + y))) (b := b2) (by omega) 1 (.int .i64 nx)) (b := b2) (by omega) 2 (.slice A n c)) (b := b2) (by omega) 3 (.slice (some ⟨g2, 0, none⟩) (s + 1) cap2)
        have fb := bel_set4 TB.out (b := b2) (by omega) 0 1 2 3 (.int .i64 (h + y)) (.int .i64 nx) (.slice A n c) (.slice (some ⟨g2, 0, none⟩) (s + 1) cap2)
        obtain ⟨wF, hwF⟩ : ∃ wF, (((w4.setCell ⟨b2, 0, none⟩ (.int .i64 (h + y))).setCell ⟨b2, 1, none⟩ (.int .i64 nx)).setCell ⟨b2, 2, none⟩ (.slice A n c)).setCell ⟨b2, 3, none⟩ (.slice (some ⟨g2, 0, none⟩) (s + 1) cap2) = wF := ⟨_, rfl⟩
        rw [hwF] at f1 fO fb ⊢
        obtain ⟨d0, d1, d2, d3⟩ := cell4 f1
        (try simp only [Exit.inBlock, Exit.then])
        refine bodyPost_ret (by simp [results, Try.results14, go_sem, d0, d1, d2, d3]; try rfl) rfl ?_
        refine ⟨⟨_, rfl, A, c, some ⟨g2, 0, none⟩, cap2, ?_, HRO.out.keep fb, own_rl fO, ?_, ?_, ?_, ?_⟩, fb⟩
        · rw [HLO.out, HLL.out]
        · rw [HLO.out]; exact HAN.out
        · rw [HLL.out]; exact ha2
        · rw [HLO.out]; exact HC.out
        · rw [HLL.out]; exact hc2
      · have HNL : Hid (cI (insL x true (I.take k)) = cI (insO x I)) := Lib.hid (by
          rw [HTK.out]
          simp only [insL, if_true])
        have hown2 := HOW.out
        rw [HNL.out] at hown2
        have HB2 := Lib.hid HBW.out
        go_upto_region 20 with (fail)
        clear y00 y01 y02 y03 y10 y11 z0 z3
        obtain ⟨A2, c2, hv2, hc2, ha2⟩ := own_form hown2
        cases hv2
        have HOW2 := Lib.hid hown2
        have HLL : Hid ((insO x I).length = s) := Lib.hid (by
          have q := hown2.1
          rw [cI_len] at q
          omega)
        have P0 := Lib.hid (Q0.out.keep HB2.out)
        have P1 := Lib.hid (Q1.out.keep HB2.out)
        have P2 := Lib.hid (Q2.out.keep HB2.out)
        obtain ⟨y00, y01, y02, y03⟩ := cell4 P0.out
        obtain ⟨y10, y11⟩ := cell2 P1.out
        have z0 := P0.out.thaw 0
        have z3 := P0.out.thaw 3
        have v1 : ¬ b0 = b1 := by omega
        have v2 : ¬ b1 = b0 := by omega
        go_upto_region 22 with (fail)
        clear y00 y01 y02 y03 y10 y11 z0 z3
        have T0 : Hid (OW ((wr.setCell ⟨b0, 3, none⟩ (.slice A9 s c9)).setCell ⟨b0, 0, none⟩ (.int .i64 (h + y))) b0 25 [.int .i64 (h + y), .int .i64 nx, .slice A n c, (.slice A9 s c9)]) := Lib.hid ((P0.out.set 3 (.slice A9 s c9)).set 0 (.int .i64 (h + y)))
        have T2 := Lib.hid ((P2.out.far (b := b0) (by omega) 3 (.slice A9 s c9)).far (b := b0) (by omega) 0 (.int .i64 (h + y)))
        have TO := Lib.hid (own_set (own_set HOW2.out (b := b0) (by omega) 3 (.slice A9 s c9)) (b := b0) (by omega) 0 (.int .i64 (h + y)))
        have TB := Lib.hid (((bel_step H2.out HB2.out).setCell (p := ⟨b0, 3, none⟩) o4 (.slice A9 s c9)).setCell (p := ⟨b0, 0, none⟩) o4 (.int .i64 (h + y)))
        obtain ⟨w4, hw4⟩ : ∃ w4, (wr.setCell ⟨b0, 3, none⟩ (.slice A9 s c9)).setCell ⟨b0, 0, none⟩ (.int .i64 (h + y)) = w4 := ⟨_, rfl⟩
        rw [hw4] at T0 T2 TO TB ⊢
        clear hw4
        obtain ⟨y00, y01, y02, y03⟩ := cell4 T0.out
        obtain ⟨y20, y21, y22, y23⟩ := cell4 T2.out
        have z0 := T2.out.thaw 0
        have z1 := T2.out.thaw 1
        have z2 := T2.out.thaw 2
        have z3 := T2.out.thaw 3
        have v3 : ¬ b0 = b2 := by omega
        have v4 : ¬ b2 = b0 := by omega
        go_wp2_with fail
        have f1 := T2.out.set4 (.int .i64 (h + y)) (.int .i64 nx) (.slice A n c) (.slice A9 s c9)
        have fO := own_set (own_set (own_set (own_set TO.out (b := b2) (by omega) 0 (.int .i64 (h + y))) (b := b2) (by omega) 1 (.int .i64 nx)) (b := b2) (by omega) 2 (.slice A n c)) (b := b2) (by omega) 3 (.slice A9 s c9)
        have fb := bel_set4 TB.out (b := b2) (by omega) 0 1 2 3 (.int .i64 (h + y)) (.int .i64 nx) (.slice A n c) (.slice A9 s c9)
        obtain ⟨wF, hwF⟩ : ∃ wF, (((w4.setCell ⟨b2, 0, none⟩ (.int .i64 (h + y))).setCell ⟨b2, 1, none⟩ (.int .i64 nx)).setCell ⟨b2, 2, none⟩ (.slice A n c)).setCell ⟨b2, 3, none⟩ (.slice A9 s c9) = wF := ⟨_, rfl⟩
        rw [hwF] at f1 fO fb ⊢
        obtain ⟨d0, d1, d2, d3⟩ := cell4 f1
        (try simp only [Exit.inBlock, Exit.then])
        refine bodyPost_ret (by simp [results, Try.results14, go_sem, d0, d1, d2, d3]; try rfl) rfl ?_
        refine ⟨⟨_, rfl, A, c, A9, c9, ?_, HRO.out.keep fb, own_rl fO, ?_, ?_, ?_, ?_⟩, fb⟩
        · rw [HLO.out, HLL.out]
        · rw [HLO.out]; exact HAN.out
        · rw [HLL.out]; exact ha2
        · rw [HLO.out]; exact HC.out
        · rw [HLL.out]; exact hc2

def RRecvR (W : World) (v : Value) (er : Int) (h nx : Int) (O : List (Int × Int)) (I : List Int) (x y : Int) : Prop :=
  er = rE h nx O I x y ∧ ((er = 0 ∧ SV W v (h + y) nx O (insO x I)) ∨ (er ≠ 0 ∧ v = zS))
/-- Receive, whatever it is given -/
theorem rrecv_all (v : Value) (h nx : Int) (O : List (Int × Int)) (I : List Int) (x y : Int) (w : World) (hs : SV w v h nx O I) :
    Calls Try.prog 14 #[v, .agg #[.int .i64 x, .int .i64 y]] w fun e w' => (∃ v' er, e = .returned (.tuple #[v', .int .i64 er]) ∧ RRecvR w' v' er h nx O I x y) ∧ Below w.heap.size w w' := by
  obtain ⟨A, c, B, d, rfl, hRO, hRI, hAn, hBn, hc, hd⟩ := hs
  have bad : ∀ er : Int, er ≠ 0 → er = rE h nx O I x y → ∀ w' : World, RRecvR w' zS er h nx O I x y := fun er h0 he w' => ⟨he, .inr ⟨h0, rfl⟩⟩
  cases hv : vB h nx O I
  · refine (rrecv_b1 h nx A _ c B _ d O I x y w (by omega) (by omega) rfl rfl hRO hRI hv).mono ?_
    rintro e w' ⟨rfl, hb⟩
    exact ⟨⟨_, _, rfl, bad 1 (by decide) (by unfold rE; rw [if_neg (fun q => by rw [hv] at q; exact absurd q.1 (by decide))]) _⟩, hb⟩
  · cases ht : vT (x, y)
    · refine (rrecv_b2 h nx A _ c B _ d O I x y w (by omega) (by omega) rfl rfl hRO hRI hv ht).mono ?_
      rintro e w' ⟨rfl, hb⟩
      exact ⟨⟨_, _, rfl, bad 1 (by decide) (by unfold rE; rw [if_neg (fun q => by rw [ht] at q; exact absurd q.2 (by decide))]) _⟩, hb⟩
    · have hp : vB h nx O I = true ∧ vT (x, y) = true := ⟨hv, ht⟩
      by_cases h1 : x ∈ I
      · refine (rrecv_b3 h nx A _ c B _ d O I x y w (by omega) (by omega) rfl rfl hRO hRI hv ht h1).mono ?_
        rintro e w' ⟨rfl, hb⟩
        exact ⟨⟨_, _, rfl, bad 5 (by decide) (by unfold rE; rw [if_pos hp, if_pos h1]) _⟩, hb⟩
      · by_cases h2 : I.length = 64
        · refine (rrecv_b4 h nx A _ c B _ d O I x y w (by omega) (by omega) rfl rfl hRO hRI hv ht h1 h2).mono ?_
          rintro e w' ⟨rfl, hb⟩
          exact ⟨⟨_, _, rfl, bad 10 (by decide) (by unfold rE; rw [if_pos hp, if_neg h1, if_pos h2]) _⟩, hb⟩
        · by_cases h3 : 1000 < h + y
          · refine (rrecv_b5 h nx A _ c B _ d O I x y w (by omega) (by omega) rfl rfl hRO hRI hv ht h1 h2 h3).mono ?_
            rintro e w' ⟨rfl, hb⟩
            exact ⟨⟨_, _, rfl, bad 3 (by decide) (by unfold rE; rw [if_pos hp, if_neg h1, if_neg h2, if_pos h3]) _⟩, hb⟩
          · refine (rrecv_ok h nx A _ c B _ d O I x y w (by omega) (by omega) rfl rfl hRO hRI hAn hBn hv ht h1 h2 (by omega) hc hd).mono ?_
            rintro e w' ⟨⟨v', rfl, hs'⟩, hb⟩
            exact ⟨⟨_, _, rfl, by unfold rE; rw [if_pos hp, if_neg h1, if_neg h2, if_neg h3], .inl ⟨rfl, hs'⟩⟩, hb⟩
end Go.Proofs.Yteeohndgkfilaaa
