/-
  THE WALKS over money.Split: what is refused, and what is divided.
-/
import Derived.Test.YtkhmlbkkdflnoaaSrt
import Derived.Test.YtkhmlbkkdflnoaaMoney
namespace Go.Proofs.Ytkhmlbkkdflnoaa.Sp
open Go.RowKit
open Ch (inB inB_iff)
open Mo (ins_any isAm_any need_yes)
set_option linter.unusedVariables false
set_option linter.unusedSimpArgs false
attribute [local go_sem ↓] Go.wp_at_zero Go.wp_at_succ

theorem need_no (er : Int) (w : World) : Calls Try.prog 62 #[.bool false, .int .i64 er] w fun e w' => e = .panicked [{ v := .iface 194 (.agg #[.int .i64 er]), recovered := false }] ∧ w = w' := by
  go_enter Try.func62, Try.ntmps62
  go_wp2
  exact ⟨rfl, rfl, rfl⟩
theorem assert_stop (v : Value) (w : World) : (Instr.typeAssert (.iface 194 v) 20 194 true).run Try.prog w = .ok (.tuple #[v, .bool true]) w := by kernel_rfl
/-- the error is laid, behind a new block -/
def Cau (w : World) (p : Addr) (er : Int) (w' : World) : Prop := ∃ o, w' = (w.alloc o).setCell p (.int .i64 er)
set_option maxRecDepth 100000 in
theorem caught_some (p : Addr) (er x : Int) (w : World) (hc : w.cell? p = some (.int .i64 x)) (hz : w.frozen? p = false) :
    Calls Try.prog 61 #[.iface 194 (.agg #[.int .i64 er]), .pointer (some p)] w fun e w' => (∃ v, e = .returned v) ∧ Cau w p er w' := by
  go_enter Try.func61, Try.ntmps61
  have hta := fun v w => assert_stop v w
  have hc2 : ∀ o, (w.alloc o).cell? p = some (.int .i64 x) := fun o => old_at hc (bel_alloc (Below.refl _ _) o)
  have hz2 : ∀ o, (w.alloc o).frozen? p = false := fun o => ((bel_alloc (Below.refl _ w) o).frozen (World.block_lt_of_cell? w p hc)).trans hz
  go_wp2
  go_end0
  exact ⟨⟨_, rfl⟩, _, rfl⟩
theorem split1_idle (p : Addr) (w : World) :
    CallsD Try.prog 60 #[.pointer (some p)] .returning w fun e u' w' => (∃ v, e = .returned v) ∧ u' = .returning ∧ w' = w := by
  refine callsD_of_wpS Try.func60 rfl fun c₀ cs hu => ?_
  apply wpS_region
  simp [wpOpsS, go_sem, recoverD, hu, Try.ntmps60, Exit.thenS]
  refine (Mo.caught_nil p w).mono ?_
  rintro e w' ⟨⟨v, rfl⟩, rfl⟩
  cases c₀
  simp_all [bodyPostS, results, Try.results60]
theorem split1_stop (p : Addr) (er x : Int) (older : List PanicEntry) (w : World) (hc : w.cell? p = some (.int .i64 x)) (hz : w.frozen? p = false) :
    CallsD Try.prog 60 #[.pointer (some p)] (.panicking ({ v := .iface 194 (.agg #[.int .i64 er]), recovered := false } :: older)) w fun e u' w' =>
      (∃ v, e = .returned v) ∧ u' = .panicking ({ v := .iface 194 (.agg #[.int .i64 er]), recovered := true } :: older) ∧ Cau w p er w' := by
  refine callsD_of_wpS Try.func60 rfl fun c₀ cs hu => ?_
  apply wpS_region
  simp [wpOpsS, go_sem, recoverD, hu, Try.ntmps60, Exit.thenS]
  refine (caught_some p er x w hc hz).mono ?_
  rintro e w' ⟨⟨v, rfl⟩, ho⟩
  cases c₀
  simp_all [bodyPostS, results, Try.results60]

theorem box_at {W : World} {b : Nat} {v : Value} {t : TypeId} (h : W.heap[b]? = some (.cells #[v] t (0, 0))) : W.cell? ⟨b, 0, none⟩ = some v ∧ W.frozen? ⟨b, 0, none⟩ = false ∧ b < W.heap.size := by
  refine ⟨?_, by simp [World.frozen?, h], (Array.getElem?_eq_some_iff.1 h).1⟩
  rw [cell_of_row W b 0 _ _ (0, 0) h]
  rfl
theorem Cau.facts {w W W' : World} {p : Addr} {er x : Int} (h : Cau W p er W') (hc : W.cell? p = some (.int .i64 x)) (hb : Below w.heap.size w W) (hp : w.heap.size ≤ p.block) : W'.cell? p = some (.int .i64 er) ∧ Below w.heap.size w W' := by
  obtain ⟨o, rfl⟩ := h
  refine ⟨?_, (bel_alloc hb o).setCell hp _⟩
  exact World.cell?_setCell_same _ _ _ (old_at hc (bel_alloc (Below.refl _ _) o))
set_option maxRecDepth 100000 in
set_option maxHeartbeats 1000000 in
theorem split_out (am : Int) (A : Option Addr) (n c : Nat) (w : World) (hn : 1 ≤ n ∧ n ≤ 7) (ha : inB am 0 1000000000 = false) :
    Calls Try.prog 23 #[.int .i64 am, .slice A n c] w fun e w' => e = .returned (.tuple #[.slice none 0 0, .int .i64 1]) ∧ Below w.heap.size w w' := by
  have hmf : ∀ (fn : Fn) (first cap : Array Value) (w : World), (Instr.makeFunc fn first cap).run Try.prog w = .ok (.func fn first cap) w := fun _ _ _ _ => rfl
  have HA := Lib.hid (fun W => isAm_any am W)
  rw [ha] at HA
  clear ha
  go_enter_defers Try.func23, Try.ntmps23
  go_wp2_with (first
    | (go_at_call 63; with_reducible refine (HA.out _).mono ?_; rintro e w1 ⟨rfl, rfl⟩)
    | (go_at_call 62; with_reducible refine (need_no _ _).mono ?_; rintro e w1 ⟨rfl, rfl⟩))
  obtain ⟨W, hW⟩ : ∃ W, (((w.alloc (Obj.cells #[Value.int IntKind.i64 am] 3)).alloc (Obj.cells #[Value.slice A n c] 46)).alloc (Obj.cells #[Value.int IntKind.i64 0] 32)) = W := ⟨_, rfl⟩
  have hcz := box_at (show W.heap[w.heap.size + 1 + 1]? = some (.cells #[.int .i64 0] 32 (0, 0)) by rw [← hW]; simpa using heap_alloc_new ((w.alloc (Obj.cells #[Value.int IntKind.i64 am] 3)).alloc (Obj.cells #[Value.slice A n c] 46)) (Obj.cells #[Value.int IntKind.i64 0] 32))
  have hb : Below w.heap.size w W := by rw [← hW]; exact bel_alloc (bel_alloc (bel_alloc (Below.refl _ _) _) _) _
  rw [hW]
  refine leaves_cons (f := 60) (args := #[.pointer (some ⟨w.heap.size + 1 + 1, 0, none⟩)]) (by simp) (by simp [go_sem]) ?_
  refine (split1_stop ⟨w.heap.size + 1 + 1, 0, none⟩ 1 0 [] _ hcz.1 hcz.2.1).mono ?_
  rintro e u' w'' ⟨⟨v, rfl⟩, rfl, hca⟩
  obtain ⟨he, hb2⟩ := hca.facts hcz.1 hb (by show w.heap.size ≤ w.heap.size + 1 + 1; omega)
  simp [Leaves, settle, results, Try.results23, go_sem, he, hb2]

theorem box_set {W : World} {b : Nat} {v : Value} {t : TypeId} (h : W.heap[b]? = some (.cells #[v] t (0, 0))) (u : Value) : (W.setCell ⟨b, 0, none⟩ u).heap[b]? = some (.cells #[u] t (0, 0)) := by
  simp [World.setCell, Array.getElem?_modify, h]
theorem tot_nn {y : Nat → Int} : ∀ k, (∀ i, i < k → 0 ≤ y i) → 0 ≤ tot y k := by
  intro k
  induction k with
  | zero => intro _; exact Int.le_refl _
  | succ k ih => intro h; simp only [tot]; have := ih fun i hi => h i (by omega); have := h k (by omega); omega
/-- the boxes of Split -/
theorem split_boxes (am : Int) (A : Option Addr) (n c : Nat) (w : World) :
    let W := ((((w.alloc (Obj.cells #[Value.int IntKind.i64 am] 3)).alloc (Obj.cells #[Value.slice A n c] 46)).alloc (Obj.cells #[Value.int IntKind.i64 0] 32)).alloc (Obj.cells #[Value.int IntKind.i64 0] 3))
    W.heap[w.heap.size]? = some (.cells #[.int .i64 am] 3 (0, 0)) ∧ W.heap[w.heap.size + 1]? = some (.cells #[.slice A n c] 46 (0, 0)) ∧ W.heap[w.heap.size + 1 + 1]? = some (.cells #[.int .i64 0] 32 (0, 0)) ∧ W.heap[w.heap.size + 1 + 1 + 1]? = some (.cells #[.int .i64 0] 3 (0, 0)) ∧ Below w.heap.size w W := by
  intro W
  have h0 := heap_alloc_new w (Obj.cells #[Value.int IntKind.i64 am] 3)
  have h1 := heap_alloc_new (w.alloc (Obj.cells #[Value.int IntKind.i64 am] 3)) (Obj.cells #[Value.slice A n c] 46)
  have h2 := heap_alloc_new ((w.alloc (Obj.cells #[Value.int IntKind.i64 am] 3)).alloc (Obj.cells #[Value.slice A n c] 46)) (Obj.cells #[Value.int IntKind.i64 0] 32)
  have h3 := heap_alloc_new (((w.alloc (Obj.cells #[Value.int IntKind.i64 am] 3)).alloc (Obj.cells #[Value.slice A n c] 46)).alloc (Obj.cells #[Value.int IntKind.i64 0] 32)) (Obj.cells #[Value.int IntKind.i64 0] 3)
  simp only [World.size_alloc] at h1 h2 h3
  refine ⟨?_, ?_, ?_, h3, bel_alloc (bel_alloc (bel_alloc (bel_alloc (Below.refl _ _) _) _) _) _⟩
  · rw [Below.heap_alloc _ _ _ (by simp only [World.size_alloc]; omega), Below.heap_alloc _ _ _ (by simp only [World.size_alloc]; omega), Below.heap_alloc _ _ _ (by simp only [World.size_alloc]; omega)]
    exact h0
  · rw [Below.heap_alloc _ _ _ (by simp only [World.size_alloc]; omega), Below.heap_alloc _ _ _ (by simp only [World.size_alloc]; omega)]
    exact h1
  · rw [Below.heap_alloc _ _ _ (by simp only [World.size_alloc]; omega)]
    exact h2
/-- is it a weight? -/
def okw (x : Int) : Bool := inB x 0 1000000
set_option maxRecDepth 100000 in
set_option maxHeartbeats 1000000 in
theorem split_bad (am : Int) (A : Option Addr) (n c : Nat) (f : Nat → Int) (w : World) (hn : 1 ≤ n ∧ n ≤ 7) (ha : inB am 0 1000000000 = true) (hR : RZ w A n f) (hbad : ¬ ((∀ i, i < n → okw (f i) = true) ∧ 0 < tot f n)) :
    Calls Try.prog 23 #[.int .i64 am, .slice A n c] w fun e w' => e = .returned (.tuple #[.slice none 0 0, .int .i64 1]) ∧ Below w.heap.size w w' := by
  have hmf : ∀ (fn : Fn) (first cap : Array Value) (w : World), (Instr.makeFunc fn first cap).run Try.prog w = .ok (.func fn first cap) w := fun _ _ _ _ => rfl
  have HA := Lib.hid (fun W => isAm_any am W)
  rw [ha] at HA
  clear ha
  have HL := Lib.hid (fun W => ins_any (n : Int) 1 32 W)
  rw [inB_iff.2 (show (1 : Int) ≤ n ∧ (n : Int) ≤ 32 by omega)] at HL
  have HR := Lib.hid hR
  have HBAD := Lib.hid hbad
  clear hR hbad
  go_enter_defers Try.func23, Try.ntmps23
  go_wp2_with (first
    | (go_at_call 63; with_reducible refine (HA.out _).mono ?_; rintro e w1 ⟨rfl, rfl⟩)
    | (go_at_call 64; with_reducible refine (HL.out _).mono ?_; rintro e w1 ⟨rfl, rfl⟩)
    | (go_at_call 62; with_reducible refine (need_yes _ _).mono ?_; rintro e w1 ⟨⟨v, rfl⟩, rfl⟩))
  obtain ⟨W, hW⟩ : ∃ W, ((((w.alloc (Obj.cells #[Value.int IntKind.i64 am] 3)).alloc (Obj.cells #[Value.slice A n c] 46)).alloc (Obj.cells #[Value.int IntKind.i64 0] 32)).alloc (Obj.cells #[Value.int IntKind.i64 0] 3)) = W := ⟨_, rfl⟩
  have hS := split_boxes am A n c w
  rw [hW] at hS ⊢
  have HSB := Lib.hid hS
  clear hS hW
  go_loopw [28] (fun i wr => ∃ k : Nat, k ≤ n ∧ i = .int .i64 k ∧ (∀ j, j < k → okw (f j) = true) ∧ wr.heap[w.heap.size + 1 + 1 + 1]? = some (.cells #[.int .i64 (tot f k)] 3 (0, 0)) ∧ Below (w.heap.size + 1 + 1 + 1) W wr) (fun i _ => n - (intOf i).toNat)
  case atStart => exact ⟨0, by omega, rfl, fun j hj => by omega, HSB.out.2.2.2.1, Below.refl _ _⟩
  case round =>
    obtain ⟨k, hk, rfl, hall, hs, hbw⟩ := hrel
    have HALL := Lib.hid hall
    have HSM := Lib.hid hs
    have HBW := Lib.hid hbw
    obtain ⟨s0, s1, s2, s3, s4⟩ := HSB.out
    have m0 := box_at ((hbw.block _ (by omega)).trans s0)
    have m1 := box_at ((hbw.block _ (by omega)).trans s1)
    have m2 := box_at ((hbw.block _ (by omega)).trans s2)
    have m3 := box_at hs
    have HM2 := Lib.hid m2
    have HBB := Lib.hid (s4.trans (hbw.mono (by omega)))
    have x1 := m1.1
    have x3 := m3.1
    have y3 := m3.2.1
    clear s0 s1 s2 s3 s4 m0 m1 m2 m3 hall hs hbw
    by_cases hlt : k < n
    · obtain ⟨b, o, rfl, hb, hc⟩ := (HR.out.keep HBB.out) k hlt
      have i1 : (0 : Int) ≤ (k : Int) := by omega
      have i2 : (k : Int) < (n : Int) := by omega
      cases hw : okw (f k)
      · have HI := Lib.hid (fun W => ins_any (f k) 0 1000000 W)
        rw [show inB (f k) 0 1000000 = false from hw] at HI
        clear hw
        go_wp2_with (first
          | (go_at_call 64; with_reducible refine (HI.out _).mono ?_; rintro e w1 ⟨rfl, rfl⟩)
          | (go_at_call 62; with_reducible refine (need_no _ _).mono ?_; rintro e w1 ⟨rfl, rfl⟩))
        refine leaves_cons (f := 60) (args := #[.pointer (some ⟨w.heap.size + 1 + 1, 0, none⟩)]) (by simp) (by simp [go_sem]) ?_
        refine (split1_stop ⟨w.heap.size + 1 + 1, 0, none⟩ 1 0 [] _ HM2.out.1 HM2.out.2.1).mono ?_
        rintro e u' w'' ⟨⟨v9, rfl⟩, rfl, hca⟩
        obtain ⟨he, hb2⟩ := hca.facts HM2.out.1 HBB.out (by show w.heap.size ≤ w.heap.size + 1 + 1; omega)
        simp [Leaves, settle, results, Try.results23, go_sem, he, hb2]
      · have HI := Lib.hid (fun W => ins_any (f k) 0 1000000 W)
        rw [show inB (f k) 0 1000000 = true from hw] at HI
        have HK := Lib.hid hw
        have hb1 := tot_bd (y := f) (B := 1000000) k fun i hi => by have := inB_iff.1 (HALL.out i hi); omega
        have hb2 := inB_iff.1 hw
        clear hw
        have hb3 : -(7 * 1000000) ≤ tot f k ∧ tot f k ≤ 7 * 1000000 := by
          constructor <;> omega
        clear hb1
        go_wp2_with (first
          | (go_at_call 64; with_reducible refine (HI.out _).mono ?_; rintro e w1 ⟨rfl, rfl⟩)
          | (go_at_call 62; with_reducible refine (need_yes _ _).mono ?_; rintro e w1 ⟨⟨v, rfl⟩, rfl⟩))
        go_roundw
        case rel => exact ⟨k + 1, by omega, by go_num, all_snoc HALL.out HK.out, box_set HSM.out _, HBW.out.setCell (Nat.le_refl _) _⟩
        case measure => simp [intOf] <;> omega
    · obtain rfl : k = n := by omega
      have hz : tot f k = 0 := by
        have h0 := tot_bd (y := f) (B := 1000000) k fun i hi => by have := inB_iff.1 (HALL.out i hi); omega
        have h1 := tot_nn k fun i hi => (inB_iff.1 (HALL.out i hi)).1
        have h2 := HBAD.out
        rcases Int.lt_or_le 0 (tot f k) with h | h
        · exact absurd ⟨HALL.out, h⟩ h2
        · omega
      rw [hz] at x3
      clear hz
      go_wp2_with (first
        | (go_at_call 62; with_reducible refine (need_no _ _).mono ?_; rintro e w1 ⟨rfl, rfl⟩))
      all_goals (try (exfalso; omega))
      refine leaves_cons (f := 60) (args := #[.pointer (some ⟨w.heap.size + 1 + 1, 0, none⟩)]) (by simp) (by simp [go_sem]) ?_
      refine (split1_stop ⟨w.heap.size + 1 + 1, 0, none⟩ 1 0 [] _ HM2.out.1 HM2.out.2.1).mono ?_
      rintro e u' w'' ⟨⟨v9, rfl⟩, rfl, hca⟩
      obtain ⟨he, hb2⟩ := hca.facts HM2.out.1 HBB.out (by show w.heap.size ≤ w.heap.size + 1 + 1; omega)
      simp [Leaves, settle, results, Try.results23, go_sem, he, hb2]
end Go.Proofs.Ytkhmlbkkdflnoaa.Sp
