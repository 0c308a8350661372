/-
  THE WALK over the reference's Valid.
-/
import Derived.Test.YteeohndgkfilaaaRefs
namespace Go.Proofs.Yteeohndgkfilaaa
open Go.RowKit
set_option linter.unusedVariables false
attribute [local go_sem ↓] Go.wp_at_zero Go.wp_at_succ

theorem wp_region_cls {P : Program} {id : Nat} {Q : Exit → Act → World → Prop} {a : Act} {w : World} {l : List Oper} (C : World → Prop) (hm : P.follows .mixedOrders = true) (hB : Region.lexB .any l.toArray = true) (hC : C w.drew)
    (h : wpQuiet P l.toArray C (fun a' => ∀ w', C w' → Q .normal a' w') l a) : (Code.region id l.toArray true).wp P Q a w := wp_region_quiet (C := C) hm hB hC (by simpa using h)
theorem quiet_of_run {P : Program} {o : Oper} {a : Act} {C : World → Prop} {K : Act → Prop} (v : Value) (h : ∀ w, C w → (execOp a.eval o).run P w = .ok (.value v) w) (hk : K (a.put o.dst v)) : o.quiet P a C K :=
  ⟨v, fun w hw => by unfold Oper.quietAt; rw [h w hw]; exact ⟨rfl, rfl⟩, hk⟩
theorem quiet_of_call {P : Program} {o : Oper} {a : Act} {C : World → Prop} {K : Act → Prop} (f : FuncId) (args : Array Value) (v : Value) (h : ∀ w, C w → (execOp a.eval o).run P w = .ok (.enter f args) w) (hc : ∀ w, C w → Calls P f args w fun e w' => e = .returned v ∧ C w') (hk : K (a.put o.dst v)) : o.quiet P a C K :=
  ⟨v, fun w hw => by unfold Oper.quietAt; rw [h w hw]; exact ⟨rfl, hc w hw⟩, hk⟩

set_option maxRecDepth 100000 in
set_option maxHeartbeats 8000000 in
theorem rval_any (h nx : Int) (A : Option Addr) (n c : Nat) (B : Option Addr) (m d : Nat) (lO : List (Int × Int)) (lI : List Int) (w : World) (hn : n ≤ 9223372036854775807) (hm : m ≤ 9223372036854775807) (hlO : lO.length = n) (hlI : lI.length = m) (hRO : RL w A (cT lO)) (hRI : RL w B (cI lI)) :
    Calls Try.prog 19 #[.agg #[.int .i64 h, .int .i64 nx, .slice A n c, .slice B m d]] w fun e w' => e = .returned (.bool (vB h nx lO lI)) ∧ Below w.heap.size w w' := by
  have HRO := Lib.hid hRO
  have HRI := Lib.hid hRI
  have HLO := Lib.hid hlO
  have HLI := Lib.hid hlI
  have HB : Hid (∀ o, Below w.heap.size w (w.alloc o)) := Lib.hid fun o => bel_a w o
  clear hRO hRI hlO hlI
  by_cases g : ((0 ≤ h ∧ h ≤ 1000) ∧ 1 ≤ nx ∧ nx ≤ 1000001) ∧ n ≤ 64 ∧ m ≤ 64
  · have G1 := Lib.hid g.1
    obtain ⟨⟨⟨a1, a2⟩, a3, a4⟩, a5, a6⟩ := g
    have e2 : decide (1000 < h) = false := decide_eq_false (by omega)
    have e3 : decide (nx < 1) = false := decide_eq_false (by omega)
    have e4 : decide (1000001 < nx) = false := decide_eq_false (by omega)
    have e5 : decide ((64 : Int) < (n : Int)) = false := decide_eq_false (by omega)
    have e6 : decide ((64 : Int) < (m : Int)) = false := decide_eq_false (by omega)
    go_enter Try.func19, Try.ntmps19
    go_wp2_with fail
    all_goals (try (exfalso; omega))
    have HBX := Lib.hid (OW.new w 25 [.int .i64 h, .int .i64 nx, .slice A n c, .slice B m d])
    have HW0 : Hid (Below w.heap.size w (w.alloc (.cells #[.int .i64 h, .int .i64 nx, .slice A n c, .slice B m d] 25))) := Lib.hid (bel_a w _)
    obtain ⟨wa, hwa⟩ : ∃ wa, w.alloc (.cells #[.int .i64 h, .int .i64 nx, .slice A n c, .slice B m d] 25) = wa := ⟨_, rfl⟩
    have HBX' : Hid (OW wa w.heap.size 25 [.int .i64 h, .int .i64 nx, .slice A n c, .slice B m d]) := Lib.hid (hwa ▸ HBX.out)
    rw [hwa] at HW0 ⊢
    clear hwa HBX HB
    obtain ⟨bx, hbx⟩ : ∃ b, w.heap.size = b := ⟨_, rfl⟩
    rw [hbx] at HBX' ⊢
    clear hbx
    go_loopw [3] (fun i wr => ∃ k : Nat, k ≤ n ∧ i = .int .i64 k ∧ (∀ i, i < k → vT (at2 lO i) = true ∧ (at2 lO i).1 < nx) ∧ (∀ i, i + 1 < k → (at2 lO i).1 < (at2 lO (i + 1)).1) ∧ Below wa.heap.size wa wr) (fun i _ => n - (intOf i).toNat)
    case atStart => exact ⟨0, Nat.zero_le _, rfl, fun i hi => by omega, fun i hi => by omega, Below.refl _ _⟩
    case round =>
      obtain ⟨k, hk, rfl, hall, hinc, hbw⟩ := hrel
      have HALL := Lib.hid hall
      have HINC := Lib.hid hinc
      have HBW := Lib.hid hbw
      clear hall hinc hbw
      have bx2 := (HBX'.out.keep HBW.out).at (j := 2) rfl
      have bxl := (HBX'.out.keep HBW.out).lt
      by_cases hlt : k < n
      · obtain ⟨b, o, rfl, hb, c0, c1⟩ := ((HRO.out.keep HW0.out).keep HBW.out).t (i := k) (by have := HLO.out; omega)
        have i0 : (0 : Int) ≤ (k : Int) := by omega
        have i1 : (k : Int) < (n : Int) := by omega
        have HE : Hid ((at2 lO k) = ((at2 lO k).1, (at2 lO k).2)) := Lib.hid rfl
        have hlk : k < lO.length := by have := HLO.out; omega
        go_upto_region 7 with (fail)
        have HT4 := Lib.hid (OW.new wr 27 [.int .i64 (at2 lO k).1, .int .i64 (at2 lO k).2])
        have HBX2 := Lib.hid ((HBX'.out.keep HBW.out).alloc (.cells #[.int .i64 (at2 lO k).1, .int .i64 (at2 lO k).2] 27))
        have HRO2 := Lib.hid (((HRO.out.keep HW0.out).keep HBW.out).keep (bel_a wr (.cells #[.int .i64 (at2 lO k).1, .int .i64 (at2 lO k).2] 27)))
        have HB2 : Hid (Below wa.heap.size wa (wr.alloc (.cells #[.int .i64 (at2 lO k).1, .int .i64 (at2 lO k).2] 27))) := Lib.hid (bel_alloc HBW.out _)
        obtain ⟨wb, hwb⟩ : ∃ wb, wr.alloc (.cells #[.int .i64 (at2 lO k).1, .int .i64 (at2 lO k).2] 27) = wb := ⟨_, rfl⟩
        have HT4' : Hid (OW wb wr.heap.size 27 [.int .i64 (at2 lO k).1, .int .i64 (at2 lO k).2]) := Lib.hid (hwb ▸ HT4.out)
        rw [hwb] at HBX2 HRO2 HB2 ⊢
        obtain ⟨b4, hb4⟩ : ∃ b, wr.heap.size = b := ⟨_, rfl⟩
        rw [hb4] at HT4' ⊢
        clear hwb hb4 HT4 bx2 bxl c0 c1
        have t0 := HT4'.out.at (j := 0) rfl
        have t1 := HT4'.out.at (j := 1) rfl
        have s1 := HBX2.out.at (j := 1) rfl
        have s2 := HBX2.out.at (j := 2) rfl
        have hbe := Below.refl wb.heap.size wb
        have HE' : Hid (vT (at2 lO k) = vT ((at2 lO k).1, (at2 lO k).2)) := Lib.hid rfl
        cases hv : vT (at2 lO k)
        · have HV := Lib.hid hv
          have hres : Hid (false = vB h nx lO lI) := Lib.hid (vB_no fun hx => by have := (hx.2.2.1 k hlk).1; rw [hv] at this; cases this)
          clear hv
          have RC : Hid (∀ W : World, Below wb.heap.size wb W → W.cell? ⟨b4, 0, none⟩ = some (.int .i64 (at2 lO k).1) ∧ W.cell? ⟨b4, 1, none⟩ = some (.int .i64 (at2 lO k).2) ∧ W.cell? ⟨bx, 1, none⟩ = some (.int .i64 nx) ∧ W.cell? ⟨bx, 2, none⟩ = some (.slice (some ⟨b, o, none⟩) n c)) := Lib.hid fun W hW => ⟨old_at t0 hW, old_at t1 hW, old_at s1 hW, old_at s2 hW⟩
          have HCC : Hid (∀ W : World, Below wb.heap.size wb W → Calls Try.prog 29 #[.agg #[.int .i64 (at2 lO k).1, .int .i64 (at2 lO k).2]] W fun e w2 => e = .returned (.bool (vT (at2 lO k))) ∧ Below wb.heap.size wb w2) := Lib.hid fun W hW => (rT _ _ W).mono fun e w2 hh => ⟨hh.1, bel_step hW hh.2⟩
          rw [HV.out] at HCC
          clear t0 t1 s1 s2 hbe
          refine wp_region_cls (fun w9 => Below wb.heap.size wb w9) (by kernel_rfl) (by kernel_rfl) (below_drew (Below.refl _ _)) ?_
          repeat (first
            | go_big_quiet_skip
            | (go_big_quiet_want; first
              | (go_big_quiet_op; go_big_quiet_on)
              | (refine quiet_of_run (.agg #[.int .i64 (at2 lO k).1, .int .i64 (at2 lO k).2]) ?_ ?_; (focus (intro w9 h9; obtain ⟨k0, k1, k2, k3⟩ := RC.out w9 h9; go_simp; done)); go_simp; go_big_quiet_on)
              | (refine quiet_of_run (.int .i64 (at2 lO k).1) ?_ ?_; (focus (intro w9 h9; obtain ⟨k0, k1, k2, k3⟩ := RC.out w9 h9; go_simp; done)); go_simp; go_big_quiet_on)
              | (refine quiet_of_run (.int .i64 nx) ?_ ?_; (focus (intro w9 h9; obtain ⟨k0, k1, k2, k3⟩ := RC.out w9 h9; go_simp; done)); go_simp; go_big_quiet_on)
              | (refine quiet_of_run (.slice (some ⟨b, o, none⟩) n c) ?_ ?_; (focus (intro w9 h9; obtain ⟨k0, k1, k2, k3⟩ := RC.out w9 h9; go_simp; done)); go_simp; go_big_quiet_on)
              | (refine quiet_of_run (.bool true) ?_ ?_; (focus (intro w9 h9; obtain ⟨k0, k1, k2, k3⟩ := RC.out w9 h9; go_simp; done)); go_simp; go_big_quiet_on)
              | (refine quiet_of_run (.bool false) ?_ ?_; (focus (intro w9 h9; obtain ⟨k0, k1, k2, k3⟩ := RC.out w9 h9; go_simp; done)); go_simp; go_big_quiet_on)
              | (refine quiet_of_run (.pointer (some ⟨b4, 0, none⟩)) ?_ ?_; (focus (intro w9 h9; obtain ⟨k0, k1, k2, k3⟩ := RC.out w9 h9; go_simp; done)); go_simp; go_big_quiet_on)
              | (refine quiet_of_run (.pointer (some ⟨bx, 1, none⟩)) ?_ ?_; (focus (intro w9 h9; obtain ⟨k0, k1, k2, k3⟩ := RC.out w9 h9; go_simp; done)); go_simp; go_big_quiet_on)
              | (refine quiet_of_call 29 #[.agg #[.int .i64 (at2 lO k).1, .int .i64 (at2 lO k).2]] _ ?_ HCC.out ?_; (focus (intro w9 h9; go_simp; done)); go_simp; go_big_quiet_on)))
          refine wpQuiet_nil ?_
          intro w9 hbx
          have HBX9 := Lib.hid hbx
          clear hbx
          go_wp2_with fail
          go_ret
          exact ⟨ret_bool hres.out, bel_step HW0.out (bel_step HB2.out HBX9.out)⟩
        · have HV := Lib.hid hv
          clear hv
          by_cases hnx : nx ≤ (at2 lO k).1
          · have hres : Hid (false = vB h nx lO lI) := Lib.hid (vB_no fun hx => by have := (hx.2.2.1 k hlk).2; omega)
            have e7 : decide (nx ≤ (at2 lO k).1) = true := decide_eq_true hnx
            clear hnx
            have RC : Hid (∀ W : World, Below wb.heap.size wb W → W.cell? ⟨b4, 0, none⟩ = some (.int .i64 (at2 lO k).1) ∧ W.cell? ⟨b4, 1, none⟩ = some (.int .i64 (at2 lO k).2) ∧ W.cell? ⟨bx, 1, none⟩ = some (.int .i64 nx) ∧ W.cell? ⟨bx, 2, none⟩ = some (.slice (some ⟨b, o, none⟩) n c)) := Lib.hid fun W hW => ⟨old_at t0 hW, old_at t1 hW, old_at s1 hW, old_at s2 hW⟩
            have HCC : Hid (∀ W : World, Below wb.heap.size wb W → Calls Try.prog 29 #[.agg #[.int .i64 (at2 lO k).1, .int .i64 (at2 lO k).2]] W fun e w2 => e = .returned (.bool (vT (at2 lO k))) ∧ Below wb.heap.size wb w2) := Lib.hid fun W hW => (rT _ _ W).mono fun e w2 hh => ⟨hh.1, bel_step hW hh.2⟩
            rw [HV.out] at HCC
            clear t0 t1 s1 s2 hbe
            refine wp_region_cls (fun w9 => Below wb.heap.size wb w9) (by kernel_rfl) (by kernel_rfl) (below_drew (Below.refl _ _)) ?_
            repeat (first
              | go_big_quiet_skip
              | (go_big_quiet_want; first
                | (go_big_quiet_op; go_big_quiet_on)
                | (refine quiet_of_run (.agg #[.int .i64 (at2 lO k).1, .int .i64 (at2 lO k).2]) ?_ ?_; (focus (intro w9 h9; obtain ⟨k0, k1, k2, k3⟩ := RC.out w9 h9; go_simp; done)); go_simp; go_big_quiet_on)
                | (refine quiet_of_run (.int .i64 (at2 lO k).1) ?_ ?_; (focus (intro w9 h9; obtain ⟨k0, k1, k2, k3⟩ := RC.out w9 h9; go_simp; done)); go_simp; go_big_quiet_on)
                | (refine quiet_of_run (.int .i64 nx) ?_ ?_; (focus (intro w9 h9; obtain ⟨k0, k1, k2, k3⟩ := RC.out w9 h9; go_simp; done)); go_simp; go_big_quiet_on)
                | (refine quiet_of_run (.slice (some ⟨b, o, none⟩) n c) ?_ ?_; (focus (intro w9 h9; obtain ⟨k0, k1, k2, k3⟩ := RC.out w9 h9; go_simp; done)); go_simp; go_big_quiet_on)
                | (refine quiet_of_run (.bool true) ?_ ?_; (focus (intro w9 h9; obtain ⟨k0, k1, k2, k3⟩ := RC.out w9 h9; go_simp; done)); go_simp; go_big_quiet_on)
                | (refine quiet_of_run (.bool false) ?_ ?_; (focus (intro w9 h9; obtain ⟨k0, k1, k2, k3⟩ := RC.out w9 h9; go_simp; done)); go_simp; go_big_quiet_on)
                | (refine quiet_of_run (.pointer (some ⟨b4, 0, none⟩)) ?_ ?_; (focus (intro w9 h9; obtain ⟨k0, k1, k2, k3⟩ := RC.out w9 h9; go_simp; done)); go_simp; go_big_quiet_on)
                | (refine quiet_of_run (.pointer (some ⟨bx, 1, none⟩)) ?_ ?_; (focus (intro w9 h9; obtain ⟨k0, k1, k2, k3⟩ := RC.out w9 h9; go_simp; done)); go_simp; go_big_quiet_on)
                | (refine quiet_of_call 29 #[.agg #[.int .i64 (at2 lO k).1, .int .i64 (at2 lO k).2]] _ ?_ HCC.out ?_; (focus (intro w9 h9; go_simp; done)); go_simp; go_big_quiet_on)))
            refine wpQuiet_nil ?_
            intro w9 hbx
            have HBX9 := Lib.hid hbx
            clear hbx
            go_wp2_with fail
            go_ret
            exact ⟨ret_bool hres.out, bel_step HW0.out (bel_step HB2.out HBX9.out)⟩
          · have e7 : decide (nx ≤ (at2 lO k).1) = false := decide_eq_false hnx
            have HNX := Lib.hid (show (at2 lO k).1 < nx by omega)
            clear hnx
            by_cases hk0 : 0 < k
            · obtain ⟨r, rfl⟩ : ∃ r, k = r + 1 := ⟨k - 1, by omega⟩
              obtain ⟨b', o', e', hb', c2, c3⟩ := HRO2.out.t (i := r) (by omega)
              cases e'
              have z3 : decide ((0 : Int) < (r : Int) + 1) = true := decide_eq_true (by omega)
              have j0 : (0 : Int) ≤ (r : Int) := by omega
              have j1 : (r : Int) < (n : Int) := by omega
              have j2 : (r : Int) + 1 - 1 = (r : Int) := by omega
              have j3 : IntKind.i64.wrap (r : Int) = (r : Int) := IntWalk.i64_in _ (by omega)
              by_cases y4 : (at2 lO (r + 1)).1 ≤ (at2 lO r).1
              · have hres : Hid (false = vB h nx lO lI) := Lib.hid (vB_no fun hx => by have := hx.2.2.2.2.1 r hlk; omega)
                have z4 : decide ((at2 lO (r + 1)).1 ≤ (at2 lO r).1) = true := decide_eq_true y4
                clear y4
                have RC : Hid (∀ W : World, Below wb.heap.size wb W → W.cell? ⟨b4, 0, none⟩ = some (.int .i64 (at2 lO (r + 1)).1) ∧ W.cell? ⟨b4, 1, none⟩ = some (.int .i64 (at2 lO (r + 1)).2) ∧ W.cell? ⟨bx, 1, none⟩ = some (.int .i64 nx) ∧ W.cell? ⟨bx, 2, none⟩ = some (.slice (some ⟨b, o, none⟩) n c) ∧ W.cell? ⟨b, o + r * 2, none⟩ = some (.int .i64 (at2 lO r).1)) := Lib.hid fun W hW => ⟨old_at t0 hW, old_at t1 hW, old_at s1 hW, old_at s2 hW, old_at c2 hW⟩
                have HCC : Hid (∀ W : World, Below wb.heap.size wb W → Calls Try.prog 29 #[.agg #[.int .i64 (at2 lO (r + 1)).1, .int .i64 (at2 lO (r + 1)).2]] W fun e w2 => e = .returned (.bool (vT (at2 lO (r + 1)))) ∧ Below wb.heap.size wb w2) := Lib.hid fun W hW => (rT _ _ W).mono fun e w2 hh => ⟨hh.1, bel_step hW hh.2⟩
                rw [HV.out] at HCC
                clear t0 t1 s1 s2 hbe
                refine wp_region_cls (fun w9 => Below wb.heap.size wb w9) (by kernel_rfl) (by kernel_rfl) (below_drew (Below.refl _ _)) ?_
                repeat (first
                  | go_big_quiet_skip
                  | (go_big_quiet_want; first
                    | (go_big_quiet_op; go_big_quiet_on)
                    | (refine quiet_of_run (.agg #[.int .i64 (at2 lO (r + 1)).1, .int .i64 (at2 lO (r + 1)).2]) ?_ ?_; (focus (intro w9 h9; obtain ⟨k0, k1, k2, k3, k4⟩ := RC.out w9 h9; go_simp; done)); go_simp; go_big_quiet_on)
                    | (refine quiet_of_run (.int .i64 (at2 lO (r + 1)).1) ?_ ?_; (focus (intro w9 h9; obtain ⟨k0, k1, k2, k3, k4⟩ := RC.out w9 h9; go_simp; done)); go_simp; go_big_quiet_on)
                    | (refine quiet_of_run (.int .i64 nx) ?_ ?_; (focus (intro w9 h9; obtain ⟨k0, k1, k2, k3, k4⟩ := RC.out w9 h9; go_simp; done)); go_simp; go_big_quiet_on)
                    | (refine quiet_of_run (.slice (some ⟨b, o, none⟩) n c) ?_ ?_; (focus (intro w9 h9; obtain ⟨k0, k1, k2, k3, k4⟩ := RC.out w9 h9; go_simp; done)); go_simp; go_big_quiet_on)
                    | (refine quiet_of_run (.bool true) ?_ ?_; (focus (intro w9 h9; obtain ⟨k0, k1, k2, k3, k4⟩ := RC.out w9 h9; go_simp; done)); go_simp; go_big_quiet_on)
                    | (refine quiet_of_run (.bool false) ?_ ?_; (focus (intro w9 h9; obtain ⟨k0, k1, k2, k3, k4⟩ := RC.out w9 h9; go_simp; done)); go_simp; go_big_quiet_on)
                    | (refine quiet_of_run (.pointer (some ⟨b4, 0, none⟩)) ?_ ?_; (focus (intro w9 h9; obtain ⟨k0, k1, k2, k3, k4⟩ := RC.out w9 h9; go_simp; done)); go_simp; go_big_quiet_on)
                    | (refine quiet_of_run (.pointer (some ⟨bx, 1, none⟩)) ?_ ?_; (focus (intro w9 h9; obtain ⟨k0, k1, k2, k3, k4⟩ := RC.out w9 h9; go_simp; done)); go_simp; go_big_quiet_on)
                    | (refine quiet_of_run (.int .i64 (at2 lO r).1) ?_ ?_; (focus (intro w9 h9; obtain ⟨k0, k1, k2, k3, k4⟩ := RC.out w9 h9; go_simp; done)); go_simp; go_big_quiet_on)
                    | (refine quiet_of_run (.pointer (some ⟨bx, 2, none⟩)) ?_ ?_; (focus (intro w9 h9; obtain ⟨k0, k1, k2, k3, k4⟩ := RC.out w9 h9; go_simp; done)); go_simp; go_big_quiet_on)
                    | (refine quiet_of_run (.pointer (some ⟨b, o + r * 2, none⟩)) ?_ ?_; (focus (intro w9 h9; obtain ⟨k0, k1, k2, k3, k4⟩ := RC.out w9 h9; go_simp; done)); go_simp; go_big_quiet_on)
                    | (refine quiet_of_run (.int .i64 (r : Int)) ?_ ?_; (focus (intro w9 h9; obtain ⟨k0, k1, k2, k3, k4⟩ := RC.out w9 h9; go_simp; done)); go_simp; go_big_quiet_on)
                    | (refine quiet_of_call 29 #[.agg #[.int .i64 (at2 lO (r + 1)).1, .int .i64 (at2 lO (r + 1)).2]] _ ?_ HCC.out ?_; (focus (intro w9 h9; go_simp; done)); go_simp; go_big_quiet_on)))
                refine wpQuiet_nil ?_
                intro w9 hbx
                have HBX9 := Lib.hid hbx
                clear hbx
                go_wp2_with fail
                go_ret
                exact ⟨ret_bool hres.out, bel_step HW0.out (bel_step HB2.out HBX9.out)⟩
              · have z4 : decide ((at2 lO (r + 1)).1 ≤ (at2 lO r).1) = false := decide_eq_false y4
                have HLT := Lib.hid (show (at2 lO r).1 < (at2 lO (r + 1)).1 by omega)
                clear y4
                have RC : Hid (∀ W : World, Below wb.heap.size wb W → W.cell? ⟨b4, 0, none⟩ = some (.int .i64 (at2 lO (r + 1)).1) ∧ W.cell? ⟨b4, 1, none⟩ = some (.int .i64 (at2 lO (r + 1)).2) ∧ W.cell? ⟨bx, 1, none⟩ = some (.int .i64 nx) ∧ W.cell? ⟨bx, 2, none⟩ = some (.slice (some ⟨b, o, none⟩) n c) ∧ W.cell? ⟨b, o + r * 2, none⟩ = some (.int .i64 (at2 lO r).1)) := Lib.hid fun W hW => ⟨old_at t0 hW, old_at t1 hW, old_at s1 hW, old_at s2 hW, old_at c2 hW⟩
                have HCC : Hid (∀ W : World, Below wb.heap.size wb W → Calls Try.prog 29 #[.agg #[.int .i64 (at2 lO (r + 1)).1, .int .i64 (at2 lO (r + 1)).2]] W fun e w2 => e = .returned (.bool (vT (at2 lO (r + 1)))) ∧ Below wb.heap.size wb w2) := Lib.hid fun W hW => (rT _ _ W).mono fun e w2 hh => ⟨hh.1, bel_step hW hh.2⟩
                rw [HV.out] at HCC
                clear t0 t1 s1 s2 hbe
                refine wp_region_cls (fun w9 => Below wb.heap.size wb w9) (by kernel_rfl) (by kernel_rfl) (below_drew (Below.refl _ _)) ?_
                repeat (first
                  | go_big_quiet_skip
                  | (go_big_quiet_want; first
                    | (go_big_quiet_op; go_big_quiet_on)
                    | (refine quiet_of_run (.agg #[.int .i64 (at2 lO (r + 1)).1, .int .i64 (at2 lO (r + 1)).2]) ?_ ?_; (focus (intro w9 h9; obtain ⟨k0, k1, k2, k3, k4⟩ := RC.out w9 h9; go_simp; done)); go_simp; go_big_quiet_on)
                    | (refine quiet_of_run (.int .i64 (at2 lO (r + 1)).1) ?_ ?_; (focus (intro w9 h9; obtain ⟨k0, k1, k2, k3, k4⟩ := RC.out w9 h9; go_simp; done)); go_simp; go_big_quiet_on)
                    | (refine quiet_of_run (.int .i64 nx) ?_ ?_; (focus (intro w9 h9; obtain ⟨k0, k1, k2, k3, k4⟩ := RC.out w9 h9; go_simp; done)); go_simp; go_big_quiet_on)
                    | (refine quiet_of_run (.slice (some ⟨b, o, none⟩) n c) ?_ ?_; (focus (intro w9 h9; obtain ⟨k0, k1, k2, k3, k4⟩ := RC.out w9 h9; go_simp; done)); go_simp; go_big_quiet_on)
                    | (refine quiet_of_run (.bool true) ?_ ?_; (focus (intro w9 h9; obtain ⟨k0, k1, k2, k3, k4⟩ := RC.out w9 h9; go_simp; done)); go_simp; go_big_quiet_on)
                    | (refine quiet_of_run (.bool false) ?_ ?_; (focus (intro w9 h9; obtain ⟨k0, k1, k2, k3, k4⟩ := RC.out w9 h9; go_simp; done)); go_simp; go_big_quiet_on)
                    | (refine quiet_of_run (.pointer (some ⟨b4, 0, none⟩)) ?_ ?_; (focus (intro w9 h9; obtain ⟨k0, k1, k2, k3, k4⟩ := RC.out w9 h9; go_simp; done)); go_simp; go_big_quiet_on)
                    | (refine quiet_of_run (.pointer (some ⟨bx, 1, none⟩)) ?_ ?_; (focus (intro w9 h9; obtain ⟨k0, k1, k2, k3, k4⟩ := RC.out w9 h9; go_simp; done)); go_simp; go_big_quiet_on)
                    | (refine quiet_of_run (.int .i64 (at2 lO r).1) ?_ ?_; (focus (intro w9 h9; obtain ⟨k0, k1, k2, k3, k4⟩ := RC.out w9 h9; go_simp; done)); go_simp; go_big_quiet_on)
                    | (refine quiet_of_run (.pointer (some ⟨bx, 2, none⟩)) ?_ ?_; (focus (intro w9 h9; obtain ⟨k0, k1, k2, k3, k4⟩ := RC.out w9 h9; go_simp; done)); go_simp; go_big_quiet_on)
                    | (refine quiet_of_run (.pointer (some ⟨b, o + r * 2, none⟩)) ?_ ?_; (focus (intro w9 h9; obtain ⟨k0, k1, k2, k3, k4⟩ := RC.out w9 h9; go_simp; done)); go_simp; go_big_quiet_on)
                    | (refine quiet_of_run (.int .i64 (r : Int)) ?_ ?_; (focus (intro w9 h9; obtain ⟨k0, k1, k2, k3, k4⟩ := RC.out w9 h9; go_simp; done)); go_simp; go_big_quiet_on)
                    | (refine quiet_of_call 29 #[.agg #[.int .i64 (at2 lO (r + 1)).1, .int .i64 (at2 lO (r + 1)).2]] _ ?_ HCC.out ?_; (focus (intro w9 h9; go_simp; done)); go_simp; go_big_quiet_on)))
                refine wpQuiet_nil ?_
                intro w9 hbx
                have HBX9 := Lib.hid hbx
                clear hbx
                go_wp2_with fail
                go_roundw
                case rel => exact ⟨(r + 1) + 1, by omega, by go_num, all_snoc HALL.out ⟨HV.out, HNX.out⟩, (fun i hi => if e : i = r then by subst e; exact HLT.out else HINC.out i (by omega)), bel_step HB2.out HBX9.out⟩
                case measure => simp [intOf] <;> omega
            · obtain rfl : k = 0 := by omega
              have RC : Hid (∀ W : World, Below wb.heap.size wb W → W.cell? ⟨b4, 0, none⟩ = some (.int .i64 (at2 lO 0).1) ∧ W.cell? ⟨b4, 1, none⟩ = some (.int .i64 (at2 lO 0).2) ∧ W.cell? ⟨bx, 1, none⟩ = some (.int .i64 nx) ∧ W.cell? ⟨bx, 2, none⟩ = some (.slice (some ⟨b, o, none⟩) n c)) := Lib.hid fun W hW => ⟨old_at t0 hW, old_at t1 hW, old_at s1 hW, old_at s2 hW⟩
              have HCC : Hid (∀ W : World, Below wb.heap.size wb W → Calls Try.prog 29 #[.agg #[.int .i64 (at2 lO 0).1, .int .i64 (at2 lO 0).2]] W fun e w2 => e = .returned (.bool (vT (at2 lO 0))) ∧ Below wb.heap.size wb w2) := Lib.hid fun W hW => (rT _ _ W).mono fun e w2 hh => ⟨hh.1, bel_step hW hh.2⟩
              rw [HV.out] at HCC
              clear t0 t1 s1 s2 hbe
              refine wp_region_cls (fun w9 => Below wb.heap.size wb w9) (by kernel_rfl) (by kernel_rfl) (below_drew (Below.refl _ _)) ?_
              repeat (first
                | go_big_quiet_skip
                | (go_big_quiet_want; first
                  | (go_big_quiet_op; go_big_quiet_on)
                  | (refine quiet_of_run (.agg #[.int .i64 (at2 lO 0).1, .int .i64 (at2 lO 0).2]) ?_ ?_; (focus (intro w9 h9; obtain ⟨k0, k1, k2, k3⟩ := RC.out w9 h9; go_simp; done)); go_simp; go_big_quiet_on)
                  | (refine quiet_of_run (.int .i64 (at2 lO 0).1) ?_ ?_; (focus (intro w9 h9; obtain ⟨k0, k1, k2, k3⟩ := RC.out w9 h9; go_simp; done)); go_simp; go_big_quiet_on)
                  | (refine quiet_of_run (.int .i64 nx) ?_ ?_; (focus (intro w9 h9; obtain ⟨k0, k1, k2, k3⟩ := RC.out w9 h9; go_simp; done)); go_simp; go_big_quiet_on)
                  | (refine quiet_of_run (.slice (some ⟨b, o, none⟩) n c) ?_ ?_; (focus (intro w9 h9; obtain ⟨k0, k1, k2, k3⟩ := RC.out w9 h9; go_simp; done)); go_simp; go_big_quiet_on)
                  | (refine quiet_of_run (.bool true) ?_ ?_; (focus (intro w9 h9; obtain ⟨k0, k1, k2, k3⟩ := RC.out w9 h9; go_simp; done)); go_simp; go_big_quiet_on)
                  | (refine quiet_of_run (.bool false) ?_ ?_; (focus (intro w9 h9; obtain ⟨k0, k1, k2, k3⟩ := RC.out w9 h9; go_simp; done)); go_simp; go_big_quiet_on)
                  | (refine quiet_of_run (.pointer (some ⟨b4, 0, none⟩)) ?_ ?_; (focus (intro w9 h9; obtain ⟨k0, k1, k2, k3⟩ := RC.out w9 h9; go_simp; done)); go_simp; go_big_quiet_on)
                  | (refine quiet_of_run (.pointer (some ⟨bx, 1, none⟩)) ?_ ?_; (focus (intro w9 h9; obtain ⟨k0, k1, k2, k3⟩ := RC.out w9 h9; go_simp; done)); go_simp; go_big_quiet_on)
                  | (refine quiet_of_call 29 #[.agg #[.int .i64 (at2 lO 0).1, .int .i64 (at2 lO 0).2]] _ ?_ HCC.out ?_; (focus (intro w9 h9; go_simp; done)); go_simp; go_big_quiet_on)))
              refine wpQuiet_nil ?_
              intro w9 hbx
              have HBX9 := Lib.hid hbx
              clear hbx
              go_wp2_with fail
              go_roundw
              case rel => exact ⟨0 + 1, by omega, by go_num, all_snoc HALL.out ⟨HV.out, HNX.out⟩, (fun i hi => by omega), bel_step HB2.out HBX9.out⟩
              case measure => simp [intOf] <;> omega
      · obtain rfl : k = n := by omega
        have bx3 := (HBX'.out.keep HBW.out).at (j := 3) rfl
        go_wp2_with fail
        all_goals (try (exfalso; omega))
        obtain ⟨wf, rfl⟩ : ∃ wf, wf = wr := ⟨_, rfl⟩
        clear bx2
        go_loopw [5] (fun i w2 => ∃ q : Nat, q ≤ m ∧ i = .int .i64 q ∧ (∀ i, i < q → isN (at1 lI i) = true) ∧ (∀ i, i + 1 < q → at1 lI i < at1 lI (i + 1)) ∧ wf = w2) (fun i _ => m - (intOf i).toNat)
        case atStart => exact ⟨0, Nat.zero_le _, rfl, fun i hi => by omega, fun i hi => by omega, rfl⟩
        case round =>
          obtain ⟨q, hq, rfl, hnum, hinq, rfl⟩ := hrel
          have HNUM := Lib.hid hnum
          have HINQ := Lib.hid hinq
          clear hnum hinq
          by_cases hlq : q < m
          · have hlqI : q < lI.length := by have := HLI.out; omega
            obtain ⟨b, o, rfl, hb, c0⟩ := ((HRI.out.keep HW0.out).keep HBW.out).i (i := q) hlqI
            have i0 : (0 : Int) ≤ (q : Int) := by omega
            have i1 : (q : Int) < (m : Int) := by omega
            by_cases y1 : at1 lI q < 1
            · have hres : Hid (false = vB h nx lO lI) := Lib.hid (vB_no fun hx => by have := isN_iff.1 (hx.2.2.2.1 q hlqI); omega)
              go_wp2_with fail
              all_goals (try (exfalso; omega))
              go_ret
              exact ⟨ret_bool hres.out, bel_step HW0.out HBW.out⟩
            · by_cases y2 : 1000000 < at1 lI q
              · have hres : Hid (false = vB h nx lO lI) := Lib.hid (vB_no fun hx => by have := isN_iff.1 (hx.2.2.2.1 q hlqI); omega)
                have z2 : decide (1000000 < at1 lI q) = true := decide_eq_true y2
                go_wp2_with fail
                all_goals (try (exfalso; omega))
                go_ret
                exact ⟨ret_bool hres.out, bel_step HW0.out HBW.out⟩
              · have z2 : decide (1000000 < at1 lI q) = false := decide_eq_false y2
                have HIS : Hid (isN (at1 lI q) = true) := Lib.hid (isN_iff.2 (by omega))
                by_cases y3 : 0 < q
                · obtain ⟨r, rfl⟩ : ∃ r, q = r + 1 := ⟨q - 1, by omega⟩
                  obtain ⟨b', o', e', hb', c1⟩ := ((HRI.out.keep HW0.out).keep HBW.out).i (i := r) (by omega)
                  cases e'
                  have z3 : decide ((0 : Int) < (r : Int) + 1) = true := decide_eq_true (by omega)
                  have j0 : (0 : Int) ≤ (r : Int) := by omega
                  have j1 : (r : Int) < (m : Int) := by omega
                  have j2 : (r : Int) + 1 - 1 = (r : Int) := by omega
                  by_cases y4 : at1 lI (r + 1) ≤ at1 lI r
                  · have hres : Hid (false = vB h nx lO lI) := Lib.hid (vB_no fun hx => by have := hx.2.2.2.2.2 r hlqI; omega)
                    have z4 : decide (at1 lI (r + 1) ≤ at1 lI r) = true := decide_eq_true y4
                    go_wp2_with fail
                    all_goals (try (exfalso; omega))
                    go_ret
                    exact ⟨ret_bool hres.out, bel_step HW0.out HBW.out⟩
                  · have z4 : decide (at1 lI (r + 1) ≤ at1 lI r) = false := decide_eq_false y4
                    have HLT := Lib.hid (show at1 lI r < at1 lI (r + 1) by omega)
                    go_wp2_with fail
                    all_goals (try (exfalso; omega))
                    go_roundw
                    case rel =>
                      refine ⟨r + 1 + 1, by omega, by go_num, all_snoc HNUM.out HIS.out, fun i hi => ?_, by simp⟩
                      by_cases e : i = r
                      · subst e; exact HLT.out
                      · exact HINQ.out i (by omega)
                    case measure => simp [intOf] <;> omega
                · obtain rfl : q = 0 := by omega
                  have c0' := c0
                  rw [Nat.add_zero] at c0'
                  go_wp2_with fail
                  all_goals (try (exfalso; omega))
                  go_roundw
                  case rel => exact ⟨1, by omega, by go_num, all_snoc HNUM.out HIS.out, fun i hi => by omega, by simp⟩
                  case measure => simp [intOf] <;> omega
          · obtain rfl : q = m := by omega
            have hres : Hid (true = vB h nx lO lI) := Lib.hid (vB_iff.2 ⟨G1.out, ⟨by have := HLO.out; omega, by have := HLI.out; omega⟩, fun i hi => HALL.out i (by have := HLO.out; omega), fun i hi => HNUM.out i (by have := HLI.out; omega), fun i hi => HINC.out i (by have := HLO.out; omega), fun i hi => HINQ.out i (by have := HLI.out; omega)⟩).symm
            go_wp2_with fail
            all_goals (try (exfalso; omega))
            go_ret
            exact ⟨ret_bool hres.out, bel_step HW0.out HBW.out⟩
  · have hres : Hid (false = vB h nx lO lI) := Lib.hid (vB_no fun hx => g ⟨hx.1, by have := HLO.out; have := hx.2.1.1; omega, by have := HLI.out; have := hx.2.1.2; omega⟩)
    have hd : h < 0 ∨ (0 ≤ h ∧ 1000 < h) ∨ (0 ≤ h ∧ h ≤ 1000 ∧ nx < 1) ∨ (0 ≤ h ∧ h ≤ 1000 ∧ 1 ≤ nx ∧ 1000001 < nx) ∨ (0 ≤ h ∧ h ≤ 1000 ∧ 1 ≤ nx ∧ nx ≤ 1000001 ∧ 64 < n) ∨ (0 ≤ h ∧ h ≤ 1000 ∧ 1 ≤ nx ∧ nx ≤ 1000001 ∧ n ≤ 64 ∧ 64 < m) := by omega
    clear g
    rcases hd with a1 | ⟨a1, a2⟩ | ⟨a1, a2, a3⟩ | ⟨a1, a2, a3, a4⟩ | ⟨a1, a2, a3, a4, a5⟩ | ⟨a1, a2, a3, a4, a5, a6⟩
    · go_enter Try.func19, Try.ntmps19
      go_wp2_with fail
      all_goals (try (exfalso; omega))
      go_ret
      exact ⟨ret_bool hres.out, HB.out _⟩
    · have e2 : decide (1000 < h) = true := decide_eq_true (by omega)
      go_enter Try.func19, Try.ntmps19
      go_wp2_with fail
      all_goals (try (exfalso; omega))
      go_ret
      exact ⟨ret_bool hres.out, HB.out _⟩
    · have e2 : decide (1000 < h) = false := decide_eq_false (by omega)
      have e3 : decide (nx < 1) = true := decide_eq_true (by omega)
      go_enter Try.func19, Try.ntmps19
      go_wp2_with fail
      all_goals (try (exfalso; omega))
      go_ret
      exact ⟨ret_bool hres.out, HB.out _⟩
    · have e2 : decide (1000 < h) = false := decide_eq_false (by omega)
      have e3 : decide (nx < 1) = false := decide_eq_false (by omega)
      have e4 : decide (1000001 < nx) = true := decide_eq_true (by omega)
      go_enter Try.func19, Try.ntmps19
      go_wp2_with fail
      all_goals (try (exfalso; omega))
      go_ret
      exact ⟨ret_bool hres.out, HB.out _⟩
    · have e2 : decide (1000 < h) = false := decide_eq_false (by omega)
      have e3 : decide (nx < 1) = false := decide_eq_false (by omega)
      have e4 : decide (1000001 < nx) = false := decide_eq_false (by omega)
      have e5 : decide ((64 : Int) < (n : Int)) = true := decide_eq_true (by omega)
      go_enter Try.func19, Try.ntmps19
      go_wp2_with fail
      all_goals (try (exfalso; omega))
      go_ret
      exact ⟨ret_bool hres.out, HB.out _⟩
    · have e2 : decide (1000 < h) = false := decide_eq_false (by omega)
      have e3 : decide (nx < 1) = false := decide_eq_false (by omega)
      have e4 : decide (1000001 < nx) = false := decide_eq_false (by omega)
      have e5 : decide ((64 : Int) < (n : Int)) = false := decide_eq_false (by omega)
      have e6 : decide ((64 : Int) < (m : Int)) = true := decide_eq_true (by omega)
      go_enter Try.func19, Try.ntmps19
      go_wp2_with fail
      all_goals (try (exfalso; omega))
      go_ret
      exact ⟨ret_bool hres.out, HB.out _⟩
end Go.Proofs.Yteeohndgkfilaaa
