/-
  package site: validParts, true of what the reference takes for valid; a set of numbers.
-/
import Derived.Test.YtkhmlbkkdflnoaaSv2
namespace Go.Proofs.Ytkhmlbkkdflnoaa.Nm
open Go.RowKit Go.Proofs.Ytkhmlbkkdflnoaa Go Go.Maps Go.WideMaps
set_option linter.unusedVariables false
attribute [local go_sem ↓] Go.wp_at_zero Go.wp_at_succ

theorem bel_gb {w w' : World} (h : Below w.heap.size w w') : w.grownBy w' none := ⟨h.os, h.tape, h.output, h.size, fun k hk _ => h.block k hk⟩
/-- block b is a set of at most n numbers: just those of S -/
def CM (W : World) (b n : Nat) (S : List Int) : Prop :=
  ∃ D : DataW Unit, W.ownsMap Try.prog 3 (plainElem Try.prog 4) b n D ∧ ∀ x : Int, (Lit.int .i64 x).wf = true → D.atKey (.int .i64 x) (.lit (.bool false)) = .lit (.bool (decide (x ∈ S)))
theorem CM.made (W : World) : CM (W.alloc (.map #[] 0)) W.heap.size 0 [] := ⟨.map [], World.ownsMap_made _ _ _ _, fun x _ => by simp [DataW.atKey]⟩
theorem CM.kept {W W' : World} {b n : Nat} {S : List Int} {row : Option Nat} (h : CM W b n S) (hg : W.grownBy W' row) (hne : some b ≠ row) : CM W' b n S := by
  obtain ⟨D, h1, h2⟩ := h
  exact ⟨D, h1.kept hg (by simpa using hne), h2⟩
theorem CM.keep {W W' : World} {b n : Nat} {S : List Int} (h : CM W b n S) (hb : Below W.heap.size W W') : CM W' b n S := h.kept (bel_gb hb) (by simp)
theorem intLaw : Keyed Try.prog 3 := int_keyed Try.underlying3
set_option maxRecDepth 100000 in
theorem CM.lookup {W : World} {b n : Nat} {S : List Int} (h : CM W b n S) (x : Int) (hw : (Lit.int .i64 x).wf = true) :
    (Instr.lookup 64 (.map (some b)) (.int .i64 x) false).run Try.prog W = .ok (.bool (decide (x ∈ S))) W := by
  obtain ⟨D, h1, h2⟩ := h
  obtain ⟨v, ps, hrun, hv⟩ := h1.lookup intLaw Try.underlying64 (z := .bool false) (by kernel_rfl) (plainElem_bool Try.underlying4 false) (keyOf_int_mk Try.underlying3 hw)
  rw [h2 x hw] at hv
  unfold plainElem at hv
  rw [Try.underlying4] at hv
  cases v <;> simp at hv
  rw [hrun, hv.1]
set_option maxRecDepth 100000 in
theorem CM.update {W : World} {b n : Nat} {S : List Int} (h : CM W b n S) (hn : n < 1000) (x : Int) (hw : (Lit.int .i64 x).wf = true) :
    ∃ W', (Instr.mapUpdate 64 (.map (some b)) (.int .i64 x) (.bool true)).run Try.prog W = .ok () W' ∧ CM W' b (n + 1) (x :: S) ∧ W.grownBy W' (some b) := by
  obtain ⟨D, h1, h2⟩ := h
  obtain ⟨W', hrun, ho, hg⟩ := h1.update intLaw Try.underlying64 (by unfold maxLen; omega) (keyOf_int_mk Try.underlying3 hw) (plainElem_bool Try.underlying4 true)
  refine ⟨W', hrun, ⟨_, ho, fun y hy => ?_⟩, hg⟩
  by_cases e : y = x
  · rw [e, atKey_put_same h1.isMap (intLaw.key (keyOf_int_mk Try.underlying3 hw))]
    simp
  · rw [atKey_put_other (fun h => e (by injection h)), h2 y hy]
    simp [e]
theorem wpList_lookup_CM (w : World) {ops : Array Oper} {rest : List Oper} {o : Oper} {a : Act} {Q : Exit → Act → World → Prop}
    (hg : o.guard = none) (m x : Operand) (hop : o.op = Op.lookup 64 m x false) (b n : Nat) (S : List Int) (hm : a.eval m = .map (some b)) (hS : CM w b n S) (p : Int) (hx : a.eval x = .int .i64 p) (hw : (Lit.int .i64 p).wf = true)
    (hK : wpList Try.prog ops Q rest (a.put o.dst (.bool (decide (p ∈ S)))) w) : wpList Try.prog ops Q (o :: rest) a w := by
  refine wpList_plain hg fun K' hK' => ?_
  have hrun := hS.lookup p hw
  unfold Oper.wp
  simp [execOp, hop, hm, hx, hrun, Result.andThen]
  exact hK' _ _ hK
theorem wpList_lookup_CMg (w : World) {ops : Array Oper} {rest : List Oper} {o : Oper} {a : Act} {Q : Exit → Act → World → Prop}
    (hg : Region.wanted o (yielded ops a.tmps) = true) (m x : Operand) (hop : o.op = Op.lookup 64 m x false) (b n : Nat) (S : List Int) (hm : a.eval m = .map (some b)) (hS : CM w b n S) (p : Int) (hx : a.eval x = .int .i64 p) (hw : (Lit.int .i64 p).wf = true)
    (hK : wpList Try.prog ops Q rest (a.put o.dst (.bool (decide (p ∈ S)))) w) : wpList Try.prog ops Q (o :: rest) a w := by
  refine wpList_step fun K' hK' => ?_
  simp only [hg, if_true]
  have hrun := hS.lookup p hw
  unfold Oper.wp
  simp [execOp, hop, hm, hx, hrun, Result.andThen]
  exact hK' _ _ hK
theorem wpList_update_CM (w : World) {ops : Array Oper} {rest : List Oper} {o : Oper} {a : Act} {Q : Exit → Act → World → Prop}
    (hg : o.guard = none) (m x y : Operand) (hop : o.op = Op.mapUpdate 64 m x y) (b n : Nat) (S : List Int) (hm : a.eval m = .map (some b)) (hS : CM w b n S) (hn : n < 1000) (p : Int) (hx : a.eval x = .int .i64 p) (hy : a.eval y = .bool true) (hw : (Lit.int .i64 p).wf = true)
    (hK : ∀ w', CM w' b (n + 1) (p :: S) → w.grownBy w' (some b) → wpList Try.prog ops Q rest (a.put o.dst undef) w') : wpList Try.prog ops Q (o :: rest) a w := by
  refine wpList_plain hg fun K' hK' => ?_
  obtain ⟨w', hrun, h1, h2⟩ := hS.update hn p hw
  unfold Oper.wp
  simp [execOp, hop, hm, hx, hy, hrun, Result.andThen]
  exact hK' _ _ (hK w' h1 h2)
theorem wf64 {x : Int} (h0 : 0 ≤ x) (h1 : x ≤ 1000000) : (Lit.int .i64 x).wf = true := by
  simp [Lit.wf, IntKind.min, IntKind.max, IntKind.signed, IntKind.bits]
  omega
/-- the numbers of the first k -/
def upto (f : Nat → Int) : Nat → List Int
  | 0 => []
  | k + 1 => f k :: upto f k
theorem upto_mem {f : Nat → Int} {k : Nat} {x : Int} : x ∈ upto f k ↔ ∃ i, i < k ∧ f i = x := by
  induction k with
  | zero => simp [upto]
  | succ k ih =>
    simp only [upto, List.mem_cons, ih]
    constructor
    · rintro (h | ⟨i, hi, h⟩)
      · exact ⟨k, by omega, h.symm⟩
      · exact ⟨i, by omega, h⟩
    · rintro ⟨i, hi, h⟩
      rcases Nat.lt_or_ge i k with h' | h'
      · exact .inr ⟨i, h', h⟩
      · obtain rfl : i = k := by omega
        exact .inl h.symm
set_option maxRecDepth 100000 in
set_option maxHeartbeats 8000000 in
theorem vparts_yes (S : Sit) (A0 A1 A2 A3 A4 : Option Addr) (a0 : S.A 0 = A0) (a1 : S.A 1 = A1) (a2 : S.A 2 = A2) (a3 : S.A 3 = A3) (a4 : S.A 4 = A4) (w : World) (hM : SM5 w S) (hP : SitP S) :
    Calls Try.prog 113 #[.agg #[.slice A0 (S.n 0) (S.c 0), .slice A1 (S.n 1) (S.c 1), .slice A2 (S.n 2) (S.c 2), .slice A3 (S.n 3) (S.c 3), .slice A4 (S.n 4) (S.c 4)]] w fun e w' => e = .returned (.bool true) ∧ Below w.heap.size w w' := by
  have HM := Lib.hid hM
  have HP := Lib.hid hP
  obtain ⟨⟨p0, p1⟩, p2, p3, p4, p5⟩ := hP.sizes
  have HVH : Hid (∀ m, m < S.n 3 → ∀ W, Calls Try.prog 138 #[.agg #[.slice A0 (S.n 0) (S.c 0), .slice A1 (S.n 1) (S.c 1), .slice A2 (S.n 2) (S.c 2), .slice A3 (S.n 3) (S.c 3), .slice A4 (S.n 4) (S.c 4)], .agg #[.string (S.N 3 m), .int .i64 (S.Z 3 m 1), .int .i64 (S.Z 3 m 2), .int .i64 (S.Z 3 m 3), .int .i64 (S.Z 3 m 4), .int .i64 (S.Z 3 m 5), .int .i64 (S.Z 3 m 6), .int .i64 (S.Z 3 m 7)]] W fun e w' => e = .returned (.bool true) ∧ Below W.heap.size W w') := Lib.hid fun m hm W => by
    obtain ⟨g1, ⟨g2, g3⟩, g4, g5⟩ := hP.chr m hm
    have hv := vchr_yes S (S.N 3 m) (S.Z 3 m) W g1 (by omega) (by omega) g2 g3 g4 g5
    rw [a0, a1, a2, a3, a4] at hv
    exact hv
  have AA := Lib.hid (And.intro a0 (And.intro a1 (And.intro a2 (And.intro a3 a4))))
  clear hM hP a0 a1 a2 a3 a4
  go_enter Try.func113, Try.ntmps113
  go_upto_region 1 with fail
  refine nameW ?_
  intro W0 hW0
  have HB0 : Hid (Below w.heap.size w W0) := Lib.hid (by rw [← hW0]; exact (Below.refl _ _).alloc (Nat.le_refl _) _)
  have HS0 : Hid (W0.heap.size = w.heap.size + 1) := Lib.hid (by rw [← hW0]; simp)
  have HD' : Hid (∀ W : World, Below W0.heap.size W0 W → W.cell? ⟨w.heap.size, 0, none⟩ = some (.slice A0 (S.n 0) (S.c 0)) ∧ W.cell? ⟨w.heap.size, 1, none⟩ = some (.slice A1 (S.n 1) (S.c 1)) ∧ W.cell? ⟨w.heap.size, 2, none⟩ = some (.slice A2 (S.n 2) (S.c 2)) ∧ W.cell? ⟨w.heap.size, 3, none⟩ = some (.slice A3 (S.n 3) (S.c 3)) ∧ W.cell? ⟨w.heap.size, 4, none⟩ = some (.slice A4 (S.n 4) (S.c 4))) := Lib.hid fun W hW => by
    refine ⟨?_, ?_, ?_, ?_, ?_⟩ <;> (refine old_at ?_ hW; rw [← hW0]; simp)
  have HE : Hid (∀ W, Below W0.heap.size W0 W → SM5 W S) := Lib.hid fun W h => (HM.out.keep HB0.out).keep h
  have HF : Hid (∀ W W', Below W0.heap.size W0 W → Below W.heap.size W W' → Below W0.heap.size W0 W') := Lib.hid fun W W' h h' => h.trans (h'.mono h.size)
  have HG : Hid (∀ W, Below W0.heap.size W0 W → Below w.heap.size w W) := Lib.hid fun W h => HB0.out.trans (h.mono HB0.out.size)
  have HSW : Hid (∀ W, Below W0.heap.size W0 W → w.heap.size < W.heap.size) := Lib.hid fun W h => by have h1 := h.size; have h2 := HS0.out; omega
  have hb0 : Below W0.heap.size W0 W0 := Below.refl _ _
  clear HB0 HM hW0
  obtain ⟨d0, d1, d2, d3, d4⟩ := HD'.out W0 hb0
  go_wp2_with fail
  go_loopw [15] (fun i wr => ∃ k : Nat, k ≤ S.n 0 ∧ i = .int .i64 k ∧ Below W0.heap.size W0 wr) (fun i _ => S.n 0 - (intOf i).toNat)
  case atStart => exact ⟨0, by omega, rfl, hb0⟩
  case round =>
    obtain ⟨k, hk, rfl, hb⟩ := hrel
    obtain ⟨wa, hwwa⟩ : ∃ x, x = wr := ⟨_, rfl⟩
    subst hwwa
    have HBa := Lib.hid hb
    clear hb hb0 d0 d1 d2 d3 d4
    obtain ⟨d0, d1, d2, d3, d4⟩ := HD'.out wa HBa.out
    by_cases hlt : k < S.n 0
    · obtain ⟨b, o, hA, hl, hs, hz⟩ := (HE.out wa HBa.out).rows 0 (by decide) k hlt
      obtain rfl : A0 = _ := AA.out.1.symm.trans hA
      have c0 : wa.cell? ⟨b, o + k * 11, none⟩ = some (.string (S.N 0 k)) := hs
      have c1 : wa.cell? ⟨b, o + k * 11 + 1, none⟩ = some (.int .i64 (S.Z 0 k 1)) := hz 1 (by decide) (by decide)
      have c2 : wa.cell? ⟨b, o + k * 11 + 2, none⟩ = some (.int .i64 (S.Z 0 k 2)) := hz 2 (by decide) (by decide)
      have c3 : wa.cell? ⟨b, o + k * 11 + 3, none⟩ = some (.int .i64 (S.Z 0 k 3)) := hz 3 (by decide) (by decide)
      have c4 : wa.cell? ⟨b, o + k * 11 + 4, none⟩ = some (.int .i64 (S.Z 0 k 4)) := hz 4 (by decide) (by decide)
      have c5 : wa.cell? ⟨b, o + k * 11 + 5, none⟩ = some (.int .i64 (S.Z 0 k 5)) := hz 5 (by decide) (by decide)
      have c6 : wa.cell? ⟨b, o + k * 11 + 6, none⟩ = some (.int .i64 (S.Z 0 k 6)) := hz 6 (by decide) (by decide)
      have c7 : wa.cell? ⟨b, o + k * 11 + 7, none⟩ = some (.int .i64 (S.Z 0 k 7)) := hz 7 (by decide) (by decide)
      have c8 : wa.cell? ⟨b, o + k * 11 + 8, none⟩ = some (.int .i64 (S.Z 0 k 8)) := hz 8 (by decide) (by decide)
      have c9 : wa.cell? ⟨b, o + k * 11 + 9, none⟩ = some (.int .i64 (S.Z 0 k 9)) := hz 9 (by decide) (by decide)
      have c10 : wa.cell? ⟨b, o + k * 11 + 10, none⟩ = some (.int .i64 (S.Z 0 k 10)) := hz 10 (by decide) (by decide)
      have HVC : Hid (∀ W, Calls Try.prog 136 #[.agg #[.string (S.N 0 k), .int .i64 (S.Z 0 k 1), .int .i64 (S.Z 0 k 2), .int .i64 (S.Z 0 k 3), .int .i64 (S.Z 0 k 4), .int .i64 (S.Z 0 k 5), .int .i64 (S.Z 0 k 6), .int .i64 (S.Z 0 k 7), .int .i64 (S.Z 0 k 8), .int .i64 (S.Z 0 k 9), .int .i64 (S.Z 0 k 10)], .int .i64 (k : Int)] W fun e w' => e = .returned (.bool true) ∧ Below W.heap.size W w') := Lib.hid fun W => by
        obtain ⟨⟨g1, g2⟩, ⟨g3, g4⟩, g5, g6, g7, g8⟩ := HP.out.con k hlt
        exact vcon_yes _ _ _ _ _ _ _ _ _ _ _ _ W (by omega) (by omega) g1 g2 g3 g4 g5 g6 g7 g8
      have HAL : Hid (∀ o W', Below (wa.alloc o).heap.size (wa.alloc o) W' → Below W0.heap.size W0 W') := Lib.hid fun o W' h => HF.out _ _ (HBa.out.alloc (by have := HBa.out.size; omega) o) h
      clear hz hs hA
      go_wp2_with (go_at_call 136; with_reducible refine (HVC.out _).mono ?_; rintro e w2 ⟨rfl, hb2⟩)
      all_goals (try (exfalso; omega))
      go_roundw
      case rel => exact ⟨k + 1, by omega, by go_num, HAL.out _ _ hb2⟩
      case measure => simp [intOf] <;> omega
    · go_upto_region 8 with fail
      all_goals (try (exfalso; omega))
      refine nameW ?_
      intro wm hwm
      have HMM : Hid (CM wm wa.heap.size 0 []) := Lib.hid (by rw [← hwm]; exact CM.made wa)
      have HBm : Hid (Below wa.heap.size wa wm) := Lib.hid (by rw [← hwm]; exact bel_alloc (Below.refl _ _) _)
      clear hwm d0 d1 d2 d3 d4
      obtain ⟨d0, d1, d2, d3, d4⟩ := HD'.out wm (HF.out _ _ HBa.out HBm.out)
      obtain ⟨bm, hbm⟩ : ∃ x, wa.heap.size = x := ⟨_, rfl⟩
      rw [hbm] at HMM
      have HBN : Hid (Below bm wa wm) := Lib.hid (by rw [← hbm]; exact HBm.out)
      have HFa : Hid (∀ W, Below bm wa W → Below W0.heap.size W0 W) := Lib.hid fun W h => HF.out _ _ HBa.out (by rw [hbm]; exact h)
      simp only [hbm]
      have hbma : bm ≤ wm.heap.size := by rw [← hbm]; exact HBm.out.size
      clear HBm hlt
      go_wp2_with fail
      go_loopw [29] (fun i wr => ∃ q : Nat, q ≤ S.n 2 ∧ i = .int .i64 q ∧ CM wr bm q (upto (fun i => S.Z 2 i 3) q) ∧ Below bm wa wr ∧ bm ≤ wr.heap.size) (fun i _ => S.n 2 - (intOf i).toNat)
      case atStart => exact ⟨0, by omega, rfl, HMM.out, HBN.out, hbma⟩
      case round =>
        obtain ⟨q, hq, rfl, hcm, hb, hbs⟩ := hrel
        obtain ⟨wb, hwb⟩ : ∃ x, x = wr := ⟨_, rfl⟩
        subst hwb
        have HBb := Lib.hid hb
        have HCM := Lib.hid hcm
        have HB0b := Lib.hid (HFa.out _ hb)
        clear hb hcm d0 d1 d2 d3 d4 hbma HMM HBN
        obtain ⟨d0, d1, d2, d3, d4⟩ := HD'.out wb HB0b.out
        by_cases hlt : q < S.n 2
        · obtain ⟨b, o, hA, hl, hs, hz⟩ := (HE.out wb HB0b.out).rows 2 (by decide) q hlt
          obtain rfl : A2 = _ := AA.out.2.2.1.symm.trans hA
          have c0 : wb.cell? ⟨b, o + q * 4, none⟩ = some (.string (S.N 2 q)) := hs
          have c1 : wb.cell? ⟨b, o + q * 4 + 1, none⟩ = some (.int .i64 (S.Z 2 q 1)) := hz 1 (by decide) (by decide)
          have c2 : wb.cell? ⟨b, o + q * 4 + 2, none⟩ = some (.int .i64 (S.Z 2 q 2)) := hz 2 (by decide) (by decide)
          have c3 : wb.cell? ⟨b, o + q * 4 + 3, none⟩ = some (.int .i64 (S.Z 2 q 3)) := hz 3 (by decide) (by decide)
          clear hz hs hA
          go_upto_region 11 with fail
          all_goals (try (exfalso; omega))
          refine nameW ?_
          intro wc hwc
          have HAc : Hid (Below wb.heap.size wb wc) := Lib.hid (by rw [← hwc]; exact bel_alloc (Below.refl _ _) _)
          have hk : wc.cell? ⟨wb.heap.size, 0, none⟩ = some (.string (S.N 2 q)) ∧ wc.cell? ⟨wb.heap.size, 1, none⟩ = some (.int .i64 (S.Z 2 q 1)) ∧ wc.cell? ⟨wb.heap.size, 2, none⟩ = some (.int .i64 (S.Z 2 q 2)) ∧ wc.cell? ⟨wb.heap.size, 3, none⟩ = some (.int .i64 (S.Z 2 q 3)) := by
            refine ⟨?_, ?_, ?_, ?_⟩ <;> (rw [← hwc]; simp)
          have HK : Hid (∀ W, Below wc.heap.size wc W → (W.cell? ⟨w.heap.size, 0, none⟩ = some (.slice A0 (S.n 0) (S.c 0)) ∧ W.cell? ⟨w.heap.size, 1, none⟩ = some (.slice A1 (S.n 1) (S.c 1)) ∧ W.cell? ⟨w.heap.size, 2, none⟩ = some (.slice (some ⟨b, o, none⟩) (S.n 2) (S.c 2)) ∧ W.cell? ⟨w.heap.size, 3, none⟩ = some (.slice A3 (S.n 3) (S.c 3)) ∧ W.cell? ⟨w.heap.size, 4, none⟩ = some (.slice A4 (S.n 4) (S.c 4))) ∧ W.cell? ⟨wb.heap.size, 0, none⟩ = some (.string (S.N 2 q)) ∧ W.cell? ⟨wb.heap.size, 1, none⟩ = some (.int .i64 (S.Z 2 q 1)) ∧ W.cell? ⟨wb.heap.size, 2, none⟩ = some (.int .i64 (S.Z 2 q 2)) ∧ W.cell? ⟨wb.heap.size, 3, none⟩ = some (.int .i64 (S.Z 2 q 3))) := Lib.hid fun W hW => by
            obtain ⟨g0, g1, g2, g3⟩ := hk
            exact ⟨HD'.out W (HF.out _ _ HB0b.out (HAc.out.trans (hW.mono HAc.out.size))), old_at g0 hW, old_at g1 hW, old_at g2 hW, old_at g3 hW⟩
          have HKM : Hid (∀ W, Below wc.heap.size wc W → CM W bm q (upto (fun i => S.Z 2 i 3) q)) := Lib.hid fun W hW => (HCM.out.keep HAc.out).keep hW
          have HT : Hid (∀ W W', Below wc.heap.size wc W → Below W.heap.size W W' → Below wc.heap.size wc W') := Lib.hid fun W W' a b => a.trans (b.mono a.size)
          have HBC : Hid (∀ W, Below wc.heap.size wc W → Below bm wa W ∧ bm ≤ W.heap.size) := Lib.hid fun W hW => by
            have h1 : Below wb.heap.size wb W := HAc.out.trans (hW.mono HAc.out.size)
            exact ⟨HBb.out.trans (h1.mono hbs), Nat.le_trans hbs h1.size⟩
          have HB3 : Hid (Below wc.heap.size wc wc) := Lib.hid (Below.refl _ _)
          obtain ⟨⟨⟨g1, g2⟩, ⟨g3, g4⟩, g5, g6⟩, g7⟩ := HP.out.ctr q hlt
          have HWF : Hid ((Lit.int .i64 (S.Z 2 q 3)).wf = true) := Lib.hid (wf64 (by omega) g6)
          have HNO : Hid (decide (S.Z 2 q 3 ∈ upto (fun i => S.Z 2 i 3) q) = false) := Lib.hid (by
            rw [decide_eq_false_iff_not, upto_mem]
            rintro ⟨i, hi, e⟩
            exact g7 i hi e)
          have hw1 : IntKind.i64.wrap ((S.n 1 : Int) - 1) = (S.n 1 : Int) - 1 := IntWalk.i64_in _ (by omega)
          clear hk hwc g7 d0 d1 d2 d3 d4 c0 c1 c2 c3
          obtain ⟨⟨d0, d1, d2, d3, d4⟩, c0, c1, c2, c3⟩ := HK.out wc HB3.out
          go_upto_region 14 with (first
            | (go_at_call 137; refine (holds_yes _ _ _ _ (by omega) (by omega)).mono ?_; rintro e w3 ⟨rfl, hb1⟩; have HB3 := Lib.hid (HT.out _ _ (by with_reducible exact Hid.out (by assumption)) hb1); clear hb1 d0 d1 d2 d3 d4 c0 c1 c2 c3; obtain ⟨⟨d0, d1, d2, d3, d4⟩, c0, c1, c2, c3⟩ := HK.out w3 HB3.out)
            | (at_lookup; refine wpList_lookup_CMg _ rfl _ _ rfl bm q _ rfl (HKM.out _ HB3.out) _ rfl HWF.out ?_; rw [HNO.out])
            | (at_mapUpdate; refine wpList_update_CM _ rfl _ _ _ rfl bm q _ rfl (HKM.out _ HB3.out) (by omega) _ rfl rfl HWF.out ?_; intro wM hCM hgM))
          all_goals (try (exfalso; omega))
          obtain ⟨hx1, hx2⟩ := HBC.out _ HB3.out
          have HCX := Lib.hid hCM
          have HBX : Hid (Below bm wa wM ∧ bm ≤ wM.heap.size) := Lib.hid ⟨hx1.grown hgM hx2 (by intro r e; cases e; exact Nat.le_refl _), Nat.le_trans hx2 hgM.size⟩
          clear hCM hgM hx1 hx2
          go_wp2_with fail
          go_roundw
          case rel => exact ⟨q + 1, by omega, by go_num, HCX.out, HBX.out.1, HBX.out.2⟩
          case measure => simp [intOf] <;> omega
        · go_wp2_with fail
          all_goals (try (exfalso; omega))
          go_loopw [69] (fun i wr => ∃ m : Nat, m ≤ S.n 3 ∧ i = .int .i64 m ∧ Below W0.heap.size W0 wr) (fun i _ => S.n 3 - (intOf i).toNat)
          case atStart => exact ⟨0, by omega, rfl, HB0b.out⟩
          case round =>
            obtain ⟨m, hm, rfl, hb⟩ := hrel
            obtain ⟨wd, hwd⟩ : ∃ x, x = wr := ⟨_, rfl⟩
            subst hwd
            have HBd := Lib.hid hb
            clear hb d0 d1 d2 d3 d4
            obtain ⟨d0, d1, d2, d3, d4⟩ := HD'.out wd HBd.out
            by_cases hlm : m < S.n 3
            · obtain ⟨b, o, hA, hl, hs, hz⟩ := (HE.out wd HBd.out).rows 3 (by decide) m hlm
              have HVK := Lib.hid (HVH.out m hlm)
              obtain rfl : A3 = _ := AA.out.2.2.2.1.symm.trans hA
              have c0 : wd.cell? ⟨b, o + m * 8, none⟩ = some (.string (S.N 3 m)) := hs
              have c1 : wd.cell? ⟨b, o + m * 8 + 1, none⟩ = some (.int .i64 (S.Z 3 m 1)) := hz 1 (by decide) (by decide)
              have c2 : wd.cell? ⟨b, o + m * 8 + 2, none⟩ = some (.int .i64 (S.Z 3 m 2)) := hz 2 (by decide) (by decide)
              have c3 : wd.cell? ⟨b, o + m * 8 + 3, none⟩ = some (.int .i64 (S.Z 3 m 3)) := hz 3 (by decide) (by decide)
              have c4 : wd.cell? ⟨b, o + m * 8 + 4, none⟩ = some (.int .i64 (S.Z 3 m 4)) := hz 4 (by decide) (by decide)
              have c5 : wd.cell? ⟨b, o + m * 8 + 5, none⟩ = some (.int .i64 (S.Z 3 m 5)) := hz 5 (by decide) (by decide)
              have c6 : wd.cell? ⟨b, o + m * 8 + 6, none⟩ = some (.int .i64 (S.Z 3 m 6)) := hz 6 (by decide) (by decide)
              have c7 : wd.cell? ⟨b, o + m * 8 + 7, none⟩ = some (.int .i64 (S.Z 3 m 7)) := hz 7 (by decide) (by decide)
              clear hz hs hA
              go_upto_region 18 with fail
              all_goals (try (exfalso; omega))
              refine nameW ?_
              intro we hwe
              have HAe : Hid (Below wd.heap.size wd we) := Lib.hid (by rw [← hwe]; exact bel_alloc (Below.refl _ _) _)
              have hk : we.cell? ⟨wd.heap.size, 0, none⟩ = some (.string (S.N 3 m)) ∧ we.cell? ⟨wd.heap.size, 1, none⟩ = some (.int .i64 (S.Z 3 m 1)) ∧ we.cell? ⟨wd.heap.size, 2, none⟩ = some (.int .i64 (S.Z 3 m 2)) ∧ we.cell? ⟨wd.heap.size, 3, none⟩ = some (.int .i64 (S.Z 3 m 3)) ∧ we.cell? ⟨wd.heap.size, 4, none⟩ = some (.int .i64 (S.Z 3 m 4)) ∧ we.cell? ⟨wd.heap.size, 5, none⟩ = some (.int .i64 (S.Z 3 m 5)) ∧ we.cell? ⟨wd.heap.size, 6, none⟩ = some (.int .i64 (S.Z 3 m 6)) ∧ we.cell? ⟨wd.heap.size, 7, none⟩ = some (.int .i64 (S.Z 3 m 7)) := by
                refine ⟨?_, ?_, ?_, ?_, ?_, ?_, ?_, ?_⟩ <;> (rw [← hwe]; simp)
              have HBe := Lib.hid (HF.out _ _ HBd.out HAe.out)
              clear hwe d0 d1 d2 d3 d4 c0 c1 c2 c3 c4 c5 c6 c7
              obtain ⟨c0, c1, c2, c3, c4, c5, c6, c7⟩ := hk
              obtain ⟨d0, d1, d2, d3, d4⟩ := HD'.out we HBe.out
              go_wp2_with (go_at_call 138; with_reducible refine (HVK.out _).mono ?_; rintro e w2 ⟨rfl, hb2⟩)
              all_goals (try (exfalso; omega))
              go_roundw
              case rel => exact ⟨m + 1, by omega, by go_num, HF.out _ _ HBe.out hb2⟩
              case measure => simp [intOf] <;> omega
            · go_wp2_with fail
              all_goals (try (exfalso; omega))
              go_loopw [81] (fun i wr => ∃ p : Nat, p ≤ S.n 4 ∧ i = .int .i64 p ∧ Below W0.heap.size W0 wr) (fun i _ => S.n 4 - (intOf i).toNat)
              case atStart => exact ⟨0, by omega, rfl, HBd.out⟩
              case round =>
                obtain ⟨p, hp, rfl, hb⟩ := hrel
                obtain ⟨we, hwe⟩ : ∃ x, x = wr := ⟨_, rfl⟩
                subst hwe
                have HBe := Lib.hid hb
                clear hb d0 d1 d2 d3 d4
                obtain ⟨d0, d1, d2, d3, d4⟩ := HD'.out we HBe.out
                by_cases hlp : p < S.n 4
                · obtain ⟨b, o, hA, hl, hs, hz⟩ := (HE.out we HBe.out).rows 4 (by decide) p hlp
                  obtain rfl : A4 = _ := AA.out.2.2.2.2.symm.trans hA
                  have c0 : we.cell? ⟨b, o + p * 2, none⟩ = some (.string (S.N 4 p)) := hs
                  have c1 : we.cell? ⟨b, o + p * 2 + 1, none⟩ = some (.int .i64 (S.Z 4 p 1)) := hz 1 (by decide) (by decide)
                  have hw1 : IntKind.i64.wrap ((S.n 3 : Int) - 1) = (S.n 3 : Int) - 1 := IntWalk.i64_in _ (by omega)
                  obtain ⟨g1, g2⟩ := HP.out.bay p hlp
                  have hsb := HSW.out we HBe.out
                  have HAL : Hid (∀ o W', Below (we.alloc o).heap.size (we.alloc o) W' → Below W0.heap.size W0 W') := Lib.hid fun o W' h => HF.out _ _ (HBe.out.alloc (by have := HBe.out.size; omega) o) h
                  clear hz hs hA
                  go_wp2_with (go_at_call 137; refine (holds_yes _ _ _ _ (by omega) (by omega)).mono ?_; rintro e w2 ⟨rfl, hb2⟩)
                  all_goals (try (exfalso; omega))
                  go_roundw
                  case rel => exact ⟨p + 1, by omega, by go_num, HAL.out _ _ hb2⟩
                  case measure => simp [intOf] <;> omega
                · go_wp2_with fail
                  all_goals (try (exfalso; omega))
                  go_ret
                  exact ⟨rfl, HG.out _ HBe.out⟩
end Go.Proofs.Ytkhmlbkkdflnoaa.Nm
