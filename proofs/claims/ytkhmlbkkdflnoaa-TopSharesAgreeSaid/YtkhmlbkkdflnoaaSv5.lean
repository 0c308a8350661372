/-
  package site: Valid is true of what the reference takes for valid.
-/
import Derived.Test.YtkhmlbkkdflnoaaSv4
import Derived.RangeFuncOwn
namespace Go.Proofs.Ytkhmlbkkdflnoaa.Nm
open Go.RowKit Go.Proofs.Ytkhmlbkkdflnoaa Go Go.Maps Go.WideMaps
set_option linter.unusedVariables false
attribute [local go_sem ↓] Go.wp_at_zero Go.wp_at_succ

theorem TM.keep {W W' : World} {b n : Nat} {S : List (List UInt8)} (h : TM W b n S) (hb : Below W.heap.size W W') : TM W' b n S := h.kept (bel_gb hb) (by simp)
theorem TM.obj {W : World} {b n : Nat} {S : List (List UInt8)} (h : TM W b n S) : ∃ o, W.heap[b]? = some o ∧ o.isCells = false := by
  obtain ⟨D, ⟨es, cl, hb, _⟩, _⟩ := h
  exact ⟨_, hb, rfl⟩
theorem RS.turn {W W' : World} {A : Option Addr} {n bm : Nat} {L : Nat → ByteArray} (h : RS W A n L) (hm : ∃ o, W.heap[bm]? = some o ∧ o.isCells = false) (hg : W.grownBy W' (some bm)) : RS W' A n L := fun i hi => by
  obtain ⟨b, o, e, hl, hc⟩ := h i hi
  exact ⟨b, o, e, Nat.lt_of_lt_of_le hl hg.size, cell_kept hc hg (fun r e => by cases e; exact hm)⟩
theorem wpList_lookup_TMg (w : World) {ops : Array Oper} {rest : List Oper} {o : Oper} {a : Act} {Q : Exit → Act → World → Prop}
    (hg : Region.wanted o (yielded ops a.tmps) = true) (m x : Operand) (hop : o.op = Op.lookup 199 m x false) (b n : Nat) (S : List (List UInt8)) (hm : a.eval m = .map (some b)) (hS : TM w b n S) (p : ByteArray) (hx : a.eval x = .string p) (hw : p.size ≤ maxLen)
    (hK : wpList Try.prog ops Q rest (a.put o.dst (.bool (decide (p.data.toList ∈ S)))) w) : wpList Try.prog ops Q (o :: rest) a w := by
  refine wpList_step fun K' hK' => ?_
  simp only [hg, if_true]
  have hrun := hS.lookup p hw
  unfold Oper.wp
  simp [execOp, hop, hm, hx, hrun, Result.andThen]
  exact hK' _ _ hK
/-- the texts of the first k -/
def uptoL (f : Nat → ByteArray) : Nat → List (List UInt8)
  | 0 => []
  | k + 1 => (f k).data.toList :: uptoL f k
theorem uptoL_mem {f : Nat → ByteArray} {k : Nat} {x : List UInt8} : x ∈ uptoL f k → ∃ i, i < k ∧ (f i).data.toList = x := by
  induction k with
  | zero => simp [uptoL]
  | succ k ih =>
    simp only [uptoL, List.mem_cons]
    rintro (h | h)
    · exact ⟨k, by omega, h.symm⟩
    · obtain ⟨i, hi, h⟩ := ih h
      exact ⟨i, by omega, h⟩
theorem text_ext {a b : ByteArray} (h : a.data.toList = b.data.toList) : a = b := by
  cases a
  cases b
  congr
  exact Array.toList_inj.1 h
theorem once_no {l : List ByteArray} (h : l.Pairwise (fun a b => (a.toList == b.toList) = false)) {k : Nat} (hk : k < l.length) : decide ((l.getD k ⟨#[]⟩).data.toList ∈ uptoL (fun i => l.getD i ⟨#[]⟩) k) = false := by
  rw [decide_eq_false_iff_not]
  intro hm
  obtain ⟨i, hi, e⟩ := uptoL_mem hm
  have he := text_ext e
  have := (List.pairwise_iff_getElem.1 h) i k (by omega) hk hi
  simp only [List.getD, List.getElem?_eq_getElem hk, List.getElem?_eq_getElem (show i < l.length by omega), Option.getD_some] at he
  rw [he] at this
  simp at this
set_option maxRecDepth 100000 in
set_option maxHeartbeats 8000000 in
theorem vsite_yes (S : Sit) (w : World) (hM : SM5 w S) (hP : SitP S) : Calls Try.prog 73 #[.agg #[.slice (S.A 0) (S.n 0) (S.c 0), .slice (S.A 1) (S.n 1) (S.c 1), .slice (S.A 2) (S.n 2) (S.c 2), .slice (S.A 3) (S.n 3) (S.c 3), .slice (S.A 4) (S.n 4) (S.c 4)]] w fun e w' => e = .returned (.bool true) ∧ Below w.heap.size w w' := by
  have HM := Lib.hid hM
  have HP := Lib.hid hP
  obtain ⟨⟨p0, p1⟩, p2, p3, p4, p5⟩ := hP.sizes
  clear hM hP
  go_enter Try.func73, Try.ntmps73
  go_upto_region 4 with fail
  all_goals (try (exfalso; omega))
  obtain ⟨W0, hW0⟩ : ∃ x, w.alloc (.cells #[.slice (S.A 0) (S.n 0) (S.c 0), .slice (S.A 1) (S.n 1) (S.c 1), .slice (S.A 2) (S.n 2) (S.c 2), .slice (S.A 3) (S.n 3) (S.c 3), .slice (S.A 4) (S.n 4) (S.c 4)] 80) = x := ⟨_, rfl⟩
  rw [hW0]
  have HB0 : Hid (Below w.heap.size w W0) := Lib.hid (by rw [← hW0]; exact bel_alloc (Below.refl _ _) _)
  have hs0 : W0.heap.size = w.heap.size + 1 := by rw [← hW0]; simp
  have HC0 : Hid (W0.cell? ⟨w.heap.size, 0, none⟩ = some (.slice (S.A 0) (S.n 0) (S.c 0)) ∧ W0.cell? ⟨w.heap.size, 1, none⟩ = some (.slice (S.A 1) (S.n 1) (S.c 1)) ∧ W0.cell? ⟨w.heap.size, 2, none⟩ = some (.slice (S.A 2) (S.n 2) (S.c 2)) ∧ W0.cell? ⟨w.heap.size, 3, none⟩ = some (.slice (S.A 3) (S.n 3) (S.c 3)) ∧ W0.cell? ⟨w.heap.size, 4, none⟩ = some (.slice (S.A 4) (S.n 4) (S.c 4))) := Lib.hid (by
    refine ⟨?_, ?_, ?_, ?_, ?_⟩ <;> (rw [← hW0]; simp))
  clear hW0
  refine nameW ?_
  intro wm hwm
  obtain ⟨bm, hbm⟩ : ∃ x, W0.heap.size = x := ⟨_, rfl⟩
  have HTM0 : Hid (TM wm bm 0 []) := Lib.hid (by rw [← hwm, ← hbm]; exact TM.made W0)
  have HBm : Hid (Below bm W0 wm) := Lib.hid (by rw [← hwm, ← hbm]; exact (Below.refl _ _).alloc (Nat.le_refl _) _)
  have hsm : bm < wm.heap.size := by rw [← hwm, ← hbm]; simp
  have HC : Hid (∀ W, Below bm W0 W → W.cell? ⟨w.heap.size, 0, none⟩ = some (.slice (S.A 0) (S.n 0) (S.c 0)) ∧ W.cell? ⟨w.heap.size, 1, none⟩ = some (.slice (S.A 1) (S.n 1) (S.c 1)) ∧ W.cell? ⟨w.heap.size, 2, none⟩ = some (.slice (S.A 2) (S.n 2) (S.c 2)) ∧ W.cell? ⟨w.heap.size, 3, none⟩ = some (.slice (S.A 3) (S.n 3) (S.c 3)) ∧ W.cell? ⟨w.heap.size, 4, none⟩ = some (.slice (S.A 4) (S.n 4) (S.c 4))) := Lib.hid fun W hW => by
    rw [← hbm] at hW
    obtain ⟨g0, g1, g2, g3, g4⟩ := HC0.out
    exact ⟨old_at g0 hW, old_at g1 hW, old_at g2 hW, old_at g3 hW, old_at g4 hW⟩
  have HG : Hid (∀ W, Below bm W0 W → Below w.heap.size w W) := Lib.hid fun W h => HB0.out.trans (h.mono (by omega))
  have HMW : Hid (∀ W, Below bm W0 W → SM5 W S) := Lib.hid fun W h => HM.out.keep (HG.out W h)
  have HNO : Hid (∀ W, Below bm W0 W → Calls Try.prog 111 #[.agg #[.slice (S.A 0) (S.n 0) (S.c 0), .slice (S.A 1) (S.n 1) (S.c 1), .slice (S.A 2) (S.n 2) (S.c 2), .slice (S.A 3) (S.n 3) (S.c 3), .slice (S.A 4) (S.n 4) (S.c 4)]] W fun e w' => TxP (S.names 5) e w' ∧ Below W.heap.size W w') := Lib.hid fun W h => namesOf_any S _ _ _ _ _ rfl rfl rfl rfl rfl W (HMW.out W h)
  have HVP : Hid (∀ W, Below bm W0 W → Calls Try.prog 113 #[.agg #[.slice (S.A 0) (S.n 0) (S.c 0), .slice (S.A 1) (S.n 1) (S.c 1), .slice (S.A 2) (S.n 2) (S.c 2), .slice (S.A 3) (S.n 3) (S.c 3), .slice (S.A 4) (S.n 4) (S.c 4)]] W fun e w' => e = .returned (.bool true) ∧ Below W.heap.size W w') := Lib.hid fun W h => vparts_yes S _ _ _ _ _ rfl rfl rfl rfl rfl W (HMW.out W h) HP.out
  have hlen := names_len S 5 fun i hi => HM.out.few i hi
  have HSH : Hid (∀ i, i < (S.names 5).length → ((S.names 5).getD i ⟨#[]⟩).size ≤ maxLen) := Lib.hid fun i hi => by
    rw [show (S.names 5).getD i ⟨#[]⟩ = (S.names 5)[i] by simp [List.getD, hi]]
    exact names_short S 5 (fun t ht j hj => HM.out.short t ht j hj) _ (List.getElem_mem hi)
  have HNP : Hid (∀ i, i < (S.names 5).length → NameP ((S.names 5).getD i ⟨#[]⟩)) := Lib.hid fun i hi => by
    rw [show (S.names 5).getD i ⟨#[]⟩ = (S.names 5)[i] by simp [List.getD, hi]]
    exact HP.out.names _ (List.getElem_mem hi)
  have HON : Hid (∀ k, k < (S.names 5).length → decide (((S.names 5).getD k ⟨#[]⟩).data.toList ∈ uptoL (fun i => (S.names 5).getD i ⟨#[]⟩) k) = false) := Lib.hid fun k hk => once_no HP.out.once hk
  obtain ⟨d0, d1, d2, d3, d4⟩ := HC.out wm HBm.out
  simp only [hbm]
  clear hwm HC0 HB0 HM HMW
  go_wp2_with (go_at_call 111; with_reducible refine (HNO.out _ HBm.out).mono ?_; rintro e w1 ⟨ht, hb1⟩; obtain ⟨A, cc, rfl, hcc, hRS⟩ := tx_open ht)
  all_goals (try (exfalso; omega))
  obtain ⟨N, hN⟩ : ∃ N, (S.names 5).length = N := ⟨_, rfl⟩
  obtain ⟨L, hL⟩ : ∃ L : Nat → ByteArray, (fun i => (S.names 5).getD i ⟨#[]⟩) = L := ⟨_, rfl⟩
  have hL' : ∀ i, (S.names 5).getD i ⟨#[]⟩ = L i := fun i => by rw [← hL]
  have HTM1 : Hid (TM w1 bm 0 []) := Lib.hid (HTM0.out.keep hb1)
  have HB1 : Hid (Below bm W0 w1) := Lib.hid (HBm.out.trans (hb1.mono (by omega)))
  have hs1 : bm < w1.heap.size := Nat.lt_of_lt_of_le hsm hb1.size
  have HRS := Lib.hid hRS
  clear ht hRS hb1 d0 d1 d2 d3 d4 HTM0 HBm HNO hsm
  simp only [hN, hL'] at HRS HSH HNP HON hlen hcc ⊢
  clear hN hL hL'
  go_wp2_with fail
  go_loopw [44] (fun i wr => ∃ k : Nat, k ≤ N ∧ i = .int .i64 k ∧ TM wr bm k (uptoL L k) ∧ RS wr A N L ∧ Below bm W0 wr ∧ bm < wr.heap.size) (fun i _ => N - (intOf i).toNat)
  case atStart => exact ⟨0, by omega, rfl, HTM1.out, HRS.out, HB1.out, hs1⟩
  case round =>
    obtain ⟨k, hk, rfl, htm, hrs, hb, hs⟩ := hrel
    obtain ⟨wa, hwa⟩ : ∃ x, x = wr := ⟨_, rfl⟩
    subst hwa
    have HTa := Lib.hid htm
    have HRa := Lib.hid hrs
    have HBa := Lib.hid hb
    clear htm hb HTM1 HB1 HRS hs1
    by_cases hlt : k < N
    · obtain ⟨b, o, rfl, hl, hc⟩ := hrs k hlt
      have HGN : Hid (∀ W, Calls Try.prog 112 #[.string (L k)] W fun e w' => e = .returned (.bool true) ∧ Below W.heap.size W w') := Lib.hid fun W => siteName_yes (L k) W (HNP.out k hlt)
      have HNO := Lib.hid (HON.out k hlt)
      have HSK := Lib.hid (HSH.out k hlt)
      clear hrs
      go_upto_region 10 with (first
        | (go_at_call 112; with_reducible refine (HGN.out _).mono ?_; rintro e w2 ⟨rfl, hb2⟩)
        | (at_lookup; refine wpList_lookup_TMg _ rfl _ _ rfl bm k _ rfl (HTa.out.keep hb2) _ rfl HSK.out ?_; rw [HNO.out])
        | (at_mapUpdate; refine wpList_update_TM _ rfl _ _ _ rfl bm k _ rfl (HTa.out.keep hb2) (by omega) _ rfl rfl HSK.out ?_; intro wM hTM hgM))
      all_goals (try (exfalso; omega))
      have HTX := Lib.hid hTM
      have HRX := Lib.hid ((HRa.out.keep hb2).turn (HTa.out.keep hb2).obj hgM)
      have HBX := Lib.hid ((HBa.out.trans (hb2.mono (by omega))).grown hgM (by have := hb2.size; omega) (by intro r e; cases e; exact Nat.le_refl _))
      have hsx : bm < wM.heap.size := by have := hb2.size; have := hgM.size; omega
      clear hTM hgM hb2
      go_wp2_with fail
      go_roundw
      case rel => exact ⟨k + 1, by omega, by go_num, HTX.out, HRX.out, HBX.out, hsx⟩
      case measure => simp [intOf] <;> omega
    · obtain ⟨d0, d1, d2, d3, d4⟩ := HC.out wa HBa.out
      clear hrs
      go_wp2_with (go_at_call 113; with_reducible refine (HVP.out _ HBa.out).mono ?_; rintro e w2 ⟨rfl, hb2⟩)
      all_goals (try (exfalso; omega))
      go_ret
      exact ⟨rfl, HG.out _ (HBa.out.trans (hb2.mono (by omega)))⟩
end Go.Proofs.Ytkhmlbkkdflnoaa.Nm
