/-
  THE WALKS over package settle, fourth part: Net.
-/
import Derived.Test.YtkhmlbkkdflnoaaNetPlain
namespace Go.Proofs.Ytkhmlbkkdflnoaa
open Go.RowKit
set_option linter.unusedVariables false
attribute [local go_sem ↓] Go.wp_at_zero Go.wp_at_succ

theorem wpList_lookup_SM (w : World) {ops : Array Oper} {rest : List Oper} {o : Oper} {a : Act} {Q : Exit → Act → World → Prop}
    (hg : o.guard = none) (m x : Operand) (hop : o.op = Op.lookup 112 m x false) (b n : Nat) (S : List (Int × Int)) (hm : a.eval m = .map (some b)) (hS : SM w b n S) (p q : Int) (hx : a.eval x = .agg #[.int .i64 p, .int .i64 q]) (hw : wf2 (p, q))
    (hK : wpList Try.prog ops Q rest (a.put o.dst (.bool (decide ((p, q) ∈ S)))) w) : wpList Try.prog ops Q (o :: rest) a w := by
  refine wpList_plain hg fun K' hK' => ?_
  have hrun := hS.lookup (p, q) hw
  unfold Oper.wp
  simp only [] at hrun
  simp [execOp, hop, hm, hx, hrun, Result.andThen]
  exact hK' _ _ hK
theorem wpList_update_SM (w : World) {ops : Array Oper} {rest : List Oper} {o : Oper} {a : Act} {Q : Exit → Act → World → Prop}
    (hg : o.guard = none) (m x y : Operand) (hop : o.op = Op.mapUpdate 112 m x y) (b n : Nat) (S : List (Int × Int)) (hm : a.eval m = .map (some b)) (hS : SM w b n S) (hn : n < 1000) (p q : Int) (hx : a.eval x = .agg #[.int .i64 p, .int .i64 q]) (hy : a.eval y = .bool true) (hw : wf2 (p, q))
    (hK : ∀ w', SM w' b (n + 1) ((p, q) :: S) → w.grownBy w' (some b) → wpList Try.prog ops Q rest (a.put o.dst undef) w') : wpList Try.prog ops Q (o :: rest) a w := by
  refine wpList_plain hg fun K' hK' => ?_
  obtain ⟨w', hrun, h1, h2⟩ := hS.update hn (p, q) hw
  unfold Oper.wp
  simp only [] at hrun
  simp [execOp, hop, hm, hx, hy, hrun, Result.andThen]
  exact hK' _ _ (hK w' h1 h2)

theorem wf_small {x : Int} (h1 : -9223372036854775808 ≤ x) (h2 : x ≤ 9223372036854775807) : (Lit.int .i64 x).wf = true := by
  have e1 : IntKind.i64.min = -9223372036854775808 := by decide
  simp [Lit.wf, e1, h1, h2]
/-- the state of Net -/
def NS (B : Nat) (W : World) (p g m : Nat) (Y : Nat → Int) (b k : Nat) (S : List (Int × Int)) : Prop :=
  W.heap[p]? = some (.cells #[.slice (some ⟨g, 0, none⟩) m m] 111 (0, 0)) ∧ OwnR W g m m Y ∧ SM W b k S ∧ (B ≤ p ∧ B ≤ g ∧ B ≤ b) ∧ (p ≠ g ∧ p ≠ b ∧ g ≠ b)
theorem NS.keep {B : Nat} {W W' : World} {p g m : Nat} {Y : Nat → Int} {b k : Nat} {S : List (Int × Int)} (h : NS B W p g m Y b k S) (hb : Below W.heap.size W W') : NS B W' p g m Y b k S := by
  obtain ⟨h1, h2, h3, h4⟩ := h
  exact ⟨(hb.block _ (Array.getElem?_eq_some_iff.1 h1).1).trans h1, h2.keep (hb.block _ h2.lt), h3.kept (row := none) ⟨hb.os, hb.tape, hb.output, hb.size, fun i hi _ => hb.block i hi⟩ (by simp), h4⟩
theorem NS.moved {B : Nat} {W W' : World} {p g m : Nat} {Y Y' : Nat → Int} {b k : Nat} {S : List (Int × Int)} (h : NS B W p g m Y b k S) (hO : OwnR W' g m m Y') (hg : W.grownBy W' (some g)) : NS B W' p g m Y' b k S := by
  obtain ⟨h1, h2, h3, h4, h5⟩ := h
  exact ⟨(hg.block _ (Array.getElem?_eq_some_iff.1 h1).1 (by simp; omega)).trans h1, hO, h3.kept hg (by simp; omega), h4, h5⟩
theorem NS.mapped {B : Nat} {W W' : World} {p g m : Nat} {Y : Nat → Int} {b k k' : Nat} {S S' : List (Int × Int)} (h : NS B W p g m Y b k S) (hO : SM W' b k' S') (hg : W.grownBy W' (some b)) : NS B W' p g m Y b k' S' := by
  obtain ⟨h1, h2, h3, h4, h5⟩ := h
  exact ⟨(hg.block _ (Array.getElem?_eq_some_iff.1 h1).1 (by simp; omega)).trans h1, h2.keep (hg.block _ h2.lt (by simp; omega)), hO, h4, h5⟩
theorem NS.box {B : Nat} {W : World} {p g m : Nat} {Y : Nat → Int} {b k : Nat} {S : List (Int × Int)} (h : NS B W p g m Y b k S) : W.cell? ⟨p, 0, none⟩ = some (.slice (some ⟨g, 0, none⟩) m m) := by
  rw [cell_of_row W p 0 _ _ (0, 0) h.1]; rfl

theorem OwnR.made {W : World} {g m : Nat} (hm : m ≤ 8) (h : W.heap[g]? = some (.cells (madeCells (Value.int .i64 0).cells m) 3 (0, 0))) : OwnR W g m m (fun _ => 0) := by
  refine ⟨_, h, by omega, by simp [size_madeCells], fun j hj => ?_⟩
  simp [madeCells, Value.cells, Nat.mod_one, hj]
/-- what Net makes behind its first loop -/
theorem NS.start {B : Nat} {W W3 : World} {m : Nat} (hm : m ≤ 8) (hB : B ≤ W.heap.size) (e : W3 = ((W.alloc (.cells (madeCells (Value.int .i64 0).cells m) 3)).alloc (.cells #[.slice (some ⟨W.heap.size, 0, none⟩) m m] 111)).alloc (.map #[] 0)) :
    NS B W3 (W.heap.size + 1) W.heap.size m (fun _ => 0) (W.heap.size + 2) 0 [] := by
  subst e
  refine ⟨?_, OwnR.made hm ?_, ?_, by omega, by omega⟩
  · rw [Below.heap_alloc _ _ _ (by simp)]
    have := heap_alloc_new (W.alloc (.cells (madeCells (Value.int .i64 0).cells m) 3)) (.cells #[.slice (some ⟨W.heap.size, 0, none⟩) m m] 111)
    simpa using this
  · rw [Below.heap_alloc _ _ _ (by simp; omega), Below.heap_alloc _ _ _ (by simp)]
    exact heap_alloc_new _ _
  · have := SM.made ((W.alloc (.cells (madeCells (Value.int .i64 0).cells m) 3)).alloc (.cells #[.slice (some ⟨W.heap.size, 0, none⟩) m m] 111))
    simpa using this

theorem NSrec {W W' : World} {cs : Array Value} {o : Obj} {b : Nat} {t : TypeId} (hg : ((W.alloc (.cells cs t)).alloc o).grownBy W' (some b)) (hb : b < W.heap.size) (j : Nat) (hj : j < 13) : W'.cell? ⟨W.heap.size, j, none⟩ = cs[j]? := by
  have h := hg.block W.heap.size (by simp; omega) (by simp; omega)
  rw [Below.heap_alloc _ _ _ (by simp), heap_alloc_new] at h
  exact cell_of_row W' _ j _ _ (0, 0) h

set_option maxRecDepth 100000 in
set_option maxHeartbeats 2000000 in
theorem net_any (A : Option Addr) (n c : Nat) (X : Nat → Nat → Int) (m : Nat) (w : World) (hn : n ≤ 64) (hm : 1 ≤ m ∧ m ≤ 8) (hR : RR w A n X) (hw : ∀ i, i < n → (Lit.int .i64 (X i 0)).wf = true) :
    Calls Try.prog 17 #[.slice A n c, .int .i64 (m : Int)] w fun e w' => (∃ v er, e = .returned (.tuple #[v, .int .i64 er]) ∧ NetR w' v er X n m) ∧ Below w.heap.size w w' := by
  have HR := Lib.hid hR
  have HW := Lib.hid hw
  clear hR hw
  obtain ⟨i0, hi, hz0, hz1, hz2⟩ := info_parts infoInt
  have HI := Lib.hid hi
  have HZ0 := Lib.hid hz0
  have HZ1 := Lib.hid hz1
  have HZ2 := Lib.hid hz2
  have hmk : ∀ W : World, (Instr.makeSlice 46 (.int .i64 (m : Int)) (.int .i64 (m : Int))).run Try.prog W = .ok (.slice (some ⟨W.heap.size, 0, none⟩) m m) (W.alloc (.cells (madeCells (Value.int .i64 0).cells m) 3)) := fun W => by
    have := run_make_rowN (P := Try.prog) 46 3 i0 _ Try.underlying46 hi hz0 .i64 .i64 m m (by omega) (by rw [hz2]; omega) (by omega) W
    rw [hz1, Nat.mul_one] at this
    exact this
  obtain ⟨mc, hmc⟩ : ∃ mc, madeCells (Value.int .i64 0).cells m = mc := ⟨_, rfl⟩
  have HMC := Lib.hid hmc
  rw [hmc] at hmk
  clear hmc
  have hmm := @run_makeMap Try.prog
  clear hi hz0 hz1 hz2
  go_enter Try.func17, Try.ntmps17
  go_wp2_with fail
  all_goals (try (exfalso; omega))
  go_loopw [24] (fun i wr => ∃ k : Nat, k ≤ n ∧ i = .int .i64 k ∧ allR m X k ∧ Below w.heap.size w wr) (fun i _ => n - (intOf i).toNat)
  case atStart => exact ⟨0, Nat.zero_le _, rfl, fun i hi => by omega, Below.refl _ _⟩
  case round =>
    obtain ⟨k, hk, rfl, hall, hbw⟩ := hrel
    have HALL := Lib.hid hall
    have HBW := Lib.hid hbw
    have hws := hbw.size
    clear hall hbw
    by_cases hlt : k < n
    · obtain ⟨b, o, rfl, hb, c0, c1, c2, c3, c4, c5, c6, c7, c8, c9, c10, c11, c12⟩ := (HR.out.keep HBW.out).cells hlt
      have i1 : (k : Int) < (n : Int) := by omega
      have HOK : Hid (okR m (X k) = true ↔ isN (X k 3) m = true ∧ isN (X k 4) m = true ∧ 0 ≤ X k 8 ∧ X k 8 ≤ 1000000000) := Lib.hid (by rw [okR_iff, isN_iff, isN_iff])
      have HNO : Hid (¬ okR m (X k) = true → ∀ wx : World, NetR wx (.slice none 0 0) 1 X n m) := Lib.hid fun h wx => .inl ⟨rfl, rfl, fun ha => h (ha k hlt)⟩
      by_cases h3 : isN (X k 3) m = true
      · by_cases h4 : isN (X k 4) m = true
        · by_cases h8 : 0 ≤ X k 8
          · by_cases h9 : X k 8 ≤ 1000000000
            · have HO := Lib.hid (HOK.out.2 ⟨h3, h4, h8, h9⟩)
              have H3 := Lib.hid h3
              have H4 := Lib.hid h4
              clear h3 h4
              go_wp2_with (go_at_call 43; with_reducible refine (isNet _ _ _).mono ?_; rintro e w1 ⟨rfl, rfl⟩; first | rw [H3.out] | rw [H4.out])
              all_goals (try (exfalso; omega))
              go_roundw
              case rel => exact ⟨k + 1, by omega, by go_num, all_snoc HALL.out HO.out, bel_alloc HBW.out _⟩
              case measure => simp [intOf] <;> omega
            · have hx : 1000000000 < X k 8 := by omega
              have H3 := Lib.hid h3
              have H4 := Lib.hid h4
              have HX := Lib.hid (show ¬ okR m (X k) = true from fun h => by have := (HOK.out.1 h).2.2.2; omega)
              clear HOK h3 h4
              go_wp2_with (go_at_call 43; with_reducible refine (isNet _ _ _).mono ?_; rintro e w1 ⟨rfl, rfl⟩; first | rw [H3.out] | rw [H4.out])
              all_goals (try (exfalso; omega))
              go_ret2
              exact ⟨⟨_, _, rfl, HNO.out HX.out _⟩, bel_alloc HBW.out _⟩
          · have hx : X k 8 < 0 := by omega
            have H3 := Lib.hid h3
            have H4 := Lib.hid h4
            have HX := Lib.hid (show ¬ okR m (X k) = true from fun h => by have := (HOK.out.1 h).2.2.1; omega)
            clear HOK h3 h4
            go_wp2_with (go_at_call 43; with_reducible refine (isNet _ _ _).mono ?_; rintro e w1 ⟨rfl, rfl⟩; first | rw [H3.out] | rw [H4.out])
            all_goals (try (exfalso; omega))
            go_ret2
            exact ⟨⟨_, _, rfl, HNO.out HX.out _⟩, bel_alloc HBW.out _⟩
        · have hx : isN (X k 4) m = false := by simpa using h4
          have H3 := Lib.hid h3
          have H4 := Lib.hid hx
          have HX := Lib.hid (show ¬ okR m (X k) = true from fun h => h4 (HOK.out.1 h).2.1)
          clear HOK h3 hx h4
          go_wp2_with (go_at_call 43; with_reducible refine (isNet _ _ _).mono ?_; rintro e w1 ⟨rfl, rfl⟩; first | rw [H3.out] | rw [H4.out])
          all_goals (try (exfalso; omega))
          go_ret2
          exact ⟨⟨_, _, rfl, HNO.out HX.out _⟩, bel_alloc HBW.out _⟩
      · have hx : isN (X k 3) m = false := by simpa using h3
        have H3 := Lib.hid hx
        have H4 := Lib.hid hx
        have HX := Lib.hid (show ¬ okR m (X k) = true from fun h => h3 (HOK.out.1 h).1)
        clear HOK h3 hx
        go_wp2_with (go_at_call 43; with_reducible refine (isNet _ _ _).mono ?_; rintro e w1 ⟨rfl, rfl⟩; first | rw [H3.out] | rw [H4.out])
        all_goals (try (exfalso; omega))
        go_ret2
        exact ⟨⟨_, _, rfl, HNO.out HX.out _⟩, bel_alloc HBW.out _⟩
    · obtain rfl : k = n := by omega
      go_wp2_with fail
      have hns := NS.start (B := w.heap.size) (W := wr) hm.2 hws rfl
      rw [HMC.out] at hns
      have HNS := Lib.hid hns
      have HB3 := Lib.hid (bel_alloc (bel_alloc (bel_alloc HBW.out (.cells mc 3)) (.cells #[.slice (some ⟨wr.heap.size, 0, none⟩) m m] 111)) (.map #[] 0))
      clear hns
      obtain ⟨wf, rfl⟩ : ∃ wf, wf = wr := ⟨_, rfl⟩
      go_loopw [58] (fun i w2 => ∃ q : Nat, q ≤ k ∧ i = .int .i64 q ∧ ¬ dup X q ∧ NS w.heap.size w2 (wf.heap.size + 1) wf.heap.size m (get X q) (wf.heap.size + 1 + 1) q (keys X q) ∧ Below w.heap.size w w2 ∧ wf.heap.size + 1 + 1 < w2.heap.size) (fun i _ => k - (intOf i).toNat)
      case atStart => exact ⟨0, Nat.zero_le _, rfl, dup_zero X, HNS.out, HB3.out, by simp⟩
      case round =>
        obtain ⟨q, hq, rfl, hnd, hns, hb2, hbs⟩ := hrel
        clear HNS HB3 hmk hmm HMC
        obtain ⟨bm, hbm⟩ : ∃ b, wf.heap.size + 1 + 1 = b := ⟨_, rfl⟩
        rw [hbm] at hns hbs ⊢
        obtain ⟨p, hp⟩ : ∃ p, wf.heap.size + 1 = p := ⟨_, rfl⟩
        rw [hp] at hns ⊢
        obtain ⟨g, hg⟩ : ∃ g, wf.heap.size = g := ⟨_, rfl⟩
        rw [hg] at hns ⊢
        clear hbm hp hg
        have hsz := hb2.size
        have HND := Lib.hid hnd
        have HNS := Lib.hid hns
        have HB2 := Lib.hid hb2
        have cb := hns.box
        have hbl := hns.2.2.2
        have hgl := hns.2.1.lt
        clear hnd hns hb2
        by_cases hlt : q < k
        · obtain ⟨b, o, rfl, hb, c0, c1, c2, c3, c4, c5, c6, c7, c8, c9, c10, c11, c12⟩ := (HR.out.keep HB2.out).cells hlt
          have i1 : (q : Int) < (k : Int) := by omega
          have hok := okR_iff.1 (HALL.out q hlt)
          have hwf : wf2 (X q 4, X q 0) := ⟨wf_small (by omega) (by omega), HW.out q hlt⟩
          have HWF := Lib.hid hwf
          have HDS := Lib.hid (dup_succ (X := X) (k := q))
          clear hwf
          by_cases hdp : (X q 4, X q 0) ∈ keys X q
          · have HDC := Lib.hid (decide_eq_true hdp)
            have HDP := Lib.hid hdp
            clear hdp
            go_wp2_with (at_lookup; refine wpList_lookup_SM _ rfl _ _ rfl bm q (keys X q) rfl (HNS.out.keep (bel_alloc (bel_alloc (Below.refl _ _) _) _)).2.2.1 (X q 4) (X q 0) rfl HWF.out ?_; rw [HDC.out])
            go_ret2
            exact ⟨⟨_, _, rfl, .inr (.inl ⟨rfl, rfl, HALL.out, dup_mono (HDS.out.2 (.inr HDP.out)) (by omega)⟩)⟩, bel_alloc (bel_alloc HB2.out _) _⟩
          · have HDC := Lib.hid (decide_eq_false hdp)
            have HDP := Lib.hid hdp
            clear hdp
            have i2 : ((X q 4).toNat : Int) = X q 4 := by omega
            have i3 : ((X q 3).toNat : Int) = X q 3 := by omega
            have HI2 := Lib.hid i2
            have HI3 := Lib.hid i3
            clear i2 i3
            go_wp2_with (first
              | (at_lookup; refine wpList_lookup_SM _ rfl _ _ rfl bm q (keys X q) rfl (HNS.out.keep (bel_alloc (bel_alloc (Below.refl _ _) _) _)).2.2.1 (X q 4) (X q 0) rfl HWF.out ?_; rw [HDC.out])
              | (at_mapUpdate; refine wpList_update_SM _ rfl _ _ _ rfl bm q (keys X q) rfl (HNS.out.keep (bel_alloc (bel_alloc (Below.refl _ _) _) _)).2.2.1 (by omega) (X q 4) (X q 0) rfl rfl HWF.out ?_; intro wM hSM hgM
                 have r3 := NSrec hgM (by omega) 3 (by omega)
                 have r4 := NSrec hgM (by omega) 4 (by omega)
                 have r8 := NSrec hgM (by omega) 8 (by omega)
                 have hnsM := (HNS.out.keep (bel_alloc (bel_alloc (Below.refl _ _) _) _)).mapped hSM hgM
                 have hbM := (bel_alloc (bel_alloc HB2.out _) _).grown hgM (bel_alloc (bel_alloc HB2.out _) _).size (fun g' hg' => by cases hg'; omega)
                 have hsM := hgM.size)
              | (go_at_call 44
                 have hmv := move_any p g m m (get X q) (X q 4).toNat (X q 3).toNat (X q 8) wM hnsM.box hbl.2.1 hnsM.2.1 (by omega) (by omega) hm.2 (by omega) (fun i _ => by have := get_bd q (fun j hj => HALL.out j (by omega)) i; omega)
                 rw [HI2.out, HI3.out] at hmv
                 with_reducible refine hmv.mono ?_
                 rintro e wE ⟨rfl, hOE, hgE⟩))
            have hsE := hgE.size
            have hnsE := hnsM.moved hOE hgE
            have hbE := hbM.grown hgE hbM.size (fun g' hg' => by cases hg'; omega)
            go_roundw
            case rel => exact ⟨q + 1, by omega, by go_num, fun hx => (HDS.out.1 hx).elim HND.out HDP.out, hnsE, hbE, by simp at hsM; omega⟩
            case measure => simp [intOf] <;> omega
        · obtain rfl : q = k := by omega
          go_wp2_with fail
          go_ret2
          exact ⟨⟨_, _, rfl, .inr (.inr ⟨rfl, HALL.out, HND.out, g, rfl, HNS.out.2.1⟩)⟩, HB2.out⟩
end Go.Proofs.Ytkhmlbkkdflnoaa
