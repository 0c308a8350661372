/-
  THE WALKS over package hub, sixth part: Receive where nothing is handed over.
-/
import Derived.Test.YtkhmlbkkdflnoaaHubd
namespace Go.Proofs.Ytkhmlbkkdflnoaa.Hb
open Go.RowKit
open Rc (own_below)
set_option linter.unusedVariables false
set_option linter.unusedSimpArgs false
attribute [local go_sem ↓] Go.wp_at_zero Go.wp_at_succ

theorem dup0b (w : World) : Calls Try.prog 56 #[.slice none 0 0] w fun e w' => e = .returned (.slice (some ⟨w.heap.size, 0, none⟩) 0 0) ∧ Below w.heap.size w w' :=
  (dup0 w).mono fun e w' ⟨h1, mc, _, h2⟩ => ⟨h1, by rw [h2]; exact bel_alloc (Below.refl _ _) _⟩
theorem three_set {w : World} {b : Nat} {t : TypeId} {x y z : Value} (h : w.heap[b]? = some (.cells #[x, y, z] t (0, 0))) (u v r : Value) :
    (((w.setCell ⟨b, 0, none⟩ u).setCell ⟨b, 1, none⟩ v).setCell ⟨b, 2, none⟩ r).heap[b]? = some (.cells #[u, v, r] t (0, 0)) := by
  simp [World.setCell, Array.getElem?_modify, h]
set_option maxRecDepth 100000 in
set_option maxHeartbeats 2000000 in
theorem rec_old (b c : Nat) (N m : Int) (q : Nat) (f : Nat → Int) (A : Option Addr) (cw : Nat) (w : World) (h : B1 w b N q f A cw) (hm : 1 ≤ m ∧ m ≤ 999) (ho : m < N ∨ isW f m q = true) :
    Calls Try.prog 21 #[.slice (some ⟨b, 0, none⟩) 1 c, .agg #[.int .i64 3, .int .i64 m, .int .i64 (m - 1)]] w fun e w' => e = .returned (.tuple #[.slice none 0 0, .slice none 0 0, .int .i64 12]) ∧ Below w.heap.size w w' := by
  have H := Lib.hid h
  have hwt := h.2.2.1
  have hn := hwt.1
  have hq := hwt.2.1
  clear h hwt
  have HV := Lib.hid (fun W => vmsg_yes 3 m (m - 1) W (by omega) (by omega) (by omega))
  have HMB := Lib.hid (heap_alloc_new w (.cells #[.int .i64 3, .int .i64 m, .int .i64 (m - 1)] 69))
  have HB0 := Lib.hid (bel_alloc (Below.refl _ w) (.cells #[.int .i64 3, .int .i64 m, .int .i64 (m - 1)] 69))
  obtain ⟨w0, hw0⟩ : ∃ w0, w.alloc (.cells #[.int .i64 3, .int .i64 m, .int .i64 (m - 1)] 69) = w0 := ⟨_, rfl⟩
  rw [hw0] at HMB HB0
  have H0 := Lib.hid (H.out.keep HB0.out)
  go_enter Try.func21, Try.ntmps21
  go_upto_region 1 with fail
  clear hw0
  go_upto_region 3 with (first
    | (go_at_call 49; with_reducible refine (valid1 b c N q f A cw _ H0.out).mono ?_; rintro e w1 ⟨rfl, h1⟩
       obtain ⟨a0, a1, a2, a3⟩ := blk3 ((h1.block _ (Array.getElem?_eq_some_iff.1 HMB.out).1).trans HMB.out))
    | (go_at_call 50; with_reducible refine (HV.out _).mono ?_; rintro e w2 ⟨rfl, h2⟩))
  have H2 := Lib.hid (bel_step h1 h2)
  have HM2 := Lib.hid ((H2.out.block _ (Array.getElem?_eq_some_iff.1 HMB.out).1).trans HMB.out)
  have HO2 := Lib.hid (H0.out.keep H2.out)
  clear h1 h2 a0 a1 a2 a3
  obtain ⟨a0, a1, a2, a3⟩ := blk3 HM2.out
  go_upto_region 4 with (first
    | (go_at_call 51; with_reducible refine (find1 b c N q f A cw _ HO2.out).mono ?_; rintro e w3 ⟨rfl, h3⟩))
  have H3 := Lib.hid (bel_step H2.out h3)
  have HM3 := Lib.hid ((h3.block _ (Array.getElem?_eq_some_iff.1 HM2.out).1).trans HM2.out)
  have HO3 := Lib.hid (HO2.out.keep h3)
  clear h3 a0 a1 a2 a3
  obtain ⟨a0, a1, a2, a3⟩ := blk3 HM3.out
  go_upto_region 5 with fail
  have HB4 := Lib.hid (bel_alloc (Below.refl _ w3) (.cells #[.int .i64 3, .int .i64 1, .slice none 0 0] 123))
  have HP4 := Lib.hid (heap_alloc_new w3 (.cells #[.int .i64 3, .int .i64 1, .slice none 0 0] 123))
  obtain ⟨p9, hp9⟩ : ∃ p9, w3.heap.size = p9 := ⟨_, rfl⟩
  obtain ⟨w4, hw4⟩ : ∃ w4, w3.alloc (.cells #[.int .i64 3, .int .i64 1, .slice none 0 0] 123) = w4 := ⟨_, rfl⟩
  rw [hw4] at HB4 HP4 ⊢
  rw [hp9] at HB4 HP4 ⊢
  have HO4 := Lib.hid (HO3.out.keep (by rw [hp9]; exact HB4.out))
  clear a0 a1 a2 a3 hw4
  obtain ⟨⟨c0, c1, c2⟩, _⟩ := HO4.out
  obtain ⟨d0, d1, d2, d3⟩ := blk3 HP4.out
  have d4 := d3 0
  have d5 := d3 1
  have d6 := d3 2
  go_upto_region 7 with fail
  have hp5 := three_set HP4.out (.int .i64 3) (.int .i64 N) (.slice A q cw)
  have hb5 : Below p9 w3 (((w4.setCell ⟨p9, 0, none⟩ (.int .i64 3)).setCell ⟨p9, 1, none⟩ (.int .i64 N)).setCell ⟨p9, 2, none⟩ (.slice A q cw)) := ((HB4.out.setCell (Nat.le_refl _) _).setCell (Nat.le_refl _) _).setCell (Nat.le_refl _) _
  obtain ⟨w5, hw5⟩ : ∃ w5, (((w4.setCell ⟨p9, 0, none⟩ (.int .i64 3)).setCell ⟨p9, 1, none⟩ (.int .i64 N)).setCell ⟨p9, 2, none⟩ (.slice A q cw)) = w5 := ⟨_, rfl⟩
  rw [hw5] at hp5 hb5 ⊢
  have HB5 := Lib.hid (show Below w3.heap.size w3 w5 by rw [hp9]; exact hb5)
  have HP5 := Lib.hid hp5
  have HM5 := Lib.hid ((HB5.out.block _ (Array.getElem?_eq_some_iff.1 HM3.out).1).trans HM3.out)
  have HO5 := Lib.hid (HO3.out.keep HB5.out)
  have H5 := Lib.hid (bel_step H3.out HB5.out)
  clear hw5 hp5 hb5 c0 c1 c2 d0 d1 d2 d3 d4 d5 d6 hp9
  obtain ⟨a0, a1, a2, a3⟩ := blk3 HM5.out
  obtain ⟨d0, d1, d2, d3⟩ := blk3 HP5.out
  have HFM := Lib.hid (findm_any N m q f A cw w5 HO5.out.2.2.1 HO5.out.2.1)
  go_upto_region 8 with (first
    | (go_at_call 53; with_reducible refine HFM.out.mono ?_; rintro e w6 ⟨rfl, h6⟩))
  have H6 := Lib.hid (bel_step H5.out h6)
  have HP6 := Lib.hid ((h6.block _ (Array.getElem?_eq_some_iff.1 HP5.out).1).trans HP5.out)
  have HM6 := Lib.hid ((h6.block _ (Array.getElem?_eq_some_iff.1 HM5.out).1).trans HM5.out)
  have HO6 := Lib.hid (HO5.out.keep h6)
  clear h6 a0 a1 a2 a3 d0 d1 d2 d3
  obtain ⟨a0, a1, a2, a3⟩ := blk3 HM6.out
  obtain ⟨d0, d1, d2, d3⟩ := blk3 HP6.out
  go_wp2_with (first
    | (go_at_call 55; with_reducible refine (check_old _ 3 m (m - 1) N _ _ _ _ ho).mono ?_; rintro e w7 ⟨rfl, h7⟩))
  go_ret3
  exact ⟨rfl, HB0.out.trans ((bel_step H6.out h7).mono HB0.out.size)⟩
theorem ob_wait {w9 w10 : World} {B g c : Nat} {N : Int} {q q' : Nat} {f f' : Nat → Int} {A A4 : Option Addr} {cw c4 : Nat} (h : OB w9 B g c N q f A cw) (hb : Below w9.drew.heap.size w9.drew w10)
    (hown : w10.ownsRow w9.drew.heap.size 69 3 (.slice A4 q' c4) q' (tri (mg f') q')) (hW : Wt N q' f') (hc : q' ≤ c4 ∧ c4 ≤ 9223372036854775807) (hn : A4 = none → q' = 0 ∧ c4 = 0) :
    B1 (w10.setCell ⟨g, 2, none⟩ (.slice A4 q' c4)) g N q' f' A4 c4 ∧ Below B w9 (w10.setCell ⟨g, 2, none⟩ (.slice A4 q' c4)) := by
  have hg := h.1.lt g rfl
  have h1 := h.b1.1
  have e0 : w10.cell? ⟨g, 0, none⟩ = some (.int .i64 3) := old_at (w := w9.drew) h1.1 hb
  have e1 : w10.cell? ⟨g, 1, none⟩ = some (.int .i64 N) := old_at (w := w9.drew) h1.2.1 hb
  have e2 : w10.cell? ⟨g, 2, none⟩ = some (.slice A q cw) := old_at (w := w9.drew) h1.2.2 hb
  have hne : (Value.slice A4 q' c4).ownBlock ≠ some g := fun e => by
    have h2 := (hown.lt g e).1
    have h3 : w9.drew.heap.size = w9.heap.size := rfl
    omega
  refine ⟨⟨⟨?_, ?_, ?_⟩, RP_own (ownsRow_setCell_other hown (a := ⟨g, 2, none⟩) hne _), hW, hc, hn⟩, ?_⟩
  · rw [World.cell?_setCell_other _ _ _ _ (by simp)]; exact e0
  · rw [World.cell?_setCell_other _ _ _ _ (by simp)]; exact e1
  · exact World.cell?_setCell_same _ _ _ e2
  · exact (((Below.refl _ _).drew).trans (hb.mono (by show B ≤ w9.heap.size; omega))).setCell (p := ⟨g, 2, none⟩) hg.1 _
/-- a list of messages of one's own, one inserted -/
theorem insm_any {w : World} {B g c : Nat} {N : Int} {q at_ : Nat} {f : Nat → Int} {A : Option Addr} {cw : Nat} {m : Int} (h : OB w B g c N q f A cw) (ha : at_ ≤ q) {W : World} (hb : Below w.heap.size w W) :
    Calls Try.prog 58 #[.slice A q cw, .int .i64 (at_ : Int), .agg #[.int .i64 3, .int .i64 m, .int .i64 (m - 1)]] W fun e w' => ∃ v, e = .returned v ∧ w'.ownsRow W.heap.size 69 3 v (q + 1) (tri (mg (insf f at_ m)) (q + 1)) ∧ Below W.heap.size W w' := by
  have h1 := h.b1
  obtain ⟨A', c', e, hc, hn, hs⟩ := own_form h.2.1
  cases e
  cases A with
  | none =>
    obtain ⟨rfl, rfl⟩ := hn rfl
    obtain rfl : at_ = 0 := by omega
    exact insm_nil f m W
  | some a =>
    obtain ⟨g3, rfl⟩ := hs a rfl
    exact insm_some g3 cw q at_ f m W (h1.2.1.keep hb) ha h1.2.2.1.2.1 hc
set_option maxRecDepth 100000 in
set_option maxHeartbeats 2000000 in
theorem rec_wait1 (b c : Nat) (N m : Int) (q : Nat) (f : Nat → Int) (A : Option Addr) (cw : Nat) (w : World) (h : B1 w b N q f A cw) (hm : 1 ≤ m ∧ m ≤ 999) (hNm : N < m) (hw : isW f m q = false) (hq2 : q < 60) :
    Calls Try.prog 21 #[.slice (some ⟨b, 0, none⟩) 1 c, .agg #[.int .i64 3, .int .i64 m, .int .i64 (m - 1)]] w fun e w' => ∃ g c' A' cw', e = .returned (.tuple #[.slice (some ⟨g, 0, none⟩) 1 c', .slice none 0 0, .int .i64 0]) ∧ B1 w' g N (q + 1) (insf f (pl f m q) m) A' cw' ∧ Below w.heap.size w w' ∧ w.heap.size ≤ g ∧ ∀ b o, A' = some ⟨b, o, none⟩ → w.heap.size ≤ b := by
  have HWQ := Lib.hid hw
  have H := Lib.hid h
  have hwt := h.2.2.1
  have hn := hwt.1
  have hq := hwt.2.1
  clear h hwt
  have HV := Lib.hid (fun W => vmsg_yes 3 m (m - 1) W (by omega) (by omega) (by omega))
  have HMB := Lib.hid (heap_alloc_new w (.cells #[.int .i64 3, .int .i64 m, .int .i64 (m - 1)] 69))
  have HB0 := Lib.hid (bel_alloc (Below.refl _ w) (.cells #[.int .i64 3, .int .i64 m, .int .i64 (m - 1)] 69))
  obtain ⟨w0, hw0⟩ : ∃ w0, w.alloc (.cells #[.int .i64 3, .int .i64 m, .int .i64 (m - 1)] 69) = w0 := ⟨_, rfl⟩
  rw [hw0] at HMB HB0
  have H0 := Lib.hid (H.out.keep HB0.out)
  go_enter Try.func21, Try.ntmps21
  go_upto_region 1 with fail
  clear hw0
  go_upto_region 3 with (first
    | (go_at_call 49; with_reducible refine (valid1 b c N q f A cw _ H0.out).mono ?_; rintro e w1 ⟨rfl, h1⟩
       obtain ⟨a0, a1, a2, a3⟩ := blk3 ((h1.block _ (Array.getElem?_eq_some_iff.1 HMB.out).1).trans HMB.out))
    | (go_at_call 50; with_reducible refine (HV.out _).mono ?_; rintro e w2 ⟨rfl, h2⟩))
  have H2 := Lib.hid (bel_step h1 h2)
  have HM2 := Lib.hid ((H2.out.block _ (Array.getElem?_eq_some_iff.1 HMB.out).1).trans HMB.out)
  have HO2 := Lib.hid (H0.out.keep H2.out)
  clear h1 h2 a0 a1 a2 a3
  obtain ⟨a0, a1, a2, a3⟩ := blk3 HM2.out
  go_upto_region 4 with (first
    | (go_at_call 51; with_reducible refine (find1 b c N q f A cw _ HO2.out).mono ?_; rintro e w3 ⟨rfl, h3⟩))
  have H3 := Lib.hid (bel_step H2.out h3)
  have HM3 := Lib.hid ((h3.block _ (Array.getElem?_eq_some_iff.1 HM2.out).1).trans HM2.out)
  have HO3 := Lib.hid (HO2.out.keep h3)
  clear h3 a0 a1 a2 a3
  obtain ⟨a0, a1, a2, a3⟩ := blk3 HM3.out
  go_upto_region 5 with fail
  have HB4 := Lib.hid (bel_alloc (Below.refl _ w3) (.cells #[.int .i64 3, .int .i64 1, .slice none 0 0] 123))
  have HP4 := Lib.hid (heap_alloc_new w3 (.cells #[.int .i64 3, .int .i64 1, .slice none 0 0] 123))
  obtain ⟨p9, hp9⟩ : ∃ p9, w3.heap.size = p9 := ⟨_, rfl⟩
  obtain ⟨w4, hw4⟩ : ∃ w4, w3.alloc (.cells #[.int .i64 3, .int .i64 1, .slice none 0 0] 123) = w4 := ⟨_, rfl⟩
  rw [hw4] at HB4 HP4 ⊢
  rw [hp9] at HB4 HP4 ⊢
  have HO4 := Lib.hid (HO3.out.keep (by rw [hp9]; exact HB4.out))
  clear a0 a1 a2 a3 hw4
  obtain ⟨⟨c0, c1, c2⟩, _⟩ := HO4.out
  obtain ⟨d0, d1, d2, d3⟩ := blk3 HP4.out
  have d4 := d3 0
  have d5 := d3 1
  have d6 := d3 2
  go_upto_region 7 with fail
  have hp5 := three_set HP4.out (.int .i64 3) (.int .i64 N) (.slice A q cw)
  have hb5 : Below p9 w3 (((w4.setCell ⟨p9, 0, none⟩ (.int .i64 3)).setCell ⟨p9, 1, none⟩ (.int .i64 N)).setCell ⟨p9, 2, none⟩ (.slice A q cw)) := ((HB4.out.setCell (Nat.le_refl _) _).setCell (Nat.le_refl _) _).setCell (Nat.le_refl _) _
  obtain ⟨w5, hw5⟩ : ∃ w5, (((w4.setCell ⟨p9, 0, none⟩ (.int .i64 3)).setCell ⟨p9, 1, none⟩ (.int .i64 N)).setCell ⟨p9, 2, none⟩ (.slice A q cw)) = w5 := ⟨_, rfl⟩
  rw [hw5] at hp5 hb5 ⊢
  have HB5 := Lib.hid (show Below w3.heap.size w3 w5 by rw [hp9]; exact hb5)
  have HP5 := Lib.hid hp5
  have HM5 := Lib.hid ((HB5.out.block _ (Array.getElem?_eq_some_iff.1 HM3.out).1).trans HM3.out)
  have HO5 := Lib.hid (HO3.out.keep HB5.out)
  have H5 := Lib.hid (bel_step H3.out HB5.out)
  clear hw5 hp5 hb5 c0 c1 c2 d0 d1 d2 d3 d4 d5 d6 hp9
  obtain ⟨a0, a1, a2, a3⟩ := blk3 HM5.out
  obtain ⟨d0, d1, d2, d3⟩ := blk3 HP5.out
  have HFM := Lib.hid (findm_any N m q f A cw w5 HO5.out.2.2.1 HO5.out.2.1)
  go_upto_region 8 with (first
    | (go_at_call 53; with_reducible refine HFM.out.mono ?_; rintro e w6 ⟨rfl, h6⟩; rw [HWQ.out]))
  have H6 := Lib.hid (bel_step H5.out h6)
  have HP6 := Lib.hid ((h6.block _ (Array.getElem?_eq_some_iff.1 HP5.out).1).trans HP5.out)
  have HM6 := Lib.hid ((h6.block _ (Array.getElem?_eq_some_iff.1 HM5.out).1).trans HM5.out)
  have HO6 := Lib.hid (HO5.out.keep h6)
  clear h6 a0 a1 a2 a3 d0 d1 d2 d3
  obtain ⟨a0, a1, a2, a3⟩ := blk3 HM6.out
  obtain ⟨d0, d1, d2, d3⟩ := blk3 HP6.out
  clear hw
  have HCK := Lib.hid (check_one b c 3 m (m - 1) N q f A cw (.slice A q cw) w6 (by omega) HO6.out)
  go_upto_region 11 with (first
    | (go_at_call 55; with_reducible refine HCK.out.mono ?_; rintro e w7 ⟨rfl, h7⟩))
  have H7 := Lib.hid (bel_step H6.out h7)
  have HM7 := Lib.hid ((h7.block _ (Array.getElem?_eq_some_iff.1 HM6.out).1).trans HM6.out)
  have HD := Lib.hid (dup1 b c N q f A cw w7 (HO6.out.keep h7))
  clear h7 a0 a1 a2 a3 d0 d1 d2 d3
  go_upto_region 14 with (first
    | (go_at_call 56; with_reducible refine HD.out.mono ?_; rintro e w8 ⟨g, c8, A8, cw8, rfl, hob, h8⟩))
  have H8 := Lib.hid (bel_step H7.out h8)
  have HM8 := Lib.hid ((h8.block _ (Array.getElem?_eq_some_iff.1 HM7.out).1).trans HM7.out)
  have HOB := Lib.hid hob
  have HG8 := Lib.hid (And.intro (hob.1.lt g rfl).1 (Array.getElem?_eq_some_iff.1 HM7.out).1)
  clear hob h8
  obtain ⟨a0, a1, a2, a3⟩ := blk3 HM8.out
  obtain ⟨⟨c0, c1, c2⟩, _⟩ := HOB.out.b1
  go_upto_region 15 with fail
  go_quiet (fail)
  obtain ⟨w9, hw9⟩ : ∃ w9, w8.drewN nq = w9 := ⟨_, rfl⟩
  have hb9 : Below w8.heap.size w8 w9 := by rw [← hw9]; exact below_drewN (Below.refl _ _) nq
  have hh9 : w9.heap = w8.heap := by rw [← hw9]; rfl
  rw [hw9]
  have HOB9 : Hid (OB w9 w7.heap.size g c8 N q f A8 cw8) := Lib.hid ⟨own_below HOB.out.1 hb9, own_below HOB.out.2.1 hb9, HOB.out.2.2⟩
  have H9 := Lib.hid (bel_step H8.out hb9)
  have HM9 : Hid (w9.heap[w.heap.size]? = some (.cells #[.int .i64 3, .int .i64 m, .int .i64 (m - 1)] 69 (0, 0))) := Lib.hid (by rw [hh9]; exact HM8.out)
  clear hw9 hb9 hh9 a0 a1 a2 a3 c0 c1 c2
  obtain ⟨a0, a1, a2, a3⟩ := blk3 HM9.out
  obtain ⟨⟨c0, c1, c2⟩, _⟩ := HOB9.out.b1
  have HWT := Lib.hid (insf_wt HOB9.out.2.2 (m := m) (by omega) HWQ.out (by omega))
  have HINS := Lib.hid (fun W hW => insm_any (q := q) (cw := cw8) (at_ := pl f m q) (m := m) HOB9.out (pl_le f m q) (W := W) hW)
  go_upto_region 16 with fail
  have HFZ : Hid (∀ w10, Below w9.drew.heap.size w9.drew w10 → w10.cell? ⟨g, 2, none⟩ = some (.slice A8 q cw8) ∧ w10.frozen? ⟨g, 2, none⟩ = false) := Lib.hid fun w10 hb => ⟨old_at (w := w9.drew) HOB9.out.b1.1.2.2 hb, (hb.frozen (p := ⟨g, 2, none⟩) (HOB9.out.1.lt g rfl).2).trans (HOB9.out.1.frozenAt 2)⟩
  go_region_with (first
    | (go_at_call 58; refine (HINS.out w9.drew (Below.refl _ _).drew).mono ?_; rintro e w10 ⟨v, rfl, hown, hb10⟩; obtain ⟨A4, c4, rfl, hc4, hn4, _⟩ := own_form hown; obtain ⟨z2, z3⟩ := HFZ.out w10 hb10))
  all_goals
    obtain ⟨hb1, hbl⟩ := ob_wait HOB9.out hb10 hown HWT.out hc4 hn4
    have HB1 := Lib.hid hb1
    have HBL := Lib.hid (H9.out.trans (hbl.mono (by have := HG8.out; have := H7.out.size; omega)))
    have HFR : Hid (w.heap.size ≤ g ∧ ∀ b o, A4 = some ⟨b, o, none⟩ → w.heap.size ≤ b) := Lib.hid ⟨by have := HG8.out; have := HB0.out.size; have := H7.out.size; omega, fun b o e => by subst e; have h1 := (hown.lt b rfl).1; have h2 : w9.drew.heap.size = w9.heap.size := rfl; have := HB0.out.size; have := H9.out.size; omega⟩
    clear hb1 hbl hown hb10 z2 z3 hn4
    go_wp2_with fail
    go_ret3
    exact ⟨_, _, _, _, rfl, HB1.out, HB0.out.trans (HBL.out.mono HB0.out.size), HFR.out⟩
set_option maxRecDepth 100000 in
set_option maxHeartbeats 2000000 in
theorem rec_wait0 (m : Int) (f : Nat → Int) (w : World) (hm : 1 ≤ m ∧ m ≤ 999) (hNm : 1 < m) :
    Calls Try.prog 21 #[.slice none 0 0, .agg #[.int .i64 3, .int .i64 m, .int .i64 (m - 1)]] w fun e w' => ∃ g c' A' cw', e = .returned (.tuple #[.slice (some ⟨g, 0, none⟩) 1 c', .slice none 0 0, .int .i64 0]) ∧ B1 w' g 1 1 (insf f (pl f m 0) m) A' cw' ∧ Below w.heap.size w w' ∧ w.heap.size ≤ g ∧ ∀ b o, A' = some ⟨b, o, none⟩ → w.heap.size ≤ b := by
  have hwt : Wt 1 0 f := ⟨by omega, by omega, fun i hi => by omega, fun i j _ hj => by omega⟩
  have HWT0 := Lib.hid hwt
  clear hwt
  have HV := Lib.hid (fun W => vmsg_yes 3 m (m - 1) W (by omega) (by omega) (by omega))
  have HMB := Lib.hid (heap_alloc_new w (.cells #[.int .i64 3, .int .i64 m, .int .i64 (m - 1)] 69))
  have HB0 := Lib.hid (bel_alloc (Below.refl _ w) (.cells #[.int .i64 3, .int .i64 m, .int .i64 (m - 1)] 69))
  obtain ⟨w0, hw0⟩ : ∃ w0, w.alloc (.cells #[.int .i64 3, .int .i64 m, .int .i64 (m - 1)] 69) = w0 := ⟨_, rfl⟩
  rw [hw0] at HMB HB0
  go_enter Try.func21, Try.ntmps21
  go_upto_region 1 with fail
  clear hw0
  go_upto_region 3 with (first
    | (go_at_call 49; with_reducible refine (valid0 _).mono ?_; rintro e w1 ⟨rfl, h1⟩
       obtain ⟨a0, a1, a2, a3⟩ := blk3 ((h1.block _ (Array.getElem?_eq_some_iff.1 HMB.out).1).trans HMB.out))
    | (go_at_call 50; with_reducible refine (HV.out _).mono ?_; rintro e w2 ⟨rfl, h2⟩))
  have H2 := Lib.hid (bel_step h1 h2)
  have HM2 := Lib.hid ((H2.out.block _ (Array.getElem?_eq_some_iff.1 HMB.out).1).trans HMB.out)
  clear h1 h2 a0 a1 a2 a3
  obtain ⟨a0, a1, a2, a3⟩ := blk3 HM2.out
  go_upto_region 4 with (first
    | (go_at_call 51; with_reducible refine (find0 _).mono ?_; rintro e w3 ⟨rfl, h3⟩))
  have H3 := Lib.hid (bel_step H2.out h3)
  have HM3 := Lib.hid ((h3.block _ (Array.getElem?_eq_some_iff.1 HM2.out).1).trans HM2.out)
  clear h3 a0 a1 a2 a3
  obtain ⟨a0, a1, a2, a3⟩ := blk3 HM3.out
  go_upto_region 7 with fail
  have HB5 := Lib.hid (bel_alloc (Below.refl _ w3) (.cells #[.int .i64 3, .int .i64 1, .slice none 0 0] 123))
  have HP5 := Lib.hid (heap_alloc_new w3 (.cells #[.int .i64 3, .int .i64 1, .slice none 0 0] 123))
  obtain ⟨p9, hp9⟩ : ∃ p9, w3.heap.size = p9 := ⟨_, rfl⟩
  obtain ⟨w5, hw5⟩ : ∃ w5, w3.alloc (.cells #[.int .i64 3, .int .i64 1, .slice none 0 0] 123) = w5 := ⟨_, rfl⟩
  rw [hw5] at HB5 HP5 ⊢
  rw [hp9] at HP5 ⊢
  have HM5 := Lib.hid ((HB5.out.block _ (Array.getElem?_eq_some_iff.1 HM3.out).1).trans HM3.out)
  have H5 := Lib.hid (bel_step H3.out HB5.out)
  clear hw5 hp9 a0 a1 a2 a3
  obtain ⟨a0, a1, a2, a3⟩ := blk3 HM5.out
  obtain ⟨d0, d1, d2, d3⟩ := blk3 HP5.out
  have HFM := Lib.hid (findm_any 1 m 0 f none 0 w5 HWT0.out (fun i hi => by omega))
  have HWQ : Hid (isW f m 0 = false) := Lib.hid (by simp [isW])
  go_upto_region 8 with (first
    | (go_at_call 53; with_reducible refine HFM.out.mono ?_; rintro e w6 ⟨rfl, h6⟩; rw [HWQ.out]))
  have H6 := Lib.hid (bel_step H5.out h6)
  have HP6 := Lib.hid ((h6.block _ (Array.getElem?_eq_some_iff.1 HP5.out).1).trans HP5.out)
  have HM6 := Lib.hid ((h6.block _ (Array.getElem?_eq_some_iff.1 HM5.out).1).trans HM5.out)
  clear h6 a0 a1 a2 a3 d0 d1 d2 d3
  obtain ⟨a0, a1, a2, a3⟩ := blk3 HM6.out
  obtain ⟨d0, d1, d2, d3⟩ := blk3 HP6.out
  have HCK := Lib.hid (check_none 3 m (m - 1) 1 (.slice none 0 0) w6 (by omega))
  go_upto_region 11 with (first
    | (go_at_call 55; with_reducible refine HCK.out.mono ?_; rintro e w7 ⟨rfl, h7⟩))
  have H7 := Lib.hid (bel_step H6.out h7)
  have HM7 := Lib.hid ((h7.block _ (Array.getElem?_eq_some_iff.1 HM6.out).1).trans HM6.out)
  have HP7 := Lib.hid ((h7.block _ (Array.getElem?_eq_some_iff.1 HP6.out).1).trans HP6.out)
  clear h7 a0 a1 a2 a3 d0 d1 d2 d3
  go_upto_region 12 with (first
    | (go_at_call 56; with_reducible refine (dup0b _).mono ?_; rintro e wd ⟨rfl, hbd⟩))
  have HBD := Lib.hid hbd
  have HPD := Lib.hid ((hbd.block _ (Array.getElem?_eq_some_iff.1 HP7.out).1).trans HP7.out)
  clear hbd
  obtain ⟨d0, d1, d2, d3⟩ := blk3 HPD.out
  go_upto_region 14 with (first
    | (go_at_call 57; with_reducible refine (insb_new _ _ _).mono ?_; rintro e w8 ⟨g, c8, rfl, hown8, h8⟩))
  have H8 := Lib.hid (bel_step (bel_step H7.out HBD.out) h8)
  have HM8 := Lib.hid ((h8.block _ (Nat.lt_of_lt_of_le (Array.getElem?_eq_some_iff.1 HM7.out).1 HBD.out.size)).trans ((HBD.out.block _ (Array.getElem?_eq_some_iff.1 HM7.out).1).trans HM7.out))
  have HOB : Hid (OB w8 w7.heap.size g c8 1 0 f none 0) := Lib.hid ⟨own_mono hown8 HBD.out.size, World.ownsRow_nil _ _ _ _, HWT0.out⟩
  have HG8 := Lib.hid (And.intro (HOB.out.1.lt g rfl).1 (Array.getElem?_eq_some_iff.1 HM7.out).1)
  clear hown8 h8 d0 d1 d2 d3
  obtain ⟨a0, a1, a2, a3⟩ := blk3 HM8.out
  obtain ⟨⟨c0, c1, c2⟩, _⟩ := HOB.out.b1
  go_upto_region 15 with fail
  go_quiet (fail)
  obtain ⟨w9, hw9⟩ : ∃ w9, w8.drewN nq = w9 := ⟨_, rfl⟩
  have hb9 : Below w8.heap.size w8 w9 := by rw [← hw9]; exact below_drewN (Below.refl _ _) nq
  have hh9 : w9.heap = w8.heap := by rw [← hw9]; rfl
  rw [hw9]
  have HOB9 : Hid (OB w9 w7.heap.size g c8 1 0 f none 0) := Lib.hid ⟨own_below HOB.out.1 hb9, own_below HOB.out.2.1 hb9, HOB.out.2.2⟩
  have H9 := Lib.hid (bel_step H8.out hb9)
  have HM9 : Hid (w9.heap[w.heap.size]? = some (.cells #[.int .i64 3, .int .i64 m, .int .i64 (m - 1)] 69 (0, 0))) := Lib.hid (by rw [hh9]; exact HM8.out)
  clear hw9 hb9 hh9 a0 a1 a2 a3 c0 c1 c2
  obtain ⟨a0, a1, a2, a3⟩ := blk3 HM9.out
  obtain ⟨⟨c0, c1, c2⟩, _⟩ := HOB9.out.b1
  have HWT := Lib.hid (insf_wt HOB9.out.2.2 (m := m) (by omega) HWQ.out (by omega))
  have HINS := Lib.hid (fun W hW => insm_any (q := 0) (cw := 0) (at_ := pl f m 0) (m := m) HOB9.out (pl_le f m 0) (W := W) hW)
  go_upto_region 16 with fail
  have HFZ : Hid (∀ w10, Below w9.drew.heap.size w9.drew w10 → w10.cell? ⟨g, 2, none⟩ = some (.slice none 0 0) ∧ w10.frozen? ⟨g, 2, none⟩ = false) := Lib.hid fun w10 hb => ⟨old_at (w := w9.drew) HOB9.out.b1.1.2.2 hb, (hb.frozen (p := ⟨g, 2, none⟩) (HOB9.out.1.lt g rfl).2).trans (HOB9.out.1.frozenAt 2)⟩
  go_region_with (first
    | (go_at_call 58; refine (HINS.out w9.drew (Below.refl _ _).drew).mono ?_; rintro e w10 ⟨v, rfl, hown, hb10⟩; obtain ⟨A4, c4, rfl, hc4, hn4, _⟩ := own_form hown; obtain ⟨z2, z3⟩ := HFZ.out w10 hb10))
  all_goals
    obtain ⟨hb1, hbl⟩ := ob_wait HOB9.out hb10 hown HWT.out hc4 hn4
    have HB1 := Lib.hid hb1
    have HBL := Lib.hid (H9.out.trans (hbl.mono (by have := HG8.out; have := H7.out.size; omega)))
    have HFR : Hid (w.heap.size ≤ g ∧ ∀ b o, A4 = some ⟨b, o, none⟩ → w.heap.size ≤ b) := Lib.hid ⟨by have := HG8.out; have := HB0.out.size; have := H7.out.size; omega, fun b o e => by subst e; have h1 := (hown.lt b rfl).1; have h2 : w9.drew.heap.size = w9.heap.size := rfl; have := HB0.out.size; have := H9.out.size; omega⟩
    clear hb1 hbl hown hb10 z2 z3 hn4
    go_wp2_with fail
    go_ret3
    exact ⟨_, _, _, _, rfl, HB1.out, HB0.out.trans (HBL.out.mono HB0.out.size), HFR.out⟩
end Go.Proofs.Ytkhmlbkkdflnoaa.Hb
