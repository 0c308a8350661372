/-
  THE WALK over head.
-/
import Derived.Test.YtflehgdhdfmacaaHeadb
namespace Go.Proofs.Ytflehgdhdfmacaa
open Go.RowKit
set_option linter.unusedVariables false
attribute [local go_sem ↓] Go.wp_at_zero Go.wp_at_succ

def xP : Nat → Nat → Int := fun i j => if i = 0 then (if j = 0 then 0 else if j = 1 then 2 else 25) else (if j = 0 then 0 else if j = 1 then 1 else 20)
def xQ : Nat → Nat → Int := fun i j => if i = 0 then (if j = 0 then 0 else if j = 1 then 3 else 9) else if i = 1 then (if j = 0 then 2 else if j = 1 then 1 else 3) else (if j = 0 then 0 else if j = 1 then 1 else 1)
theorem xP_pym : ∀ i, i < 2 → pym 3 xY i 0 = xP i 0 ∧ pym 3 xY i 1 = xP i 1 ∧ pym 3 xY i 2 = xP i 2 := by decide
theorem xQ_pym : ∀ i, i < 3 → pym 4 xZ i 0 = xQ i 0 ∧ pym 4 xZ i 1 = xQ i 1 ∧ pym 4 xZ i 2 = xQ i 2 := by decide
theorem rec_lit (a b c d : Int) (w : World) : Calls Try.prog 19 #[.int .i64 a, .int .i64 b, .int .i64 c, .int .i64 d] w
    fun e w' => e = .returned (.agg #[.int .i64 a, .int .i64 0, .int .i64 0, .int .i64 b, .int .i64 c, .int .i64 0, .int .i64 0, .int .i64 0, .int .i64 d, .int .u64 0, .int .u64 0, .int .u64 0, .int .u64 0]) ∧ Below w.heap.size w w' := rec_any a b c d w
theorem own_below {W W' : World} {B : Nat} {t : TypeId} {s n : Nat} {v : Value} {xs : List Value} (h : W.ownsRow B t s v n xs) (hb : Below W.heap.size W W') : W'.ownsRow B t s v n xs := by
  refine ⟨h.1, ?_⟩
  rcases h.2 with h' | ⟨g, cap, cur, h1, h2, h3, h4⟩
  · exact .inl h'
  · exact .inr ⟨g, cap, cur, h1, h2, (hb.block g (Array.getElem?_eq_some_iff.1 h3).1).trans h3, h4⟩
theorem one1 {P : Nat → Prop} (h0 : P 0) : ∀ i, i < 1 → P i := fun i hi => by
  obtain rfl : i = 0 := by omega
  exact h0
theorem nil_RG {w : World} {X : Nat → Nat → Int} : RG w none 0 X := fun i hi => by omega
theorem bel_a (w : World) (o : Obj) : Below w.heap.size w (w.alloc o) := bel_alloc (Below.refl _ _) o
theorem below_two {B : Nat} {w w' : World} (h : Below B w w') (hB : B ≤ w'.heap.size) (o o' : Obj) : Below B w ((w'.alloc o).alloc o') := (h.alloc hB o).alloc (by simp; omega) o'

theorem disp_ex (w : World) : Calls Try.prog 14 #[.slice (some ⟨w.heap.size, 0, none⟩) 2 2, .slice (some ⟨w.heap.size + 1, 0, none⟩) 2 2]
    ((w.alloc (.cells #[.int .i64 0, .int .i64 1, .int .i64 0, .int .i64 0, .int .u64 0, .int .i64 0, .int .i64 2, .int .i64 0, .int .i64 0, .int .u64 0] 49)).alloc (.cells #[.int .i64 0, .int .i64 1, .int .i64 0, .int .i64 0, .int .u64 0, .int .i64 0, .int .i64 2, .int .i64 0, .int .i64 1, .int .u64 0] 49))
    fun e w' => e = .returned (.tuple #[.int .i64 1, .bool true, .int .i64 0]) ∧ Below w.heap.size w w' := by
  have h1 := (RG_lit (X := xA) (n := 2) (heap_alloc_new w (.cells #[.int .i64 0, .int .i64 1, .int .i64 0, .int .i64 0, .int .u64 0, .int .i64 0, .int .i64 2, .int .i64 0, .int .i64 0, .int .u64 0] 49)) (two ⟨rfl, rfl, rfl, rfl, rfl⟩ ⟨rfl, rfl, rfl, rfl, rfl⟩)).keep (bel_a _ (.cells #[.int .i64 0, .int .i64 1, .int .i64 0, .int .i64 0, .int .u64 0, .int .i64 0, .int .i64 2, .int .i64 0, .int .i64 1, .int .u64 0] 49))
  have h2 := RG_lit (X := xB) (n := 2) (heap_alloc_new (w.alloc (.cells #[.int .i64 0, .int .i64 1, .int .i64 0, .int .i64 0, .int .u64 0, .int .i64 0, .int .i64 2, .int .i64 0, .int .i64 0, .int .u64 0] 49)) (.cells #[.int .i64 0, .int .i64 1, .int .i64 0, .int .i64 0, .int .u64 0, .int .i64 0, .int .i64 2, .int .i64 0, .int .i64 1, .int .u64 0] 49)) (two ⟨rfl, rfl, rfl, rfl, rfl⟩ ⟨rfl, rfl, rfl, rfl, rfl⟩)
  rw [World.size_alloc] at h2
  refine (disp_any _ _ 2 2 2 2 xA xB _ (by omega) (by omega) h1 h2).mono ?_
  rintro e w' ⟨rfl, hb⟩
  exact ⟨ret_three (by decide) (by decide) rfl, bel_step (bel_alloc (bel_a w _) _) hb⟩

set_option maxRecDepth 100000 in
set_option maxHeartbeats 4000000 in
theorem head_any (w : World) : Calls Try.prog 9 #[] w fun e w' => e = .returned (.bool true) ∧ Below w.heap.size w w' := by
  obtain ⟨r0, hr, hr0, hr1, hr2⟩ := info_parts infoRec
  have HJ := Lib.hid hr
  have HY0 := Lib.hid hr0
  have HY1 := Lib.hid hr1
  have HY2 := Lib.hid hr2
  clear hr hr0 hr1 hr2
  go_enter Try.func9, Try.ntmps9
  go_upto_region 2 with (first
    | (go_at_call 19; with_reducible refine (rec_lit 1 0 1 50 _).mono ?_; rintro e w1 ⟨rfl, hb1⟩)
    | (go_at_call 19; with_reducible refine (rec_lit 1 1 2 30 _).mono ?_; rintro e w2 ⟨rfl, hb2⟩)
    | (go_at_call 19; with_reducible refine (rec_lit 1 2 0 5 _).mono ?_; rintro e w3 ⟨rfl, hb3⟩))
  have H3 := Lib.hid (bel_step (bel_step hb1 hb2) hb3)
  have hs3 := H3.out.size
  clear hb1 hb2 hb3
  have HL := Lib.hid (own_new (W := w3) (B := w.heap.size) (t := 40) (s := 13) (n := 3) (cs := recs xL 3) hs3 (by decide) rfl)
  go_upto_region 3 with (go_at_call 10; refine (net_ok _ 3 3 xL 3 _ (by omega) (by omega) (RR_own HL.out) (wf_one (xL_one 3)) (xL_all 3) xL_nd).mono ?_; rintro e w4 ⟨ga, rfl, ra, hb4⟩)
  have H4 := Lib.hid (bel_step (bel_alloc H3.out _) hb4)
  have HL4 := Lib.hid (own_below HL.out hb4)
  have RA4 := Lib.hid (ra.congr xL_get)
  have hga := own_ne RA4.out HL4.out (by decide)
  have hs4 := H4.out.size
  have hs34 := hb4.size
  simp only [World.size_alloc] at hs34
  clear HL H3 ra hb4
  go_upto_region 4 with (first
    | (go_at_call 19; with_reducible refine (rec_lit 1 2 1 9 _).mono ?_; rintro e w5 ⟨rfl, hb5⟩
       have H5 := Lib.hid (bel_step H4.out hb5)
       have HL5 := Lib.hid (own_below HL4.out hb5)
       have RA5 := Lib.hid (RA4.out.below hb5)
       have hs5 := hb5.size
       clear H4 HL4 RA4 hb5)
    | (at_builtin; refine wpList_append_lies _ rfl (.tmp 29) (.tmp 31) 22 rfl w.heap.size 40 r0 _ 13 104 Try.underlying22 HJ.out HY0.out HY1.out HY2.out rfl (by omega) (.slice (some ⟨w3.heap.size, 0, none⟩) 3 3) 3 _ rfl (HL5.out.alloc _) ⟨w5.heap.size, 0, none⟩ 1 1 (rcL (rcX 1 2 1 9)) rfl rfl (World.news_of_block (heap_alloc_new w5 _)) (rcL_one _) (by omega) (by unfold maxLen; omega) (by omega) (by simp; omega) (w5.heap.size + 1) (by simp) ?_; intro g1 cap1 w6 hown6 hgrow6 hat6 hlt6
       have HL6 : Hid (w6.ownsRow w.heap.size 40 13 (.slice (some ⟨g1, 0, none⟩) 4 cap1) 4 (recs xL 4)) := Lib.hid hown6
       have H6 := Lib.hid ((bel_alloc H5.out _).grown hgrow6 (bel_alloc H5.out _).size (own_ge HL5.out))
       have RA6 := Lib.hid ((RA5.out.below (bel_a w5 _)).keep (hgrow6.block _ (RA5.out.below (bel_a w5 _)).lt (by simpa [Value.ownBlock] using fun e => hga e.symm))))
    | (go_at_call 10; refine (net_twice _ 4 cap1 xL 3 _ (by omega) (by omega) (RR_own HL6.out) (wf_one (xL_one 4)) (xL_all 4) xL_d).mono ?_; rintro e w7 ⟨rfl, hb7⟩))
  have H7 := Lib.hid (bel_step H6.out hb7)
  have RA7 := Lib.hid (RA6.out.below hb7)
  have hs7 := H7.out.size
  clear hown6 hgrow6 hat6 hlt6 HL6 H6 RA6 hb7 H5 HL5 RA5 hs3 hs4 hs34 hs5 HJ HY0 HY1 HY2
  go_upto_region 5 with (go_at_call 12; refine (pay_ok _ 3 3 xY _ 2 (RZ_lit (heap_alloc_new _ _) (three rfl rfl rfl)) xY_bal xY_paid.1 xY_paid.2).mono ?_; rintro e w8 ⟨Ap, cp, rfl, rp, hb8⟩)
  have S8 := Lib.hid (bel_step (bel_a w7 _) hb8)
  have H8 := Lib.hid (bel_step H7.out S8.out)
  have RA8 := Lib.hid (RA7.out.below S8.out)
  have RP8 := Lib.hid (rp.congr xP_pym)
  clear H7 RA7 S8 rp hb8
  go_upto_region 6 with (go_at_call 12; refine (pay_ok _ 4 4 xZ _ 3 (RZ_lit (heap_alloc_new _ _) (four rfl rfl rfl rfl)) xZ_bal xZ_paid.1 xZ_paid.2).mono ?_; rintro e w9 ⟨Aq, cq, rfl, rq, hb9⟩)
  have S9 := Lib.hid (bel_step (bel_a w8 _) hb9)
  have H9 := Lib.hid (bel_step H8.out S9.out)
  have RA9 := Lib.hid (RA8.out.below S9.out)
  have RP9 := Lib.hid (RP8.out.keep S9.out)
  have RQ9 := Lib.hid (rq.congr xQ_pym)
  clear H8 RA8 S9 rq hb9 RP8
  go_upto_region 7 with (go_at_call 12; refine (pay_no _ 1 1 xO _ (by omega) (RZ_lit (n := 1) (heap_alloc_new _ _) (one1 rfl)) xO_bal).mono ?_; rintro e w10 ⟨rfl, rfl⟩)
  have H10 := Lib.hid (bel_step H9.out (bel_a w9 (.cells #[.int .i64 1] 3)))
  have RA10 := Lib.hid (RA9.out.below (bel_a w9 (.cells #[.int .i64 1] 3)))
  have RP10 := Lib.hid (RP9.out.keep (bel_a w9 (.cells #[.int .i64 1] 3)))
  have RQ10 := Lib.hid (RQ9.out.keep (bel_a w9 (.cells #[.int .i64 1] 3)))
  obtain ⟨w10, hw10⟩ : ∃ w10, w9.alloc (.cells #[.int .i64 1] 3) = w10 := ⟨_, rfl⟩
  rw [hw10] at H10 RA10 RP10 RQ10 ⊢
  clear hw10 H9 RA9 RP9 RQ9
  go_upto_region 8 with (go_at_call 14; with_reducible refine (disp_ex _).mono ?_; rintro e w11 ⟨rfl, S11⟩)
  have H11 := Lib.hid (bel_step H10.out S11)
  have RA11 := Lib.hid (RA10.out.below S11)
  have RP11 := Lib.hid (RP10.out.keep S11)
  have RQ11 := Lib.hid (RQ10.out.keep S11)
  clear S11 H10 RA10 RP10 RQ10
  go_upto_region 9 with (go_at_call 14; refine (disp_any _ _ 0 0 0 0 xA xB _ (by omega) (by omega) nil_RG nil_RG).mono ?_; rintro e w12 ⟨rfl, hb12⟩; rw [show dN xA xB 0 0 = 0 by decide, show dI xA xB 0 0 = false by decide])
  have H12 := Lib.hid (bel_step H11.out hb12)
  have RA12 := Lib.hid (RA11.out.below hb12)
  have RP12 := Lib.hid (RP11.out.keep hb12)
  have RQ12 := Lib.hid (RQ11.out.keep hb12)
  clear H11 RA11 RP11 RQ11 hb12
  go_wp2_with (first
    | (go_at_call 16; refine (ints_yes _ _ 3 3 3 xY _ (by omega) (RA12.out.below (bel_a _ _)).rz (RZ_lit (heap_alloc_new _ _) (three rfl rfl rfl))).mono ?_; rintro e w13 ⟨rfl, hb13⟩
       have S13 := Lib.hid (bel_step (bel_a w12 _) hb13)
       have H13 := Lib.hid (bel_step H12.out S13.out)
       have RP13 := Lib.hid (RP12.out.keep S13.out)
       have RQ13 := Lib.hid (RQ12.out.keep S13.out)
       clear S13 hb13 H12 RP12 RQ12 RA12)
    | (go_at_call 17; refine (same_yes _ _ 2 _ 2 xP _ (by omega) (RP13.out.keep (bel_a _ _)) (RP_lit (heap_alloc_new _ _) (two ⟨rfl, rfl, rfl⟩ ⟨rfl, rfl, rfl⟩))).mono ?_; rintro e w14 ⟨rfl, hb14⟩
       have S14 := Lib.hid (bel_step (bel_a w13 _) hb14)
       have H14 := Lib.hid (bel_step H13.out S14.out)
       have RQ14 := Lib.hid (RQ13.out.keep S14.out)
       clear S14 hb14 H13 RP13 RQ13)
    | (go_at_call 17; refine (same_yes _ _ 3 _ 3 xQ _ (by omega) (RQ14.out.keep (bel_a _ _)) (RP_lit (heap_alloc_new _ _) (three ⟨rfl, rfl, rfl⟩ ⟨rfl, rfl, rfl⟩ ⟨rfl, rfl, rfl⟩))).mono ?_; rintro e w15 ⟨rfl, hb15⟩))
  go_ret
  exact ⟨rfl, bel_step (bel_step H14.out (bel_a w14 _)) hb15⟩
end Go.Proofs.Ytflehgdhdfmacaa
