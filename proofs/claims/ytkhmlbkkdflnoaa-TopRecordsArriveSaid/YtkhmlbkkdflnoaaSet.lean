/-
  THE WALK over w17Settled.
-/
import Derived.Test.YtkhmlbkkdflnoaaSetC
import Derived.Test.YtkhmlbkkdflnoaaSes
namespace Go.Proofs.Ytkhmlbkkdflnoaa.Rc
open Go.RowKit
open Ch (lkf rws eSum Sq cum)
open Mt (TK)
set_option linter.unusedVariables false
set_option linter.unusedSimpArgs false
attribute [local go_sem ↓] Go.wp_at_zero Go.wp_at_succ

def sF : Nat → Int := fun _ => 5
def sG : Nat → Int := fun i => if i = 0 then 100 else 200
def sE : Nat → Bool := fun _ => true
def sH : Nat → Int := fun i => if i = 0 then 0 else 1
def sK : Nat → Int := fun j => if j = 0 then 1 else if j = 1 then 2 else if j = 2 then 3 else 4
def sX : Nat → Nat → Int := YS sK (cum sG) 3 10000 2 sH [(1, 2), (2, 3)]
def sY : Nat → Int := fun i => if i = 0 then 3000 else if i = 1 then -1000 else -2000
def sP : Nat → Nat → Int := fun i j => if i = 0 then (if j = 0 then 2 else if j = 1 then 0 else 2000) else (if j = 0 then 1 else if j = 1 then 0 else 1000)
theorem s_segs : segs 3 1 sE 2 = [(1, 2), (2, 3)] := by decide
theorem s_all : allR 3 sX 2 := two (by decide) (by decide)
theorem s_wf : ∀ i, i < 2 → (Lit.int .i64 (sX i 0)).wf = true := two (by decide) (by decide)
theorem s_nd : ¬ dup sX 2 := by
  rintro ⟨i, hi, j, hj, h1, h2⟩
  have : i = 1 ∧ j = 0 := by omega
  obtain ⟨rfl, rfl⟩ := this
  revert h2
  decide
theorem s_get : ∀ i, i < 3 → get sX 2 i = sY i := three (by decide) (by decide) (by decide)
theorem s_bal : balB sY 3 = true := by decide
theorem s_paid : Paid 3 sY 2 ∧ am (Yt 3 sY 2) 3 ≤ 0 := by
  obtain ⟨h1, h2, h3⟩ := balB_iff.1 s_bal
  exact ⟨((paid_zero h2 h3).next h1.1 (by decide)).next h1.1 (by decide), by decide⟩
theorem s_pym : ∀ i, i < 2 → pym 3 sY i 0 = sP i 0 ∧ pym 3 sY i 1 = sP i 1 ∧ pym 3 sY i 2 = sP i 2 := by decide
theorem TK_lit {w : World} {g : Nat} {cs : Array Value} {t : TypeId} {n : Nat} {x y : Nat → Int} (hg : w.heap[g]? = some (.cells cs t (0, 0))) (h : ∀ i, i < n → (cs[i * 2]? = some (.int .u8 (x i)) ∧ cs[i * 2 + 1]? = some (.int .u8 (y i))) ∧ (0 ≤ x i ∧ x i ≤ 255) ∧ 0 ≤ y i ∧ y i ≤ 255) : TK w (some ⟨g, 0, none⟩) n x y := fun i hi => by
  refine ⟨g, 0, rfl, (Array.getElem?_eq_some_iff.1 hg).1, ?_, ?_, (h i hi).2⟩ <;> rw [Nat.zero_add, cell_of_row w g _ cs _ (0, 0) hg]
  · exact (h i hi).1.1
  · exact (h i hi).1.2
theorem BO_lit {w : World} {g : Nat} {cs : Array Value} {t : TypeId} {n : Nat} {z : Nat → Bool} (hg : w.heap[g]? = some (.cells cs t (0, 0))) (h : ∀ i, i < n → cs[i]? = some (.bool (z i))) : BO w (some ⟨g, 0, none⟩) n z := fun i hi => by
  refine ⟨g, 0, rfl, (Array.getElem?_eq_some_iff.1 hg).1, ?_⟩
  rw [Nat.zero_add, cell_of_row w g i cs _ (0, 0) hg]
  exact h i hi
theorem UO_lit {w : World} {g : Nat} {cs : Array Value} {t : TypeId} {n : Nat} {z : Nat → Int} (hg : w.heap[g]? = some (.cells cs t (0, 0))) (h : ∀ i, i < n → cs[i]? = some (.int .u8 (z i)) ∧ 0 ≤ z i ∧ z i ≤ 255) : UO w (some ⟨g, 0, none⟩) n z := fun i hi => by
  refine ⟨g, 0, rfl, (Array.getElem?_eq_some_iff.1 hg).1, ?_, (h i hi).2⟩
  rw [Nat.zero_add, cell_of_row w g i cs _ (0, 0) hg]
  exact (h i hi).1
theorem s_chain (w : World) : Calls Try.prog 15 #[.int .u64 3, .slice (some ⟨w.heap.size, 0, none⟩) 2 2] (w.alloc (.cells #[.int .u8 5, .int .u8 100, .int .u8 5, .int .u8 200] 92))
      fun e w' => ∃ b cap, e = .returned (.tuple #[.slice (some ⟨b, 0, none⟩) 3 cap, .bool true]) ∧
        RG w' (some ⟨b, 0, none⟩) 3 (rws 3 1 (cum sF) (cum sG) 2) ∧ Below w.heap.size w w' := by
  refine (Ch.chain_ok 3 _ 2 2 sF sG _ (TK_lit (heap_alloc_new w _) (two ⟨⟨rfl, rfl⟩, by decide, by decide⟩ ⟨⟨rfl, rfl⟩, by decide, by decide⟩)) (by omega)).mono ?_
  rintro e w' ⟨b, cap, rfl, h1, h2, h3, h4⟩
  exact ⟨b, cap, rfl, h1, bel_step (bel_a w _) h4⟩
theorem s_sq : Sq 1 (cum sF) (cum sG) 2 := Ch.cum_sq (by omega) (fun i hi => by unfold sF; omega) (fun i hi => by unfold sG; split <;> omega)
theorem s_bd : ∀ i, i ≤ 2 → 0 ≤ cum sG i ∧ cum sG i ≤ 100000 := fun i hi => by
  have := Ch.cum_bd (f := sG) (n := 2) (fun i hi => by unfold sG; split <;> omega) i hi
  omega
theorem s_sess (A : Option Addr) (c : Nat) (w : World) (hR : RG w A 3 (rws 3 1 (cum sF) (cum sG) 2)) :
    Calls Try.prog 16 #[.slice A 3 c, .slice (some ⟨w.heap.size, 0, none⟩) 1 1, .slice (some ⟨w.heap.size + 1, 0, none⟩) 2 2, .int .i64 3, .int .i64 10000, .agg #[.int .u64 1, .int .u64 2, .int .u64 3, .int .u64 4]]
      ((w.alloc (.cells #[.bool true] 4)).alloc (.cells #[.int .u8 0, .int .u8 1] 5))
      fun x w' => ∃ (A' : Option Addr) (c' : Nat), x = .returned (.tuple #[.slice A' 2 c', .int .i64 300, .bool true]) ∧ RR w' A' 2 sX ∧ Below w.heap.size w w' := by
  have hE := (BO_lit (z := sE) (n := 1) (heap_alloc_new w (.cells #[.bool true] 4)) (one1 rfl)).keep (bel_a _ (.cells #[.int .u8 0, .int .u8 1] 5))
  have hH := UO_lit (z := sH) (n := 2) (heap_alloc_new (w.alloc (.cells #[.bool true] 4)) (.cells #[.int .u8 0, .int .u8 1] 5)) (two ⟨rfl, by decide, by decide⟩ ⟨rfl, by decide, by decide⟩)
  rw [World.size_alloc] at hH
  have h2 := bel_alloc (bel_a w (.cells #[.bool true] 4)) (.cells #[.int .u8 0, .int .u8 1] 5)
  have h0 := sessions_ok 3 (cum sF) (cum sG) sK 2 A c _ 1 1 sE _ 2 2 sH 3 10000 _ s_sq s_bd (by omega) (hR.keep h2) hE hH (by omega) (by omega) (by omega) (by omega)
  refine h0.mono ?_
  rintro e w' ⟨A', c', rfl, h3, h4⟩
  have e1 : segs (2 + 1) 1 sE 2 = [(1, 2), (2, 3)] := s_segs
  rw [e1] at h3 ⊢
  refine ⟨A', c', ?_, RR_own h3, bel_step h2 h4⟩
  rw [show cum sG (fsts [(1, 2), (2, 3)] - 1) - cum sG 0 = 300 by decide]
  rfl
set_option maxRecDepth 100000 in
set_option maxHeartbeats 8000000 in
theorem settled_ok (w : World) : Calls Try.prog 14 #[] w fun e w' => e = .returned (.bool true) ∧ Below w.heap.size w w' := by
  go_enter Try.func14, Try.ntmps14
  go_upto_region 2 with (first
    | (go_at_call 15; with_reducible refine (s_chain _).mono ?_; rintro e w1 ⟨b, cap, rfl, hr1, hb1⟩))
  have HR1 := Lib.hid hr1
  have HB1 := Lib.hid hb1
  clear hr1 hb1
  go_upto_region 3 with (first
    | (go_at_call 16; with_reducible refine (s_sess _ _ _ HR1.out).mono ?_; rintro e w2 ⟨A2, c2, rfl, hr2, hb2⟩))
  have HR2 := Lib.hid hr2
  have HB2 := Lib.hid (bel_step HB1.out hb2)
  clear hr2 hb2
  go_upto_region 4 with (first
    | (go_at_call 17; refine (net_ok _ 2 c2 sX 3 _ (by omega) (by omega) HR2.out s_wf s_all s_nd).mono ?_; rintro e w3 ⟨g3, rfl, ho3, hb3⟩))
  have HO3 := Lib.hid (ho3.congr s_get)
  have HB3 := Lib.hid (bel_step HB2.out hb3)
  clear ho3 hb3
  go_upto_region 5 with (first
    | (go_at_call 18; refine (pay_ok _ 3 3 sY _ 2 HO3.out.rz s_bal s_paid.1 s_paid.2).mono ?_; rintro e w4 ⟨A4, c4, rfl, hp4, hb4⟩))
  have HP4 := Lib.hid (hp4.congr s_pym)
  have HB4 := Lib.hid (bel_step HB3.out hb4)
  have HO4 := Lib.hid (HO3.out.below hb4)
  clear hp4 hb4
  go_wp2_with (first
    | (go_at_call 22; refine (ints_yes _ _ 3 3 3 sY _ (by omega) (HO4.out.below (bel_a _ _)).rz (RZ_lit (heap_alloc_new _ _) (three rfl rfl rfl))).mono ?_; rintro e w5 ⟨rfl, hb5⟩
       have S5 := Lib.hid (bel_step (bel_a w4 _) hb5)
       have H5 := Lib.hid (bel_step HB4.out S5.out)
       have HP5 := Lib.hid (HP4.out.keep S5.out)
       clear S5 hb5)
    | (go_at_call 39; refine (same_yes _ _ 2 _ 2 sP _ (by omega) (HP5.out.keep (bel_a _ _)) (RP_lit (heap_alloc_new _ _) (two ⟨rfl, rfl, rfl⟩ ⟨rfl, rfl, rfl⟩))).mono ?_; rintro e w6 ⟨rfl, hb6⟩))
  go_ret
  exact ⟨rfl, bel_step (bel_step H5.out (bel_a w5 _)) hb6⟩
end Go.Proofs.Ytkhmlbkkdflnoaa.Rc
