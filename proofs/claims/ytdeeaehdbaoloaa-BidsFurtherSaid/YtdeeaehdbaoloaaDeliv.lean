/-
  THE WALKS over package bids, fourth part: Delivered.
-/
import Derived.Test.YtdeeaehdbaoloaaBase
namespace Go.Proofs.Ytdeeaehdbaoloaa
open Go.RowKit
set_option linter.unusedVariables false
attribute [local go_sem ↓] Go.wp_at_zero Go.wp_at_succ

theorem bs_bd {p : Nat → Bool} {z : Nat → Nat → Int} {D S : Nat} (h : ∀ i, i < 5 → 0 ≤ z (dy p D i) S ∧ z (dy p D i) S ≤ 1000) : 0 ≤ bs p z D S ∧ bs p z D S ≤ 1000 := by
  have hq : ∀ i, i < 5 → 0 ≤ (fun i => z (dy p D i) S) i ∧ (fun i => z (dy p D i) S) i ≤ 1000 := h
  have := tot_pos hq 5 (Nat.le_refl _)
  unfold bs
  omega
/-- how much less than its baseline, in a slot -/
def lv (p : Nat → Bool) (z : Nat → Nat → Int) (D s : Nat) : Int := max 0 (bs p z D s - z D s)

set_option maxRecDepth 100000 in
set_option maxHeartbeats 2000000 in
theorem less_any (Bd Bw By : Nat) (A : Option Addr) (n c : Nat) (L : Nat → Nat) (z : Nat → Nat → Int) (g cap : Nat) (p : Nat → Bool) (D s : Nat) (w : World) (hn : n ≤ 60) (hD : D < n) (hs : s < L D) (hL : L D ≤ 24) (hz : 0 ≤ z D s ∧ z D s ≤ 1000)
    (hd : ∀ i, i < 5 → (dy p D i < n ∧ s < L (dy p D i)) ∧ (0 ≤ z (dy p D i) s ∧ z (dy p D i) s ≤ 1000)) (c1 : w.cell? ⟨Bd, 0, none⟩ = some (.slice A n c)) (c2 : w.cell? ⟨Bw, 0, none⟩ = some (.slice (some ⟨g, 0, none⟩) 5 cap)) (c3 : w.cell? ⟨By, 0, none⟩ = some (.int .i64 (D : Int)))
    (hR : RM w A n L z) (hW : RZ w (some ⟨g, 0, none⟩) 5 (fun i => (dy p D i : Int))) :
    Calls Try.prog 25 #[.int .i64 (s : Int), .pointer (some ⟨Bd, 0, none⟩), .pointer (some ⟨Bw, 0, none⟩), .pointer (some ⟨By, 0, none⟩)] w fun e w' => e = .returned (.int .i64 (lv p z D s)) ∧ Below w.heap.size w w' := by
  have HR := Lib.hid hR
  have HW := Lib.hid hW
  have HD := Lib.hid hd
  have hbb := bs_bd fun i hi => (hd i hi).2
  clear hW hd
  obtain ⟨b2, o2, R, C, rfl, hb2, hc2, hC, _, hZ⟩ := hR D hD
  obtain ⟨b3, o3, rfl, hb3, hc3⟩ := hZ s hs
  clear hR hZ
  obtain ⟨v, hv⟩ : ∃ v, bs p z D s = v := ⟨_, rfl⟩
  rw [hv] at hbb
  have HV : Hid (tot (fun i => z (dy p D i) s) 5 / 5 = v) := Lib.hid hv
  have HL : Hid (lv p z D s = max 0 (v - z D s)) := by show _ = _; unfold lv; rw [hv]
  clear hv
  have l1 := World.block_lt_of_cell? w _ c1
  have l2 := World.block_lt_of_cell? w _ c2
  have l3 := World.block_lt_of_cell? w _ c3
  have i1 : (D : Int) < (n : Int) := by omega
  have i2 : (s : Int) < (L D : Int) := by omega
  have i3 : (0 : Int) ≤ (D : Int) := by omega
  have i4 : (0 : Int) ≤ (s : Int) := by omega
  have u1 : IntKind.i64.wrap (v - z D s) = v - z D s := IntWalk.i64_in _ (by omega)
  by_cases hp : 0 < v - z D s
  · go_enter Try.func25, Try.ntmps25
    go_wp2_with fail
    go_region_held3 (fun w' => w'.cell? ⟨Bd, 0, none⟩ = some (.slice (some ⟨b2, o2, none⟩) n c) ∧ w'.cell? ⟨Bw, 0, none⟩ = some (.slice (some ⟨g, 0, none⟩) 5 cap) ∧ w'.cell? ⟨By, 0, none⟩ = some (.int .i64 (D : Int)) ∧ w'.cell? ⟨b2, o2 + D, none⟩ = some (.slice (some ⟨b3, o3, none⟩) (L D) C) ∧ w'.cell? ⟨b3, o3 + s, none⟩ = some (.int .i64 (z D s))) (first | go_keep | exact ⟨(hq.cell (p := ⟨Bd, 0, none⟩) l1).trans c1, (hq.cell (p := ⟨Bw, 0, none⟩) l2).trans c2, (hq.cell (p := ⟨By, 0, none⟩) l3).trans c3, (hq.cell (p := ⟨b2, o2 + D, none⟩) hb2).trans hc2, (hq.cell (p := ⟨b3, o3 + s, none⟩) hb3).trans hc3⟩)
      (first
        | (go_at_call 23; refine (mean_any (some ⟨b2, o2, none⟩) n c L z (some ⟨g, 0, none⟩) 5 cap (dy p D) s _ (by omega) (by omega) (fun i hi => (HD.out i hi).1) (by omega) (fun i hi => by have := (HD.out i hi).2; omega) (HR.out.keep (by repeat (first | exact Below.refl _ _ | apply Below.drew))) (HW.out.keep (by repeat (first | exact Below.refl _ _ | apply Below.drew)))).mono ?_; rintro e w2 ⟨rfl, hb⟩; have hq : Below w.heap.size w w2 := bel_step (by repeat (first | exact Below.refl _ _ | apply Below.drew)) hb; clear hb; rw [HV.out]))
    go_wp2_with fail
    go_ret
    exact ⟨ret_int (by rw [HL.out]; omega), hq⟩
  · have hp2 : v - z D s ≤ 0 := by omega
    go_enter Try.func25, Try.ntmps25
    go_wp2_with fail
    go_region_held3 (fun w' => w'.cell? ⟨Bd, 0, none⟩ = some (.slice (some ⟨b2, o2, none⟩) n c) ∧ w'.cell? ⟨Bw, 0, none⟩ = some (.slice (some ⟨g, 0, none⟩) 5 cap) ∧ w'.cell? ⟨By, 0, none⟩ = some (.int .i64 (D : Int)) ∧ w'.cell? ⟨b2, o2 + D, none⟩ = some (.slice (some ⟨b3, o3, none⟩) (L D) C) ∧ w'.cell? ⟨b3, o3 + s, none⟩ = some (.int .i64 (z D s))) (first | go_keep | exact ⟨(hq.cell (p := ⟨Bd, 0, none⟩) l1).trans c1, (hq.cell (p := ⟨Bw, 0, none⟩) l2).trans c2, (hq.cell (p := ⟨By, 0, none⟩) l3).trans c3, (hq.cell (p := ⟨b2, o2 + D, none⟩) hb2).trans hc2, (hq.cell (p := ⟨b3, o3 + s, none⟩) hb3).trans hc3⟩)
      (first
        | (go_at_call 23; refine (mean_any (some ⟨b2, o2, none⟩) n c L z (some ⟨g, 0, none⟩) 5 cap (dy p D) s _ (by omega) (by omega) (fun i hi => (HD.out i hi).1) (by omega) (fun i hi => by have := (HD.out i hi).2; omega) (HR.out.keep (by repeat (first | exact Below.refl _ _ | apply Below.drew))) (HW.out.keep (by repeat (first | exact Below.refl _ _ | apply Below.drew)))).mono ?_; rintro e w2 ⟨rfl, hb⟩; have hq : Below w.heap.size w w2 := bel_step (by repeat (first | exact Below.refl _ _ | apply Below.drew)) hb; clear hb; rw [HV.out]))
    go_wp2_with fail
    go_ret
    exact ⟨ret_int (by rw [HL.out]; omega), hq⟩

/-- may what is delivered be asked for? -/
def dOK (n m : Nat) (L : Nat → Nat) (z : Nat → Nat → Int) (day : Int) : Bool := vd n m L z && decide (0 ≤ day ∧ day < n)
theorem dOK_iff {n m : Nat} {L : Nat → Nat} {z : Nat → Nat → Int} {day : Int} : dOK n m L z day = true ↔ vd n m L z = true ∧ 0 ≤ day ∧ day < n := by simp [dOK]
/-- what Delivered returns -/
def dE (n m : Nat) (L : Nat → Nat) (z : Nat → Nat → Int) (p : Nat → Bool) (day : Int) : Int := if dOK n m L z day = true then (if 5 ≤ (ds p day.toNat).length then 0 else 4) else 1
def dV (n m : Nat) (L : Nat → Nat) (z : Nat → Nat → Int) (p : Nat → Bool) (day : Int) : Int := if dE n m L z p day = 0 then tot (lv p z day.toNat) (L day.toNat) else 0

theorem box_at (w : World) (t : TypeId) (v : Value) : (w.alloc (.cells #[v] t)).cell? ⟨w.heap.size, 0, none⟩ = some v := (Boxed.new w t v).cell
theorem old_at {w w' : World} {q : Addr} {v : Value} (h : w.cell? q = some v) (hb : Below w.heap.size w w') : w'.cell? q = some v := (hb.cell (World.block_lt_of_cell? w q h)).trans h

set_option maxRecDepth 100000 in
set_option maxHeartbeats 2000000 in
theorem deliv_no (A : Option Addr) (n c : Nat) (L : Nat → Nat) (z : Nat → Nat → Int) (B : Option Addr) (m d : Nat) (day : Int) (w : World) (hn : n ≤ 9223372036854775807) (hm : m ≤ 9223372036854775807) (hR : RM w A n L z) (hno : dOK n m L z day = false) :
    Calls Try.prog 13 #[.slice A n c, .slice B m d, .int .i64 day] w fun e w' => e = .returned (.tuple #[.int .i64 0, .int .i64 1]) ∧ Below w.heap.size w w' := by
  have HR := Lib.hid hR
  have HN := Lib.hid hno
  clear hR hno
  have h0 := bel_alloc (bel_alloc (Below.refl w.heap.size w) (.cells #[.slice A n c] 22)) (.cells #[.int .i64 day] 3)
  cases hv : vd n m L z
  · go_enter Try.func13, Try.ntmps13
    go_wp2_with fail
    with_reducible refine (valid_any A n c L z B m d _ hn hm (HR.out.keep h0)).mono ?_
    rintro e w1 ⟨rfl, rfl⟩
    rw [hv]
    go_wp2_with fail
    go_ret2
    exact ⟨rfl, h0⟩
  · go_enter Try.func13, Try.ntmps13
    go_wp2_with fail
    with_reducible refine (valid_any A n c L z B m d _ hn hm (HR.out.keep h0)).mono ?_
    rintro e w1 ⟨rfl, rfl⟩
    rw [hv]
    go_wp2_with fail
    all_goals first
      | (go_ret2; exact ⟨rfl, h0⟩)
      | (exfalso; have hq : ¬ dOK n m L z day = true := (by rw [HN.out]; simp); exact hq (dOK_iff.2 ⟨hv, by omega, by omega⟩))

theorem lv_bd {p : Nat → Bool} {z : Nat → Nat → Int} {D s : Nat} (h : ∀ i, i < 5 → 0 ≤ z (dy p D i) s ∧ z (dy p D i) s ≤ 1000) (hz : 0 ≤ z D s) : 0 ≤ lv p z D s ∧ lv p z D s ≤ 1000 := by
  have := bs_bd h
  unfold lv
  omega

theorem RZ_of_block {w : World} {g : Nat} {cs : Array Value} {t : TypeId} {len : Nat} {z : Nat → Int} (h : w.heap[g]? = some (.cells cs t (0, 0))) (hc : ∀ i, i < len → cs[i]? = some (.int .i64 (z i))) : RZ w (some ⟨g, 0, none⟩) len z := fun i hi =>
  ⟨g, 0, rfl, (Array.getElem?_eq_some_iff.1 h).1, by rw [Nat.zero_add, cell_of_row w g i cs t (0, 0) h]; exact hc i hi⟩
/-- sum(T, V) -/
theorem sum_two (T V : Int) (w : World) (hT : 0 ≤ T ∧ T ≤ 1000000) (hV : 0 ≤ V ∧ V ≤ 1000000) :
    Calls Try.prog 26 #[.slice (some ⟨w.heap.size, 0, none⟩) 2 2] (w.alloc (.cells #[.int .i64 T, .int .i64 V] 3)) fun e w' => e = .returned (.int .i64 (T + V)) ∧ w.alloc (.cells #[.int .i64 T, .int .i64 V] 3) = w' :=
  (sum_any _ 2 2 (fun i => if i = 0 then T else V) _ (by omega) (fun i hi => by split <;> omega) (RZ_of_block (heap_alloc_new w _) (fun i hi => by
    have : i = 0 ∨ i = 1 := by omega
    rcases this with rfl | rfl <;> rfl))).mono fun e w' x => ⟨x.1.trans (ret_int (by simp [tot])), x.2⟩

set_option maxRecDepth 100000 in
set_option maxHeartbeats 2000000 in
theorem deliv_yes (A : Option Addr) (n c : Nat) (L : Nat → Nat) (z : Nat → Nat → Int) (B : Option Addr) (d : Nat) (p : Nat → Bool) (D : Nat) (w : World) (hR : RM w A n L z) (hP : RP w B n p) (hv : vd n n L z = true) (hD : D < n) :
    Calls Try.prog 13 #[.slice A n c, .slice B n d, .int .i64 (D : Int)] w fun e w' => e = .returned (.tuple #[.int .i64 (dV n n L z p D), .int .i64 (dE n n L z p D)]) ∧ Below w.heap.size w w' := by
  have HR := Lib.hid hR
  have HP := Lib.hid hP
  clear hR hP
  have hvi := vd_iff.1 hv
  have h60 := hvi.1.1
  have hrow := hvi.2 D hD
  have hL0 := hrow.1
  have HZ := Lib.hid hrow.2
  have hok : dOK n n L z D = true := dOK_iff.2 ⟨hv, by omega, by omega⟩
  have DK : Hid (5 ≤ (ds p D).length → ∀ S, S < L D → ∀ i, i < 5 → (dy p D i < n ∧ S < L (dy p D i)) ∧ (0 ≤ z (dy p D i) S ∧ z (dy p D i) S ≤ 1000)) := Lib.hid fun h5 S hS => dy_ok hv (by omega) (by omega) h5
  have HE1 : Hid (5 ≤ (ds p D).length → dE n n L z p D = 0 ∧ dV n n L z p D = tot (lv p z D) (L D)) := Lib.hid fun h => by simp [dE, dV, hok, h]
  have HE2 : Hid ((ds p D).length < 5 → dE n n L z p D = 4 ∧ dV n n L z p D = 0) := Lib.hid fun h => by
    have h' : ¬ 5 ≤ (ds p D).length := by omega
    simp [dE, dV, hok, h']
  have hL1 : L D ≤ 24 := hL0.2.1
  clear hok hvi hrow hL0
  have h0 := bel_alloc (bel_alloc (Below.refl w.heap.size w) (.cells #[.slice A n c] 22)) (.cells #[.int .i64 (D : Int)] 3)
  have k1 : ((w.alloc (.cells #[.slice A n c] 22)).alloc (.cells #[.int .i64 (D : Int)] 3)).cell? ⟨w.heap.size, 0, none⟩ = some (.slice A n c) := old_at (box_at w _ _) (bel_alloc (Below.refl _ _) _)
  have k2 : ((w.alloc (.cells #[.slice A n c] 22)).alloc (.cells #[.int .i64 (D : Int)] 3)).cell? ⟨w.heap.size + 1, 0, none⟩ = some (.int .i64 (D : Int)) := by
    have := box_at (w.alloc (.cells #[.slice A n c] 22)) 3 (.int .i64 (D : Int))
    rw [World.size_alloc] at this
    exact this
  have hmf : ∀ (fn : Fn) (first cap : Array Value) (w : World), (Instr.makeFunc fn first cap).run Try.prog w = .ok (.func fn first cap) w := fun _ _ _ _ => rfl
  have HK1 := Lib.hid k1
  have HK2 := Lib.hid k2
  clear k1 k2
  go_enter Try.func13, Try.ntmps13
  go_wp2_with fail
  with_reducible refine (valid_any A n c L z B n d _ (by omega) (by omega) (HR.out.keep h0)).mono ?_
  rintro e w1 ⟨rfl, rfl⟩
  rw [hv]
  go_wp2_with fail
  all_goals (try (exfalso; omega))
  with_reducible refine (count_any B n d p D _ (by omega) (by omega) (HP.out.keep h0)).mono ?_
  rintro e w2 ⟨hb2, (⟨h5, g, cap, rfl, hz⟩ | ⟨h5, rfl⟩)⟩
  · have h2 := bel_step h0 hb2
    have c1 := old_at HK1.out hb2
    have c2 := old_at HK2.out hb2
    have DK5 := Lib.hid (DK.out h5)
    have hR3 := HR.out.keep (bel_alloc h2 (.cells #[.slice (some ⟨g, 0, none⟩) 5 cap] 33))
    have hW3 := hz.keep (bel_alloc (Below.refl _ _) (.cells #[.slice (some ⟨g, 0, none⟩) 5 cap] 33))
    have d1 := old_at c1 (bel_alloc (Below.refl _ _) (.cells #[.slice (some ⟨g, 0, none⟩) 5 cap] 33))
    have d2 := old_at c2 (bel_alloc (Below.refl _ _) (.cells #[.slice (some ⟨g, 0, none⟩) 5 cap] 33))
    have d3 := box_at w2 33 (.slice (some ⟨g, 0, none⟩) 5 cap)
    obtain ⟨w3, hw3⟩ : ∃ w3, w2.alloc (.cells #[.slice (some ⟨g, 0, none⟩) 5 cap] 33) = w3 := ⟨_, rfl⟩
    have h3 := bel_alloc h2 (.cells #[.slice (some ⟨g, 0, none⟩) 5 cap] 33)
    rw [hw3] at hR3 hW3 d1 d2 d3 h3
    have HW3 := Lib.hid hw3
    have HR3 := Lib.hid hR3
    have HWh := Lib.hid hW3
    obtain ⟨b2, o2, R, C, rfl, hbl, hc2, hC, _, _⟩ := (HR.out.keep h2) D hD
    have l1 := World.block_lt_of_cell? w2 _ c1
    have l2 := World.block_lt_of_cell? w2 _ c2
    have i1 : (D : Int) < (n : Int) := by omega
    clear hw3 hW3 hz hb2 hR3
    go_wp2_with fail
    rw [HW3.out]
    clear c1 c2 hc2 l1 l2 hbl
    go_loopw [11, 42] (fun a i wr => ∃ k : Nat, k ≤ L D ∧ i = .int .i64 k ∧ a = .int .i64 (tot (lv p z D) k) ∧ Below w3.heap.size w3 wr) (fun _ i _ => L D - (intOf i).toNat)
    case atStart => exact ⟨0, Nat.zero_le _, rfl, rfl, Below.refl _ _⟩
    case round =>
      obtain ⟨k, hk, rfl, rfl, hbw⟩ := hrel
      by_cases hlt : k < L D
      · have hzk := HZ.out k hlt
        have hlb := lv_bd (fun i hi => (DK5.out k hlt i hi).2) hzk.1
        have tb : 0 ≤ tot (lv p z D) k ∧ tot (lv p z D) k ≤ k * 1000 := tot_pos (n := k) (fun i hi => lv_bd (fun j hj => (DK5.out i (by omega) j hj).2) (HZ.out i (by omega)).1) k (Nat.le_refl _)
        go_wp2_with fail
        with_reducible refine (less_any w.heap.size w2.heap.size (w.heap.size + 1) (some ⟨b2, o2, none⟩) n c L z g cap p D k _ h60 hD hlt hL1 hzk (DK5.out k hlt) (old_at d1 hbw) (old_at d3 hbw) (old_at d2 hbw) (HR3.out.keep hbw) (HWh.out.keep hbw)).mono ?_
        rintro e w4 ⟨rfl, hb4⟩
        have h4 := bel_step hbw hb4
        clear hb4
        obtain ⟨T, hT⟩ : ∃ T, tot (lv p z D) k = T := ⟨_, rfl⟩
        obtain ⟨V, hV⟩ : ∃ V, lv p z D k = V := ⟨_, rfl⟩
        have HS : Hid (tot (lv p z D) (k + 1) = T + V) := by show _ = _; simp only [tot]; rw [hT, hV]
        rw [hT] at tb
        rw [hV] at hlb
        rw [hT, hV]
        clear hT hV
        go_wp2_with fail
        with_reducible refine (sum_two T V w4 (by omega) (by omega)).mono ?_
        rintro e w5 ⟨rfl, rfl⟩
        go_wp2_with fail
        go_roundw
        case rel => exact ⟨k + 1, by omega, by go_num, by rw [HS.out], bel_alloc h4 _⟩
        case measure => simp [intOf] <;> omega
      · obtain rfl : k = L D := by omega
        go_wp2_with fail
        go_ret2
        exact ⟨ret_two (HE1.out h5).2.symm (HE1.out h5).1.symm, bel_step h3 hbw⟩
  · have h2 := bel_step h0 hb2
    go_wp2_with fail
    go_ret2
    exact ⟨ret_two (HE2.out h5).2.symm (HE2.out h5).1.symm, bel_alloc h2 _⟩

theorem delivered_any (A : Option Addr) (n c : Nat) (L : Nat → Nat) (z : Nat → Nat → Int) (B : Option Addr) (m d : Nat) (p : Nat → Bool) (day : Int) (w : World) (hn : n ≤ 9223372036854775807) (hm : m ≤ 9223372036854775807) (hR : RM w A n L z) (hP : RP w B m p) :
    Calls Try.prog 13 #[.slice A n c, .slice B m d, .int .i64 day] w fun e w' => e = .returned (.tuple #[.int .i64 (dV n m L z p day), .int .i64 (dE n m L z p day)]) ∧ Below w.heap.size w w' := by
  cases hok : dOK n m L z day
  · exact (deliv_no A n c L z B m d day w hn hm hR hok).mono fun e w' x => ⟨x.1.trans (ret_two (by simp [dV, dE, hok]) (by simp [dE, hok])), x.2⟩
  · have hb := dOK_iff.1 hok
    obtain ⟨D, rfl⟩ := Int.eq_ofNat_of_zero_le hb.2.1
    obtain rfl : n = m := (vd_iff.1 hb.1).1.2.symm
    exact deliv_yes A n c L z B d p D w hR hP hb.1 (by omega)
end Go.Proofs.Ytdeeaehdbaoloaa
