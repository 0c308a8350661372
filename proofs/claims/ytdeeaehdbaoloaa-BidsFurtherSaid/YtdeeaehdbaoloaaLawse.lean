/-
  THE WALKS OF THE LAWS over package bids, fifth part: BidsFurther.
-/
import Derived.Test.YtdeeaehdbaoloaaFurth
import Derived.RegionTactic
import Derived.BigRegion
namespace Go.Proofs.Ytdeeaehdbaoloaa
open Go.RowKit
set_option linter.unusedVariables false
attribute [local go_sem ↓] Go.wp_at_zero Go.wp_at_succ

theorem pp_lt {p : Nat → Bool} {k r : Nat} (h : r < k) : pp p k r = p r := by unfold pp; rw [if_pos h]
theorem pp_at (p : Nat → Bool) (k : Nat) : pp p k k = true := by unfold pp; simp
theorem pp_gt {p : Nat → Bool} {k r : Nat} (h : k ≤ r) : pp p k (r + 1) = p r := by unfold pp; rw [if_neg (by omega), if_neg (by omega)]; rfl
theorem zz_lt {z : Nat → Nat → Int} {k r : Nat} {ld : Int} (h : r < k) : zz z k ld r = z r := by unfold zz; rw [if_pos h]
theorem zz_gt {z : Nat → Nat → Int} {k r : Nat} {ld : Int} (h : k ≤ r) : zz z k ld (r + 1) = z r := by unfold zz; rw [if_neg (by omega), if_neg (by omega)]; rfl
theorem cp_row {B n : Nat} {G C L : Nat → Nat} {z : Nat → Nat → Int} {g c : Nat} {W : World} (h : CP B n G C L z (.slice (some ⟨g, 0, none⟩) n c) W) {k : Nat} (hk : k < n) :
    W.cell? ⟨g, k, none⟩ = some (.slice (some ⟨G k, 0, none⟩) (L k) (C k)) ∧ W.frozen? ⟨g, k, none⟩ = false := by
  refine ⟨by rw [h.1.cellAt k (by omega)]; exact rws_get G L C n k hk, ?_⟩
  rcases h.1.2 with ⟨h', _⟩ | ⟨g', cap', cur, h', _, hg, _⟩
  · cases h'
  · cases h'; simp [World.frozen?, hg]
theorem CP.swapped {B n : Nat} {G C L : Nat → Nat} {z : Nat → Nat → Int} {g c : Nat} {W : World} (h : CP B n G C L z (.slice (some ⟨g, 0, none⟩) n c) W) {i j : Nat} (hi : i < n) (hj : j < n) (hL : ∀ r, r < n → L r = L 0) :
    RM ((W.setCell ⟨g, i, none⟩ (.slice (some ⟨G j, 0, none⟩) (L j) (C j))).setCell ⟨g, j, none⟩ (.slice (some ⟨G i, 0, none⟩) (L i) (C i))).drew (some ⟨g, 0, none⟩) n L (fun r => z (sw i j r)) := by
  have s1 : ∀ (V : World) (q : Nat) (v : Value), V.grownBy (V.setCell ⟨g, q, none⟩ v) (some g) := fun V q v => ⟨rfl, rfl, rfl, by simp [World.setCell], fun k hk hne => Below.heap_setCell V ⟨g, q, none⟩ v k (fun e => hne (by rw [e]))⟩
  have hg : W.grownBy ((W.setCell ⟨g, i, none⟩ (.slice (some ⟨G j, 0, none⟩) (L j) (C j))).setCell ⟨g, j, none⟩ (.slice (some ⟨G i, 0, none⟩) (L i) (C i))).drew (some g) := by
    have q := (s1 W i (.slice (some ⟨G j, 0, none⟩) (L j) (C j))).trans (s1 _ j (.slice (some ⟨G i, 0, none⟩) (L i) (C i)))
    exact ⟨q.os, q.tape, q.output, q.size, q.block⟩
  refine h.swap hi hj hL hg fun r hr => ?_
  show ((W.setCell ⟨g, i, none⟩ (.slice (some ⟨G j, 0, none⟩) (L j) (C j))).setCell ⟨g, j, none⟩ (.slice (some ⟨G i, 0, none⟩) (L i) (C i))).cell? ⟨g, r, none⟩ = _
  have c0 := (cp_row h hr).1
  have ci := (cp_row h hi).1
  have cj := (cp_row h hj).1
  by_cases h1 : r = j
  · subst h1
    obtain ⟨v', hv'⟩ := cell?_setCell_some (w := W) (p := ⟨g, i, none⟩) (x := .slice (some ⟨G r, 0, none⟩) (L r) (C r)) (q := ⟨g, r, none⟩) c0
    rw [World.cell?_setCell_same' _ _ _ (by rw [hv']; rfl)]
    unfold sw
    by_cases h2 : r = i
    · subst h2; simp
    · simp [h2]
  · rw [World.cell?_setCell_other _ _ _ _ (by intro e; injection e; omega)]
    unfold sw
    by_cases h2 : r = i
    · subst h2
      rw [World.cell?_setCell_same' _ _ _ (by rw [ci]; rfl)]
      simp
    · rw [World.cell?_setCell_other _ _ _ _ (by intro e; injection e; omega), c0]
      simp [h1, h2]
theorem RP_at {w w' : World} {b o n k : Nat} {p : Nat → Bool} (x : RP w (some ⟨b, o, none⟩) n p) (hb : Below w.heap.size w w') (hk : k < n) : w'.cell? ⟨b, o + k, none⟩ = some (.bool (p k)) := by
  obtain ⟨b', o', e, _, hc⟩ := x.keep hb k hk
  cases e
  exact hc

set_option maxRecDepth 100000 in
set_option maxHeartbeats 4000000 in
theorem fur_no (A : Option Addr) (n c : Nat) (L : Nat → Nat) (z : Nat → Nat → Int) (B : Option Addr) (m d : Nat) (p : Nat → Bool) (day slot which num : Int) (w : World) (hn : n ≤ 9223372036854775807) (hm : m ≤ 9223372036854775807) (hR : RM w A n L z) (hP : RP w B m p) (hno : ¬ (uB n m L z = true ∧ n < 60 ∧ (0 ≤ day ∧ day < n) ∧ (0 ≤ slot ∧ slot < L 0) ∧ 0 ≤ which ∧ (0 ≤ num ∧ num ≤ 1000))) :
    Calls Try.prog 8 #[.slice A n c, .slice B m d, .int .i64 day, .int .i64 slot, .int .i64 which, .int .i64 num] w fun e w' => e = .returned (.bool true) ∧ Below w.heap.size w w' := by
  have HR := Lib.hid hR
  have HN := Lib.hid hno
  clear hR hno
  go_enter Try.func8, Try.ntmps8
  go_wp2_with fail
  with_reducible refine (head_any _).mono ?_
  rintro e w1 ⟨rfl, h⟩
  go_wp2_with fail
  with_reducible refine (usable_any A n c L z B m d _ hn hm (HR.out.keep h)).mono ?_
  rintro e w2 ⟨rfl, hb⟩
  have h := bel_step h hb
  clear hb
  cases hu : uB n m L z
  · go_wp2_with fail
    go_ret
    exact ⟨rfl, h⟩
  · have hv := uB_iff.1 hu
    obtain ⟨b, o, R, C, rfl, hb, hc, hC, _, _⟩ := (HR.out.keep h) 0 hv.2
    rw [Nat.add_zero] at hc
    have hv2 := hv.2
    go_wp2_with fail
    all_goals first
      | (go_ret; exact ⟨rfl, h⟩)
      | (exfalso; exact HN.out ⟨hu, by omega, ⟨by omega, by omega⟩, ⟨by omega, by omega⟩, by omega, by omega, by omega⟩)

set_option maxRecDepth 100000 in
set_option maxHeartbeats 4000000 in
theorem fur_yes (A : Option Addr) (n c : Nat) (L : Nat → Nat) (z : Nat → Nat → Int) (B : Option Addr) (d : Nat) (p : Nat → Bool) (D S Q E : Nat) (w : World) (hR : RM w A n L z) (hP : RP w B n p) (hu : uB n n L z = true) (hn60 : n < 60) (hD : D < n) (hS : S < L 0) (hE : E ≤ 1000) :
    Calls Try.prog 8 #[.slice A n c, .slice B n d, .int .i64 (D : Int), .int .i64 (S : Int), .int .i64 (Q : Int), .int .i64 (E : Int)] w fun e w' => e = .returned (.bool true) ∧ Below w.heap.size w w' := by
  have HR := Lib.hid hR
  have HP := Lib.hid hP
  clear hR hP
  have hv := uB_iff.1 hu
  have hvi := vd_iff.1 hv.1
  have h60 := hvi.1.1
  have hn0 := hv.2
  have hvd := hv.1
  have HL : Hid (∀ i, i < n → 1 ≤ L i ∧ L i ≤ 100) := Lib.hid fun i hi => by have := (hvi.2 i hi).1; omega
  have HL0 : Hid (∀ i, i < n → L i = L 0) := Lib.hid fun i hi => (hvi.2 i hi).1.2.2
  have hL0 := HL.out 0 hn0
  have hkD : Q % (D + 1) < D + 1 := Nat.mod_lt _ (by omega)
  have eq2 : (Q : Int) % ((D : Int) + 1) = ((Q % (D + 1) : Nat) : Int) := by rw [Int.natCast_emod, Int.natCast_add]; rfl
  obtain ⟨k, hkq⟩ : ∃ k, Q % (D + 1) = k := ⟨_, rfl⟩
  rw [hkq] at hkD eq2
  clear hkq
  have eqi : (Q : Int) % (n : Int) = ((Q % n : Nat) : Int) := by omega
  have hin : Q % n < n := Nat.mod_lt _ hn0
  obtain ⟨I, hI⟩ : ∃ k, Q % n = k := ⟨_, rfl⟩
  rw [hI] at eqi hin
  clear hI
  have eqj : (E : Int) % (n : Int) = ((E % n : Nat) : Int) := by omega
  have hjn : E % n < n := Nat.mod_lt _ hn0
  obtain ⟨J, hJ⟩ : ∃ k, E % n = k := ⟨_, rfl⟩
  rw [hJ] at eqj hjn
  clear hJ
  have hf := further_res (p := p) (k := k) (ld := (E : Int)) hvd ⟨hn0, hn60⟩ (by omega) hD hS (by omega)
  rw [show ((D + 1 : Nat) : Int) = (D : Int) + 1 by omega] at hf
  have HF := Lib.hid hf
  clear hf
  have HSW : Hid (ctB p I D = true → ctB p J D = true → bE n n L (fun r => z (sw I J r)) p D S = bE n n L z p D S ∧ bV n n L (fun r => z (sw I J r)) p D S = bV n n L z p D S) := Lib.hid fun h1 h2 => swap_res hvd hn0 (by omega) hS h1 h2
  have hL24 : 1 ≤ L 0 ∧ L 0 ≤ 24 := by have := (hvi.2 0 hn0).1; omega
  have EQ2 := Lib.hid eq2
  have EQI := Lib.hid eqi
  have EQJ := Lib.hid eqj
  clear hv hvi eq2 eqi eqj
  obtain ⟨i0, hi, hz0, hz1, hz2⟩ := info_parts infoInt
  obtain ⟨j0, hj, hy0, hy1, hy2⟩ := info_parts infoRow
  obtain ⟨b0, hbb, hx0, hx1, hx2⟩ := info_parts infoBool
  have HI := Lib.hid hi
  have HZ0 := Lib.hid hz0
  have HZ1 := Lib.hid hz1
  have HZ2 := Lib.hid hz2
  have HJ := Lib.hid hj
  have HY0 := Lib.hid hy0
  have HY1 := Lib.hid hy1
  have HY2 := Lib.hid hy2
  have HB := Lib.hid hbb
  have HX0 := Lib.hid hx0
  have HX1 := Lib.hid hx1
  have HX2 := Lib.hid hx2
  clear hi hz0 hz1 hz2 hj hy0 hy1 hy2 hbb hx0 hx1 hx2
  obtain ⟨bA, oA, RA, CA, rfl, _, hcA, hCA, _, _⟩ := HR.out 0 hn0
  rw [Nat.add_zero] at hcA
  go_enter Try.func8, Try.ntmps8
  go_wp2_with fail
  with_reducible refine (head_any _).mono ?_
  rintro e w1 ⟨rfl, h⟩
  go_wp2_with fail
  with_reducible refine (usable_any _ n c L z B n d _ (by omega) (by omega) (HR.out.keep h)).mono ?_
  rintro e w2 ⟨rfl, hb⟩
  have h := bel_step h hb
  clear hb
  rw [hu]
  have hc0 := old_at hcA h
  have hR2 := Lib.hid (HR.out.keep h)
  have hP2 := Lib.hid (HP.out.keep h)
  go_wp2_with fail
  all_goals (try (exfalso; omega))
  rw [EQ2.out]
  clear hcA
  go_loopw [16, 17, 18] (fun a t i wr => ∃ (m q gd cd : Nat) (X : Nat → Value), ((m ≤ k ∧ q = m) ∨ (k < m ∧ m ≤ n ∧ q = m + 1) ∨ (m = n + 1 ∧ q = n + 1)) ∧ i = .int .i64 m ∧ FLx w2 k (L 0) z p (E : Int) q gd cd X a t wr) (fun _ _ i _ => n + 1 - (intOf i).toNat)
  case atStart => exact ⟨0, 0, 0, 0, fun _ => .int .i64 0, .inl ⟨by omega, rfl⟩, rfl, World.ownsRow_nil _ _ _ _, World.ownsRow_nil _ _ _ _, fun r hr => by omega, fun hr => by omega, Below.refl _ _⟩
  case round =>
    obtain ⟨m, q, gd, cd, X, hmq, rfl, hfs⟩ := hrel
    have hbw : Below w2.heap.size w2 wr := hfs.2.2.2.2
    have hws := hbw.size
    have hcw := old_at hc0 hbw
    rcases hmq with ⟨hmk, rfl⟩ | ⟨hkm, hmn, rfl⟩ | ⟨rfl, rfl⟩
    · rcases Nat.lt_or_ge q k with hlt | hge
      · -- ahead of the further day
        have e1 : ((q : Int) == (k : Int)) = false := by simp; omega
        obtain ⟨b1, o1, R1, C1, e1, hb1, hc1', hC1, hN1, hZ0⟩ := hR2.out q (by omega)
        cases e1
        have hLi : L q = L 0 := HL0.out q (by omega)
        rw [hLi] at hc1' hC1 hZ0
        have hc1 := old_at hc1' hbw
        have hc1o := hc1'
        clear hLi hc1'
        obtain ⟨b2, o2, e2, hb2, hc2'⟩ := hP2.out q (by omega)
        subst e2
        clear hc2'
        have HN1 := Lib.hid hN1
        have HZ0' := Lib.hid hZ0
        clear hN1 hZ0
        have i1 : (q : Int) < (n : Int) := by omega
        go_wp2_with (first
          | (at_builtin; refine wpList_append_lies _ rfl (.tmp 116) (.tmp 121) 22 rfl w2.heap.size 33 j0 _ 1 24 Try.underlying22 HJ.out HY0.out HY1.out HY2.out rfl (by omega) u16 (q) _ rfl (hfs.1.alloc _) ⟨wr.heap.size, 0, none⟩ 1 1 [.slice R1 (L 0) C1] rfl rfl (World.news_of_block (heap_alloc_new wr _)) (by simp [Value.oneCell']) (by omega) (by unfold maxLen; omega) (by omega) (by simp; omega) (wr.heap.size + 1) (by simp) ?_; intro ga ca wA hA hgA hat1 hlt1; have hbA : Below w2.heap.size w2 wA := (bel_alloc hfs.2.2.2.2 _).grown hgA (bel_alloc hfs.2.2.2.2 _).size (own_ge hfs.1); have hsA := hbA.size; have hcP := RP_at hP2.out hbA (show q < n by omega))
          | (at_builtin; refine wpList_append_lies _ rfl (.tmp 123) (.tmp 128) 23 rfl w2.heap.size 4 b0 _ 1 1 Try.underlying23 HB.out HX0.out HX1.out HX2.out rfl (by omega) u17 (q) _ rfl (((hfs.2.1.alloc _).kept hgA (own_ne hfs.2.1 hfs.1 (by decide))).alloc _) ⟨wA.heap.size, 0, none⟩ 1 1 [.bool (p q)] rfl rfl (World.news_of_block (heap_alloc_new wA _)) (by simp [Value.oneCell']) (by omega) (by unfold maxLen; omega) (by omega) (by simp; omega) (wA.heap.size + 1) (by simp) ?_; intro gb cb wB hBo hgB hat1 hlt1))
        have hfs2 := hfs.push (gd := gd) (cd := cd) (p q) hgA hA hgB hBo (pp_lt hlt).symm (fun _ => ⟨R1, C1, rfl, hC1, HN1.out, by rw [zz_lt hlt]; exact HZ0'.out⟩) (fun e => by omega)
        all_goals (try (exfalso; omega))
        go_roundw
        case rel => exact ⟨q + 1, q + 1, gd, cd, _, by omega, by go_num, hfs2⟩
        case measure => simp [intOf] <;> omega
      · -- at the further day
        obtain rfl : q = k := by omega
        have e1 : ((q : Int) == (q : Int)) = true := by simp
        have e87 : decide (q ≤ n) = true := decide_eq_true (by omega)
        obtain ⟨b1, o1, R1, C1, e1, hb1, hc1', hC1, hN1, hZ0⟩ := hR2.out q (by omega)
        cases e1
        have hLi : L q = L 0 := HL0.out q (by omega)
        rw [hLi] at hc1' hC1 hZ0
        have hc1 := old_at hc1' hbw
        have hc1o := hc1'
        clear hLi hc1'
        obtain ⟨b2, o2, e2, hb2, hc2'⟩ := hP2.out q (by omega)
        subst e2
        clear hc2'
        have HN1 := Lib.hid hN1
        have HZ0' := Lib.hid hZ0
        clear hN1 hZ0
        have i1 : (q : Int) < (n : Int) := by omega
        go_wp2_with fail
        all_goals (try (exfalso; omega))
        clear hc1 hcw
        obtain ⟨wo, hwo⟩ : ∃ wo : World, wo = wr := ⟨_, rfl⟩
        subst hwo
        go_loopw [19, 20] (fun v i wi => ∃ s : Nat, s ≤ L 0 ∧ i = .int .i64 s ∧ wi.ownsRow w2.heap.size 3 1 v s (nums (fun _ => (E : Int)) s) ∧ FLx w2 q (L 0) z p (E : Int) q gd cd X u16 u17 wi) (fun _ i _ => L 0 - (intOf i).toNat)
        case atStart => exact ⟨0, Nat.zero_le _, rfl, World.ownsRow_nil _ _ _ _, hfs⟩
        case round =>
          obtain ⟨s, hs, rfl, hv, hfi⟩ := hrel
          have hbi : Below w2.heap.size w2 wr := hfi.2.2.2.2
          have hwi := hbi.size
          have hci := old_at hc0 hbi
          by_cases hsl : s < L 0
          · go_wp2_with (at_builtin; refine wpList_append_lies _ rfl (.tmp 101) (.tmp 103) 33 rfl w2.heap.size 3 i0 _ 1 8 Try.underlying33 HI.out HZ0.out HZ1.out HZ2.out rfl (by omega) u19 (s) _ rfl (hv.alloc _) ⟨wr.heap.size, 0, none⟩ 1 1 [.int .i64 (E : Int)] rfl rfl (World.news_of_block (heap_alloc_new wr _)) (by simp [Value.oneCell']) (by omega) (by unfold maxLen; omega) (by omega) (by simp; omega) (wr.heap.size + 1) (by simp) ?_; intro ga ca wA hA hgA hat1 hlt1)
            all_goals (try (exfalso; omega))
            have hfi2 := hfi.grow (Nat.le_refl _) hv hgA
            go_roundw
            case rel => exact ⟨s + 1, by omega, by go_num, by rw [nums_succ]; exact hA, hfi2⟩
            case measure => simp [intOf] <;> omega
          · obtain rfl : s = L 0 := by omega
            obtain ⟨g3, c3, rfl, hg3b, hg3l⟩ := hv.form (by omega)
            have hO := OwnR.of hv
            have hfc := hfi.change (gd' := g3) (cd' := c3) (Nat.le_refl _)
            have hc1 := old_at hc1o hbi
            have HO := Lib.hid hO
            clear hO hv hfi
            go_wp2_with (first
              | (at_builtin; refine wpList_append_lies _ rfl (.tmp 105) (.tmp 107) 22 rfl w2.heap.size 33 j0 _ 1 24 Try.underlying22 HJ.out HY0.out HY1.out HY2.out rfl (by omega) u16 (q) _ rfl (hfc.1.alloc _) ⟨wr.heap.size, 0, none⟩ 1 1 [.slice (some ⟨g3, 0, none⟩) (L 0) c3] rfl rfl (World.news_of_block (heap_alloc_new wr _)) (by simp [Value.oneCell']) (by omega) (by unfold maxLen; omega) (by omega) (by simp; omega) (wr.heap.size + 1) (by simp) ?_; intro gx cx wX hX hgX hat1 hlt1; have hbX : Below w2.heap.size w2 wX := (bel_alloc hfc.2.2.2.2 _).grown hgX (bel_alloc hfc.2.2.2.2 _).size (own_ge hfc.1); have hsX := hbX.size)
              | (at_builtin; refine wpList_append_lies _ rfl (.tmp 109) (.tmp 110) 23 rfl w2.heap.size 4 b0 _ 1 1 Try.underlying23 HB.out HX0.out HX1.out HX2.out rfl (by omega) u17 (q) _ rfl (((hfc.2.1.alloc _).kept hgX (own_ne hfc.2.1 hfc.1 (by decide))).alloc _) ⟨wX.heap.size, 0, none⟩ 1 1 [.bool true] rfl rfl (World.news_of_block (heap_alloc_new wX _)) (by simp [Value.oneCell']) (by omega) (by unfold maxLen; omega) (by omega) (by simp; omega) (wX.heap.size + 1) (by simp) ?_; intro gy cy wY hY hgY hat1 hlt1; have hfs := hfc.push (gd := g3) (cd := c3) true hgX hX hgY hY (pp_at p q).symm (fun e => absurd rfl e) (fun _ => ⟨rfl, HO.out⟩); have hbY : Below w2.heap.size w2 wY := hfs.2.2.2.2; have hsY := hbY.size; have hcY := old_at hc1o hbY)
              | (at_builtin; refine wpList_append_lies _ rfl (.tmp 116) (.tmp 121) 22 rfl w2.heap.size 33 j0 _ 1 24 Try.underlying22 HJ.out HY0.out HY1.out HY2.out rfl (by omega) (.slice (some ⟨gx, 0, none⟩) (q + 1) cx) (q + 1) _ rfl (hfs.1.alloc _) ⟨wY.heap.size, 0, none⟩ 1 1 [.slice R1 (L 0) C1] rfl rfl (World.news_of_block (heap_alloc_new wY _)) (by simp [Value.oneCell']) (by omega) (by unfold maxLen; omega) (by omega) (by simp; omega) (wY.heap.size + 1) (by simp) ?_; intro ga ca wA hA hgA hat1 hlt1; have hbA : Below w2.heap.size w2 wA := (bel_alloc hfs.2.2.2.2 _).grown hgA (bel_alloc hfs.2.2.2.2 _).size (own_ge hfs.1); have hsA := hbA.size; have hcP := RP_at hP2.out hbA (show q < n by omega))
              | (at_builtin; refine wpList_append_lies _ rfl (.tmp 123) (.tmp 128) 23 rfl w2.heap.size 4 b0 _ 1 1 Try.underlying23 HB.out HX0.out HX1.out HX2.out rfl (by omega) (.slice (some ⟨gy, 0, none⟩) (q + 1) cy) (q + 1) _ rfl (((hfs.2.1.alloc _).kept hgA (own_ne hfs.2.1 hfs.1 (by decide))).alloc _) ⟨wA.heap.size, 0, none⟩ 1 1 [.bool (p q)] rfl rfl (World.news_of_block (heap_alloc_new wA _)) (by simp [Value.oneCell']) (by omega) (by unfold maxLen; omega) (by omega) (by simp; omega) (wA.heap.size + 1) (by simp) ?_; intro gb cb wB hBo hgB hat1 hlt1))
            all_goals (try (exfalso; omega))
            have hfs2 := hfs.push (gd := g3) (cd := c3) (p q) hgA hA hgB hBo (pp_gt (Nat.le_refl _)).symm (fun _ => ⟨R1, C1, rfl, hC1, HN1.out, by rw [zz_gt (Nat.le_refl _)]; exact HZ0'.out⟩) (fun e => by omega)
            go_roundw
            case rel => exact ⟨q + 1, q + 1 + 1, g3, c3, _, by omega, by go_num, hfs2⟩
            case measure => simp [intOf] <;> omega
    · rcases Nat.lt_or_ge m n with hlt | hge
      · -- behind it
        have e1 : ((m : Int) == (k : Int)) = false := by simp; omega
        obtain ⟨b1, o1, R1, C1, e1, hb1, hc1', hC1, hN1, hZ0⟩ := hR2.out m (by omega)
        cases e1
        have hLi : L m = L 0 := HL0.out m (by omega)
        rw [hLi] at hc1' hC1 hZ0
        have hc1 := old_at hc1' hbw
        have hc1o := hc1'
        clear hLi hc1'
        obtain ⟨b2, o2, e2, hb2, hc2'⟩ := hP2.out m (by omega)
        subst e2
        clear hc2'
        have HN1 := Lib.hid hN1
        have HZ0' := Lib.hid hZ0
        clear hN1 hZ0
        have i1 : (m : Int) < (n : Int) := by omega
        go_wp2_with (first
          | (at_builtin; refine wpList_append_lies _ rfl (.tmp 116) (.tmp 121) 22 rfl w2.heap.size 33 j0 _ 1 24 Try.underlying22 HJ.out HY0.out HY1.out HY2.out rfl (by omega) u16 (m + 1) _ rfl (hfs.1.alloc _) ⟨wr.heap.size, 0, none⟩ 1 1 [.slice R1 (L 0) C1] rfl rfl (World.news_of_block (heap_alloc_new wr _)) (by simp [Value.oneCell']) (by omega) (by unfold maxLen; omega) (by omega) (by simp; omega) (wr.heap.size + 1) (by simp) ?_; intro ga ca wA hA hgA hat1 hlt1; have hbA : Below w2.heap.size w2 wA := (bel_alloc hfs.2.2.2.2 _).grown hgA (bel_alloc hfs.2.2.2.2 _).size (own_ge hfs.1); have hsA := hbA.size; have hcP := RP_at hP2.out hbA (show m < n by omega))
          | (at_builtin; refine wpList_append_lies _ rfl (.tmp 123) (.tmp 128) 23 rfl w2.heap.size 4 b0 _ 1 1 Try.underlying23 HB.out HX0.out HX1.out HX2.out rfl (by omega) u17 (m + 1) _ rfl (((hfs.2.1.alloc _).kept hgA (own_ne hfs.2.1 hfs.1 (by decide))).alloc _) ⟨wA.heap.size, 0, none⟩ 1 1 [.bool (p m)] rfl rfl (World.news_of_block (heap_alloc_new wA _)) (by simp [Value.oneCell']) (by omega) (by unfold maxLen; omega) (by omega) (by simp; omega) (wA.heap.size + 1) (by simp) ?_; intro gb cb wB hBo hgB hat1 hlt1))
        have hfs2 := hfs.push (gd := gd) (cd := cd) (p m) hgA hA hgB hBo (pp_gt (by omega)).symm (fun _ => ⟨R1, C1, rfl, hC1, HN1.out, by rw [zz_gt (by omega)]; exact HZ0'.out⟩) (fun e => by omega)
        all_goals (try (exfalso; omega))
        go_roundw
        case rel => exact ⟨m + 1, m + 1 + 1, gd, cd, _, by omega, by go_num, hfs2⟩
        case measure => simp [intOf] <;> omega
      · obtain rfl : m = n := by omega
        have e1 : ((m : Int) == (k : Int)) = false := by simp; omega
        go_wp2_with fail
        all_goals (try (exfalso; omega))
        go_roundw
        case rel => exact ⟨m + 1, m + 1, gd, cd, X, by omega, by go_num, hfs⟩
        case measure => simp [intOf] <;> omega
    · obtain ⟨ga, ca, rfl, _, _⟩ := hfs.1.form (by omega)
      obtain ⟨gt, ct, rfl, _, _⟩ := hfs.2.1.form (by omega)
      have hRM := Lib.hid hfs.rm
      have hRP := Lib.hid hfs.rp
      have h3 := bel_step h hbw
      clear hfs hcw
      go_wp2_with fail
      all_goals (try (exfalso; omega))
      with_reducible refine (baseline_any _ n c L z B n d p D S _ (by omega) (by omega) (HR.out.keep h3) (HP.out.keep h3)).mono ?_
      rintro e w4 ⟨rfl, k4⟩
      have h4 := bel_step h3 k4
      go_wp2_with fail
      with_reducible refine (baseline_any _ (n + 1) ca (fun _ => L 0) (zz z k (E : Int)) _ (n + 1) ct (pp p k) ((D : Int) + 1) S _ (by omega) (by omega) (hRM.out.keep k4) (hRP.out.keep k4)).mono ?_
      rintro e w5 ⟨rfl, hb⟩
      have h5 := bel_step h4 hb
      have k5 := bel_step k4 hb
      clear hb
      rw [HF.out.1.1, HF.out.1.2]
      go_wp2_with fail
      with_reducible refine (delivered_any _ n c L z B n d p D _ (by omega) (by omega) (HR.out.keep h5) (HP.out.keep h5)).mono ?_
      rintro e w6 ⟨rfl, hb⟩
      have h6 := bel_step h5 hb
      have k6 := bel_step k5 hb
      clear hb
      go_wp2_with fail
      with_reducible refine (delivered_any _ (n + 1) ca (fun _ => L 0) (zz z k (E : Int)) _ (n + 1) ct (pp p k) ((D : Int) + 1) _ (by omega) (by omega) (hRM.out.keep k6) (hRP.out.keep k6)).mono ?_
      rintro e w7 ⟨rfl, hb⟩
      have h7 := bel_step h6 hb
      clear hb k4 k5 k6
      rw [HF.out.2.1, HF.out.2.2]
      go_wp2_with fail
      with_reducible refine (copy_any _ n c L z _ (by omega) HL.out (HR.out.keep h7)).mono ?_
      rintro e w8 ⟨⟨g, cap, G, C, rfl, hcap, hcp⟩, hb8⟩
      have h8 := bel_step h7 hb8
      have HCP := Lib.hid hcp
      clear hcp
      have hn00 : ¬ n = 0 := by omega
      go_wp2_with fail
      all_goals (try (exfalso; omega))
      rw [EQI.out, EQJ.out]
      with_reducible refine (counts_any B n d p I D _ hin (by omega) (by omega) (HP.out.keep h8)).mono ?_
      rintro e w9 ⟨rfl, rfl⟩
      have HRC := Lib.hid HCP.out.rm
      cases hci : ctB p I D
      · go_wp2_with fail
        with_reducible refine (baseline_any _ n cap L z B n d p D S _ (by omega) (by omega) HRC.out (HP.out.keep h8)).mono ?_
        rintro e w10 ⟨rfl, hb⟩
        have h10 := bel_step h8 hb
        clear hb
        go_wp2_with fail
        go_ret
        exact ⟨rfl, h10⟩
      · go_wp2_with fail
        with_reducible refine (counts_any B n d p J D _ hjn (by omega) (by omega) (HP.out.keep h8)).mono ?_
        rintro e w9 ⟨rfl, rfl⟩
        cases hcj : ctB p J D
        · go_wp2_with fail
          with_reducible refine (baseline_any _ n cap L z B n d p D S _ (by omega) (by omega) HRC.out (HP.out.keep h8)).mono ?_
          rintro e w10 ⟨rfl, hb⟩
          have h10 := bel_step h8 hb
          clear hb
          go_wp2_with fail
          go_ret
          exact ⟨rfl, h10⟩
        · have HSW2 := Lib.hid (HSW.out hci hcj)
          have hI := cp_row HCP.out hin
          have hJ := cp_row HCP.out hjn
          have i1 : (I : Int) < (n : Int) := by omega
          have i2 : (J : Int) < (n : Int) := by omega
          have i3 : (0 : Int) ≤ (I : Int) := by omega
          have i4 : (0 : Int) ≤ (J : Int) := by omega
          obtain ⟨ci, fi⟩ := hI
          obtain ⟨cj, fj⟩ := hJ
          obtain ⟨v', hv'⟩ := cell?_setCell_some (w := w8) (p := ⟨g, I, none⟩) (x := .slice (some ⟨G J, 0, none⟩) (L J) (C J)) (q := ⟨g, J, none⟩) (v := .slice (some ⟨G J, 0, none⟩) (L J) (C J)) cj
          go_wp2_with fail
          go_region
          have hsw := CP.swapped HCP.out hin hjn HL0.out
          have h9 : Below w.heap.size w ((w8.setCell ⟨g, I, none⟩ (.slice (some ⟨G J, 0, none⟩) (L J) (C J))).setCell ⟨g, J, none⟩ (.slice (some ⟨G I, 0, none⟩) (L I) (C I))).drew := ((h8.setCell (p := ⟨g, I, none⟩) (Nat.le_trans h7.size (own_ge HCP.out.1 g rfl)) _).setCell (p := ⟨g, J, none⟩) (Nat.le_trans h7.size (own_ge HCP.out.1 g rfl)) _).drew
          clear ci cj fi fj hv'
          generalize ((w8.setCell ⟨g, I, none⟩ (.slice (some ⟨G J, 0, none⟩) (L J) (C J))).setCell ⟨g, J, none⟩ (.slice (some ⟨G I, 0, none⟩) (L I) (C I))).drew = w9 at hsw h9 ⊢
          have HSWR := Lib.hid hsw
          clear hsw
          go_wp2_with fail
          with_reducible refine (baseline_any _ n cap L (fun r => z (sw I J r)) B n d p D S _ (by omega) (by omega) HSWR.out (HP.out.keep h9)).mono ?_
          rintro e w10 ⟨rfl, hb⟩
          have h10 := bel_step h9 hb
          clear hb
          rw [HSW2.out.1, HSW2.out.2]
          go_wp2_with fail
          go_ret
          exact ⟨rfl, h10⟩
theorem walk_further (A : Option Addr) (n c : Nat) (L : Nat → Nat) (z : Nat → Nat → Int) (B : Option Addr) (m d : Nat) (p : Nat → Bool) (day slot which num : Int) (w : World) (hn : n ≤ 9223372036854775807) (hm : m ≤ 9223372036854775807) (hR : RM w A n L z) (hP : RP w B m p) :
    Calls Try.prog 8 #[.slice A n c, .slice B m d, .int .i64 day, .int .i64 slot, .int .i64 which, .int .i64 num] w fun e w' => e = .returned (.bool true) ∧ Below w.heap.size w w' := by
  by_cases hy : uB n m L z = true ∧ n < 60 ∧ (0 ≤ day ∧ day < n) ∧ (0 ≤ slot ∧ slot < L 0) ∧ 0 ≤ which ∧ (0 ≤ num ∧ num ≤ 1000)
  · obtain ⟨hu, h60, hd, hs, hw, hx⟩ := hy
    obtain ⟨D, rfl⟩ := Int.eq_ofNat_of_zero_le hd.1
    obtain ⟨S, rfl⟩ := Int.eq_ofNat_of_zero_le hs.1
    obtain ⟨Q, rfl⟩ := Int.eq_ofNat_of_zero_le hw
    obtain ⟨E, rfl⟩ := Int.eq_ofNat_of_zero_le hx.1
    obtain rfl : n = m := (vd_iff.1 (uB_iff.1 hu).1).1.2.symm
    exact fur_yes A n c L z B d p D S Q E w hR hP hu h60 (by omega) (by omega) (by omega)
  · exact fur_no A n c L z B m d p day slot which num w hn hm hR hP hy
end Go.Proofs.Ytdeeaehdbaoloaa
