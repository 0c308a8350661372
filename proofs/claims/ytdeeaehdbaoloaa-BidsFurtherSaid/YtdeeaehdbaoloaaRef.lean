/-
  THE WALKS over the reference implementation of bids.
-/
import Derived.Test.YtdeeaehdbaoloaaDeliv
namespace Go.Proofs.Ytdeeaehdbaoloaa
open Go.RowKit
set_option linter.unusedVariables false
attribute [local go_sem ↓] Go.wp_at_zero Go.wp_at_succ

theorem below_drewN {B : Nat} {a w : World} (h : Below B a w) (n : Nat) : Below B a (w.drewN n) := ⟨h.os, h.tape, h.output, h.size, h.block⟩
/-- few enough -/
def fwB (n m : Nat) (L : Nat → Nat) : Bool := decide ((∀ i, i < n → L i ≤ 50) ∧ n ≤ 100 ∧ m ≤ 100)
theorem fwB_iff {n m : Nat} {L : Nat → Nat} : fwB n m L = true ↔ (∀ i, i < n → L i ≤ 50) ∧ n ≤ 100 ∧ m ≤ 100 := by simp [fwB]
theorem fw_no {n m : Nat} {L : Nat → Nat} (h : ¬ ((∀ i, i < n → L i ≤ 50) ∧ n ≤ 100 ∧ m ≤ 100)) : false = fwB n m L := by
  have : ¬ fwB n m L = true := fun hx => h (fwB_iff.1 hx)
  simpa using this

set_option maxRecDepth 100000 in
set_option maxHeartbeats 2000000 in
theorem few_any (A : Option Addr) (n c : Nat) (L : Nat → Nat) (z : Nat → Nat → Int) (B : Option Addr) (m d : Nat) (w : World) (hn : n ≤ 9223372036854775807) (hm : m ≤ 9223372036854775807) (hR : RM w A n L z) :
    Calls Try.prog 10 #[.slice A n c, .slice B m d] w fun e w' => e = .returned (.bool (fwB n m L)) ∧ w = w' := by
  have HR := Lib.hid hR
  clear hR
  go_enter Try.func10, Try.ntmps10
  go_wp2
  go_loop [5] (fun i => ∃ k : Nat, k ≤ n ∧ i = .int .i64 k ∧ ∀ j, j < k → L j ≤ 50) (fun i => n - (intOf i).toNat)
  case atStart => exact ⟨0, Nat.zero_le _, rfl, fun j hj => by omega⟩
  case round =>
    obtain ⟨k, hk, rfl, hall⟩ := hrel
    have HA := Lib.hid hall
    clear hall
    by_cases hlt : k < n
    · obtain ⟨b, o, R, C, rfl, hb, hc, hC, _, _⟩ := HR.out k hlt
      by_cases h1 : L k ≤ 50
      · go_wp2
        all_goals (try (exfalso; omega))
        go_round
        case rel => exact ⟨k + 1, by omega, by go_num, all_snoc HA.out h1⟩
        case measure => simp [intOf] <;> omega
      · have h2 : 50 < L k := by omega
        go_wp2
        all_goals (try (exfalso; omega))
        go_ret
        exact ⟨ret_bool (fw_no fun hx => by have := hx.1 k hlt; omega), rfl⟩
    · obtain rfl : k = n := by omega
      by_cases h1 : k ≤ 100
      · by_cases h2 : m ≤ 100
        · have e2 : decide ((m : Int) ≤ 100) = true := by simp; omega
          go_wp2
          all_goals (try (exfalso; omega))
          go_ret
          exact ⟨ret_bool (fwB_iff.2 ⟨HA.out, h1, h2⟩).symm, rfl⟩
        · have e2 : decide ((m : Int) ≤ 100) = false := by simp; omega
          go_wp2
          all_goals (try (exfalso; omega))
          go_ret
          exact ⟨ret_bool (fw_no fun hx => by omega), rfl⟩
      · have e2 : decide ((k : Int) ≤ 100) = false := by simp; omega
        go_wp2
        all_goals (try (exfalso; omega))
        go_ret
        exact ⟨ret_bool (fw_no fun hx => by omega), rfl⟩

set_option maxRecDepth 100000 in
set_option maxHeartbeats 2000000 in
theorem rvalid (A : Option Addr) (n c : Nat) (L : Nat → Nat) (z : Nat → Nat → Int) (B : Option Addr) (m d : Nat) (w : World) (hn : n ≤ 9223372036854775807) (hm : m ≤ 9223372036854775807) (hR : RM w A n L z) :
    Calls Try.prog 18 #[.slice A n c, .slice B m d] w fun e w' => e = .returned (.bool (vd n m L z)) ∧ Below w.heap.size w w' := by
  have HR := Lib.hid hR
  clear hR
  by_cases h60 : 60 < n
  · have hr := Lib.hid (vd_no (n := n) (m := m) (L := L) (z := z) (fun hx => by omega))
    go_enter Try.func18, Try.ntmps18
    go_wp2
    all_goals (try (exfalso; omega))
    go_ret
    exact ⟨ret_bool hr.out, Below.refl _ _⟩
  · by_cases hmn : m = n
    · subst hmn
      go_enter Try.func18, Try.ntmps18
      go_wp2
      all_goals (try (exfalso; omega))
      go_loopw [5] (fun i wr => ∃ k : Nat, k ≤ m ∧ i = .int .i64 k ∧ (∀ j, j < k → rowOK L z j) ∧ Below w.heap.size w wr) (fun i _ => m - (intOf i).toNat)
      case atStart => exact ⟨0, Nat.zero_le _, rfl, fun j hj => by omega, Below.refl _ _⟩
      case round =>
        obtain ⟨k, hk, rfl, hall, hbw⟩ := hrel
        have HA := Lib.hid hall
        clear hall
        by_cases hlt : k < m
        · obtain ⟨b, o, R, C, rfl, hb, hc, hC, hN, hZ⟩ := (HR.out.keep hbw) k hlt
          obtain ⟨b', o', R', C', e', hb', hc', hC', _, _⟩ := (HR.out.keep hbw) 0 (by omega)
          cases e'
          rw [Nat.add_zero] at hc'
          have HZ := Lib.hid hZ
          clear hZ hN
          have i0 : (0 : Int) ≤ (k : Int) := by omega
          have i1 : (k : Int) < (m : Int) := by omega
          have i2 : (0 : Int) < (m : Int) := by omega
          by_cases h1 : 1 ≤ L k
          · have e1 : decide ((L k : Int) < 1) = false := by simp; omega
            by_cases h2 : L k ≤ 24
            · have e2 : decide ((24 : Int) < (L k : Int)) = false := by simp; omega
              by_cases h3 : L k = L 0
              · have e3 : ((L k : Int) != (L 0 : Int)) = false := by simp [h3]
                have H3 := Lib.hid h3
                clear h3
                go_wp2_with fail
                go_quiet (fail)
                go_wp2_with fail
                obtain ⟨wo, hwo⟩ : ∃ wo : World, wr.drewN nq = wo := ⟨_, rfl⟩
                have hbo : Below w.heap.size w wo := by rw [← hwo]; exact below_drewN hbw _
                have hco : wo.cell? ⟨b, o + k, none⟩ = some (.slice R (L k) C) := by rw [← hwo]; exact hc
                have hzo : RZ wo R (L k) (z k) := by rw [← hwo]; exact HZ.out
                rw [hwo]
                have HZo := Lib.hid hzo
                clear hwo hzo HZ hc hc'
                go_loop [6] (fun i => ∃ q : Nat, q ≤ L k ∧ i = .int .i64 q ∧ ∀ j, j < q → 0 ≤ z k j ∧ z k j ≤ 1000) (fun i => L k - (intOf i).toNat)
                case atStart => exact ⟨0, Nat.zero_le _, rfl, fun j hj => by omega⟩
                case round =>
                  obtain ⟨q, hq, rfl, hin⟩ := hrel
                  have HI := Lib.hid hin
                  clear hin
                  by_cases hql : q < L k
                  · obtain ⟨b2, o2, rfl, hb2, hc2⟩ := HZo.out q hql
                    by_cases h4 : 0 ≤ z k q
                    · by_cases h5 : z k q ≤ 1000
                      · go_wp2
                        all_goals (try (exfalso; omega))
                        go_round
                        case rel => exact ⟨q + 1, by omega, by go_num, all_snoc HI.out ⟨h4, h5⟩⟩
                        case measure => simp [intOf] <;> omega
                      · have h6 : 1000 < z k q := by omega
                        go_wp2
                        all_goals (try (exfalso; omega))
                        go_ret
                        exact ⟨ret_bool (vd_no fun hx => by have := (hx.2 k hlt).2 q hql; omega), hbo⟩
                    · have h6 : z k q < 0 := by omega
                      go_wp2
                      all_goals (try (exfalso; omega))
                      go_ret
                      exact ⟨ret_bool (vd_no fun hx => by have := (hx.2 k hlt).2 q hql; omega), hbo⟩
                  · obtain rfl : q = L k := by omega
                    go_wp2
                    all_goals (try (exfalso; omega))
                    go_roundw
                    case rel => exact ⟨k + 1, by omega, by go_num, all_snoc HA.out ⟨⟨h1, h2, H3.out⟩, HI.out⟩, hbo⟩
                    case measure => simp [intOf] <;> omega
              · have e3 : ((L k : Int) != (L 0 : Int)) = true := by simp; omega
                have H3 := Lib.hid h3
                clear h3
                go_wp2_with fail
                go_quiet (fail)
                go_wp2_with fail
                go_ret
                exact ⟨ret_bool (vd_no fun hx => by have := (hx.2 k hlt).1; have := H3.out; omega), below_drewN hbw _⟩
            · have e2 : decide ((24 : Int) < (L k : Int)) = true := by simp; omega
              go_wp2_with fail
              go_quiet (fail)
              go_wp2_with fail
              go_ret
              exact ⟨ret_bool (vd_no fun hx => by have := (hx.2 k hlt).1; omega), below_drewN hbw _⟩
          · have e1 : decide ((L k : Int) < 1) = true := by simp; omega
            go_wp2_with fail
            go_quiet (fail)
            go_wp2_with fail
            go_ret
            exact ⟨ret_bool (vd_no fun hx => by have := (hx.2 k hlt).1; omega), below_drewN hbw _⟩
        · obtain rfl : k = m := by omega
          go_wp2
          all_goals (try (exfalso; omega))
          go_ret
          exact ⟨ret_bool (vd_iff.2 ⟨⟨by omega, rfl⟩, HA.out⟩).symm, hbw⟩
    · have e1 : ((m : Int) != (n : Int)) = true := by simp; omega
      have hr := Lib.hid (vd_no (n := n) (m := m) (L := L) (z := z) (fun hx => hmn hx.1.2))
      clear hmn
      go_enter Try.func18, Try.ntmps18
      go_wp2
      all_goals (try (exfalso; omega))
      go_ret
      exact ⟨ret_bool hr.out, Below.refl _ _⟩

/-- the days before a day that have no bid, forward, as cells -/
def cf (p : Nat → Bool) (k : Nat) : List Value := cd (ds p k).reverse
theorem cf_miss {p : Nat → Bool} {k : Nat} (h : p k = true) : cf p (k + 1) = cf p k ∧ (ds p (k + 1)).length = (ds p k).length := by simp [cf, ds, h]
theorem cf_hit {p : Nat → Bool} {k : Nat} (h : p k = false) : cf p (k + 1) = cf p k ++ [.int .i64 (k : Int)] ∧ (ds p (k + 1)).length = (ds p k).length + 1 := by simp [cf, ds, h, cd]
theorem cf_get {p : Nat → Bool} {D i : Nat} (h : i < (ds p D).length) : (cf p D)[i]? = some (.int .i64 (dy p D ((ds p D).length - 1 - i) : Int)) := by
  have h2 : (ds p D).length - 1 - i < (ds p D).length := by omega
  unfold cf cd dy
  rw [List.getElem?_map, List.getElem?_reverse h, List.getElem?_eq_getElem h2, List.getD_eq_getElem?_getD, List.getElem?_eq_getElem h2]
  rfl
/-- what Counting returns -/
def CR (p : Nat → Bool) (D : Nat) (e : Ending) (w' : World) : Prop :=
  (5 ≤ (ds p D).length ∧ ∃ A c, e = .returned (.slice A 5 c) ∧ RZ w' A 5 (fun i => (dy p D (4 - i) : Int))) ∨ ((ds p D).length < 5 ∧ ∃ A c, e = .returned (.slice A (ds p D).length c))

set_option maxRecDepth 100000 in
set_option maxHeartbeats 2000000 in
theorem rcount (B : Option Addr) (m c : Nat) (p : Nat → Bool) (D : Nat) (w : World) (hD : D ≤ m) (hm : m ≤ 100) (hP : RP w B m p) :
    Calls Try.prog 24 #[.slice B m c, .int .i64 (D : Int)] w fun e w' => CR p D e w' ∧ Below w.heap.size w w' := by
  have HP := Lib.hid hP
  clear hP
  obtain ⟨i0, hi, hz0, hz1, hz2⟩ := info_parts infoInt
  have HI := Lib.hid hi
  have HZ0 := Lib.hid hz0
  have HZ1 := Lib.hid hz1
  have HZ2 := Lib.hid hz2
  clear hi hz0 hz1 hz2
  go_enter Try.func24, Try.ntmps24
  go_wp2_with fail
  go_loopw [5, 6] (fun v i wr => ∃ k : Nat, k ≤ D ∧ i = .int .i64 k ∧ wr.ownsRow w.heap.size 3 1 v (ds p k).length (cf p k) ∧ Below w.heap.size w wr) (fun _ i _ => D - (intOf i).toNat)
  case atStart => exact ⟨0, Nat.zero_le _, rfl, World.ownsRow_nil _ _ _ _, Below.refl _ _⟩
  case round =>
    obtain ⟨k, hk, rfl, hown, hbw⟩ := hrel
    have hws := hbw.size
    have hdl := ds_len p k
    by_cases hlt : k < D
    · obtain ⟨b1, o1, rfl, hb1, hc1⟩ := (HP.out.keep hbw) k (by omega)
      have i1 : (k : Int) < (m : Int) := by omega
      cases hp : p k
      · have HH := Lib.hid (cf_hit hp)
        go_wp2_with (at_builtin; refine wpList_append_lies _ rfl (.tmp 17) (.tmp 19) 33 rfl w.heap.size 3 i0 _ 1 8 Try.underlying33 HI.out HZ0.out HZ1.out HZ2.out rfl (by omega) u5 (ds p k).length _ rfl (hown.alloc _) ⟨wr.heap.size, 0, none⟩ 1 1 [.int .i64 (k : Int)] rfl rfl (World.news_of_block (heap_alloc_new wr _)) (by simp [Value.oneCell']) (by omega) (by unfold maxLen; omega) (by omega) (by simp; omega) (wr.heap.size + 1) (by simp) ?_; intro g1 cap1 wA hown1 hgrow1 hat1 hlt1; have h4 : Below w.heap.size w wA := (by have q := bel_alloc hbw (.cells #[.int .i64 (k : Int)] 3); exact q.grown hgrow1 q.size (own_ge hown)))
        go_roundw
        case rel => exact ⟨k + 1, by omega, by go_num, by rw [HH.out.1, HH.out.2]; exact hown1, h4⟩
        case measure => simp [intOf] <;> omega
      · have HH := Lib.hid (cf_miss hp)
        go_wp2_with fail
        go_roundw
        case rel => exact ⟨k + 1, by omega, by go_num, by rw [HH.out.1, HH.out.2]; exact hown, hbw⟩
        case measure => simp [intOf] <;> omega
    · obtain rfl : k = D := by omega
      obtain ⟨q, hq⟩ : ∃ q, (ds p k).length = q := ⟨_, rfl⟩
      have HQ := Lib.hid hq
      rw [hq] at hown hdl
      clear hq
      rcases Nat.eq_zero_or_pos q with h0 | h0
      · subst h0
        rcases hown.2 with ⟨rfl, _⟩ | ⟨g, cap, cur, rfl, _⟩
        · go_wp2_with fail
          go_ret
          exact ⟨.inr ⟨by rw [HQ.out]; omega, none, 0, by rw [HQ.out]; rfl⟩, hbw⟩
        · go_wp2_with fail
          go_ret
          exact ⟨.inr ⟨by rw [HQ.out]; omega, some ⟨g, 0, none⟩, cap, by rw [HQ.out]; rfl⟩, hbw⟩
      · obtain ⟨g, cap, rfl, _, hgl⟩ := hown.form h0
        have hcap : q ≤ cap ∧ cap ≤ 9223372036854775807 := by
          rcases hown.2 with ⟨h', _⟩ | ⟨g', cap', cur, h', _, _, h1, h2, _⟩
          · cases h'
          · cases h'; unfold maxLen at h2; omega
        by_cases h6 : 5 < q
        · obtain ⟨j, rfl⟩ : ∃ j, q = j + 5 := ⟨q - 5, by omega⟩
          have hc : ¬ cap = j := by omega
          have e1 : ((j + 5 : Nat) : Int) - 5 = (j : Int) := by omega
          have e2 : (0 : Int) < (j : Int) := by omega
          go_wp2_with fail
          go_ret
          refine ⟨.inl ⟨by rw [HQ.out]; omega, some ⟨g, j, none⟩, cap - j, rfl, ?_⟩, hbw⟩
          intro i hi
          refine ⟨g, j, rfl, hgl, ?_⟩
          rw [hown.cellAt (j + i) (by omega), cf_get (by rw [HQ.out]; omega), HQ.out]
          congr 4
          omega
        · by_cases h5 : q = 5
          · subst h5
            go_wp2_with fail
            go_ret
            refine ⟨.inl ⟨by rw [HQ.out]; omega, some ⟨g, 0, none⟩, cap, rfl, ?_⟩, hbw⟩
            intro i hi
            refine ⟨g, 0, rfl, hgl, ?_⟩
            rw [Nat.zero_add, hown.cellAt i (by omega), cf_get (by rw [HQ.out]; omega), HQ.out]
          · have e3 : ((q : Int) - 5) < 0 := by omega
            go_wp2_with fail
            go_ret
            exact ⟨.inr ⟨by rw [HQ.out]; omega, some ⟨g, 0, none⟩, cap, by rw [HQ.out]; rfl⟩, hbw⟩
end Go.Proofs.Ytdeeaehdbaoloaa
