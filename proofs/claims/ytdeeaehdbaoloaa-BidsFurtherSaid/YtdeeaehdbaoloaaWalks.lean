/-
  THE WALKS over package bids, first part: sum, valid, mean.
-/
import Derived.Test.YtdeeaehdbaoloaaMem
import Derived.Test.YtdeeaehdbaoloaaApp
namespace Go.Proofs.Ytdeeaehdbaoloaa
open Go.RowKit
set_option linter.unusedVariables false
attribute [local go_sem ↓] Go.wp_at_zero Go.wp_at_succ

set_option maxHeartbeats 1000000 in
theorem sum_any (A : Option Addr) (n c : Nat) (z : Nat → Int) (w : World) (hn : n ≤ 100) (hz : ∀ i, i < n → -1000000000000 ≤ z i ∧ z i ≤ 1000000000000) (hR : RZ w A n z) :
    Calls Try.prog 26 #[.slice A n c] w fun e w' => e = .returned (.int .i64 (tot z n)) ∧ w = w' := by
  have HR := Lib.hid hR
  have HZ := Lib.hid hz
  clear hR hz
  go_enter Try.func26, Try.ntmps26
  go_wp2
  go_loop [3, 8] (fun s i => ∃ k : Nat, k ≤ n ∧ i = .int .i64 k ∧ s = .int .i64 (tot z k)) (fun _ i => n - (intOf i).toNat)
  case atStart => exact ⟨0, Nat.zero_le _, rfl, rfl⟩
  case round =>
    obtain ⟨k, hk, rfl, rfl⟩ := hrel
    by_cases hlt : k < n
    · obtain ⟨b, o, rfl, hb, hc⟩ := HR.out k hlt
      have hzk := HZ.out k hlt
      have tb := tot_bd HZ.out k hk
      go_wp2
      all_goals (try (exfalso; omega))
      go_round
      case rel => exact ⟨k + 1, by omega, by go_num, rfl⟩
      case measure => simp [intOf] <;> omega
    · obtain rfl : k = n := by omega
      go_wp2
      all_goals (try (exfalso; omega))
      all_goals go_ret
      all_goals exact ⟨rfl, rfl⟩

theorem vd_no {n m : Nat} {L : Nat → Nat} {z : Nat → Nat → Int} (h : ¬ ((n ≤ 60 ∧ m = n) ∧ ∀ i, i < n → rowOK L z i)) : false = vd n m L z := by
  have : ¬ vd n m L z = true := fun hx => h (vd_iff.1 hx)
  simpa using this

set_option maxRecDepth 100000 in
set_option maxHeartbeats 2000000 in
theorem valid_any (A : Option Addr) (n c : Nat) (L : Nat → Nat) (z : Nat → Nat → Int) (B : Option Addr) (m d : Nat) (w : World) (hn : n ≤ 9223372036854775807) (hm : m ≤ 9223372036854775807) (hR : RM w A n L z) :
    Calls Try.prog 21 #[.slice A n c, .slice B m d] w fun e w' => e = .returned (.bool (vd n m L z)) ∧ w = w' := by
  have HR := Lib.hid hR
  clear hR
  by_cases h60 : 60 < n
  · have hr := Lib.hid (vd_no (n := n) (m := m) (L := L) (z := z) (fun hx => by omega))
    go_enter Try.func21, Try.ntmps21
    go_wp2
    all_goals (try (exfalso; omega))
    all_goals go_ret
    all_goals exact ⟨ret_bool hr.out, rfl⟩
  · by_cases hmn : m = n
    · subst hmn
      go_enter Try.func21, Try.ntmps21
      go_wp2
      go_loop [21] (fun i => ∃ k : Nat, k ≤ m ∧ i = .int .i64 k ∧ ∀ j, j < k → rowOK L z j) (fun i => m - (intOf i).toNat)
      case atStart => exact ⟨0, Nat.zero_le _, rfl, fun j hj => by omega⟩
      case round =>
        obtain ⟨k, hk, rfl, hall⟩ := hrel
        have HA := Lib.hid hall
        clear hall
        by_cases hlt : k < m
        · obtain ⟨b, o, R, C, rfl, hb, hc, hC, hN, hZ⟩ := HR.out k hlt
          obtain ⟨b', o', R', C', e', hb', hc', hC', _, _⟩ := HR.out 0 (by omega)
          cases e'
          rw [Nat.add_zero] at hc'
          have HZ := Lib.hid hZ
          clear hZ hN
          by_cases h1 : 1 ≤ L k
          · by_cases h2 : L k ≤ 24
            · by_cases h3 : L k = L 0
              · have e3 : ((L k : Int) != (L 0 : Int)) = false := by simp [h3]
                have H3 := Lib.hid h3
                clear h3
                go_wp2
                go_loop [44] (fun i => ∃ q : Nat, q ≤ L k ∧ i = .int .i64 q ∧ ∀ j, j < q → 0 ≤ z k j ∧ z k j ≤ 1000) (fun i => L k - (intOf i).toNat)
                case atStart => exact ⟨0, Nat.zero_le _, rfl, fun j hj => by omega⟩
                case round =>
                  obtain ⟨q, hq, rfl, hin⟩ := hrel
                  have HI := Lib.hid hin
                  clear hin
                  by_cases hql : q < L k
                  · obtain ⟨b2, o2, rfl, hb2, hc2⟩ := HZ.out q hql
                    by_cases h4 : 0 ≤ z k q
                    · by_cases h5 : z k q ≤ 1000
                      · go_wp2
                        all_goals (try (exfalso; omega))
                        go_round
                        case rel => exact ⟨q + 1, by omega, by go_num, all_snoc HI.out ⟨h4, h5⟩⟩
                        case measure => simp [intOf] <;> omega
                      · have h6 : 1000 < z k q := by omega
                        go_wp2
                        all_goals (try (exfalso; omega))
                        all_goals go_ret
                        all_goals exact ⟨ret_bool (vd_no fun hx => by have := (hx.2 k hlt).2 q hql; omega), rfl⟩
                    · have h6 : z k q < 0 := by omega
                      go_wp2
                      all_goals (try (exfalso; omega))
                      all_goals go_ret
                      all_goals exact ⟨ret_bool (vd_no fun hx => by have := (hx.2 k hlt).2 q hql; omega), rfl⟩
                  · obtain rfl : q = L k := by omega
                    go_wp2
                    all_goals (try (exfalso; omega))
                    go_round
                    case rel => exact ⟨k + 1, by omega, by go_num, all_snoc HA.out ⟨⟨h1, h2, H3.out⟩, HI.out⟩⟩
                    case measure => simp [intOf] <;> omega
              · have e3 : ((L k : Int) != (L 0 : Int)) = true := by simp; omega
                have H3 := Lib.hid h3
                clear h3
                go_wp2
                all_goals (try (exfalso; omega))
                all_goals go_ret
                all_goals exact ⟨ret_bool (vd_no fun hx => by have := (hx.2 k hlt).1; have := H3.out; omega), rfl⟩
            · have h3 : 24 < L k := by omega
              go_wp2
              all_goals (try (exfalso; omega))
              all_goals go_ret
              all_goals exact ⟨ret_bool (vd_no fun hx => by have := (hx.2 k hlt).1; omega), rfl⟩
          · have h3 : L k < 1 := by omega
            go_wp2
            all_goals (try (exfalso; omega))
            all_goals go_ret
            all_goals exact ⟨ret_bool (vd_no fun hx => by have := (hx.2 k hlt).1; omega), rfl⟩
        · obtain rfl : k = m := by omega
          go_wp2
          all_goals (try (exfalso; omega))
          all_goals go_ret
          all_goals exact ⟨ret_bool (vd_iff.2 ⟨⟨by omega, rfl⟩, HA.out⟩).symm, rfl⟩
    · have e1 : ((m : Int) != (n : Int)) = true := by simp; omega
      have hr := Lib.hid (vd_no (n := n) (m := m) (L := L) (z := z) (fun hx => hmn hx.1.2))
      clear hmn
      go_enter Try.func21, Try.ntmps21
      go_wp2
      all_goals (try (exfalso; omega))
      all_goals go_ret
      all_goals exact ⟨ret_bool hr.out, rfl⟩

theorem infoInt : (Try.prog.info? 3).map (fun i => (i.zero, i.size, i.bytes)) = some (some (.int .i64 0), 1, 8) := by kernel_rfl
/-- numbers as cells -/
def nums (f : Nat → Int) (n : Nat) : List Value := (List.range n).map fun i => .int .i64 (f i)
theorem nums_length (f : Nat → Int) (n : Nat) : (nums f n).length = n := by simp [nums]
theorem nums_succ (f : Nat → Int) (n : Nat) : nums f (n + 1) = nums f n ++ [.int .i64 (f n)] := by simp [nums, List.range_succ]
theorem nums_get (f : Nat → Int) (n i : Nat) (h : i < n) : (nums f n)[i]? = some (.int .i64 (f i)) := by simp [nums, h]
theorem nums_congr {f g : Nat → Int} {n : Nat} (h : ∀ i, i < n → f i = g i) : nums f n = nums g n := by
  unfold nums
  exact List.map_congr_left fun i hi => by rw [h i (List.mem_range.1 hi)]
theorem RZ_own {w : World} {base : Nat} {e : TypeId} {A : Option Addr} {n c : Nat} {f : Nat → Int} (h : w.ownsRow base e 1 (.slice A n c) n (nums f n)) : RZ w A n f := fun i hi => by
  obtain ⟨g, cap, hv, hb, hlt⟩ := h.form (by omega)
  cases hv
  refine ⟨g, 0, rfl, hlt, ?_⟩
  rw [Nat.zero_add, h.cellAt i (by omega)]
  exact nums_get f n i hi
theorem own_ge {w : World} {base : Nat} {e : TypeId} {size : Nat} {v : Value} {n : Nat} {xs : List Value} (h : w.ownsRow base e size v n xs) : ∀ g, v.ownBlock = some g → base ≤ g := by
  intro g hg
  rcases h.2 with ⟨rfl, _⟩ | ⟨g', cap, cur, rfl, hb, _⟩
  · simp [Value.ownBlock] at hg
  · simp [Value.ownBlock] at hg; omega

set_option maxRecDepth 100000 in
set_option maxHeartbeats 2000000 in
theorem mean_any (A : Option Addr) (n c : Nat) (L : Nat → Nat) (z : Nat → Nat → Int) (B : Option Addr) (m d : Nat) (dl : Nat → Nat) (s : Nat) (w : World) (hn : n ≤ 60) (hm : 1 ≤ m ∧ m ≤ 5) (hd : ∀ i, i < m → dl i < n ∧ s < L (dl i)) (hs : s ≤ 24)
    (hz : ∀ i, i < m → 0 ≤ z (dl i) s ∧ z (dl i) s ≤ 2000) (hR : RM w A n L z) (hB : RZ w B m (fun i => (dl i : Int))) :
    Calls Try.prog 23 #[.slice A n c, .slice B m d, .int .i64 (s : Int)] w fun e w' => e = .returned (.int .i64 (tot (fun i => z (dl i) s) m / 5)) ∧ Below w.heap.size w w' := by
  have HR := Lib.hid hR
  have HB := Lib.hid hB
  have HD := Lib.hid hd
  have HZ := Lib.hid hz
  clear hR hB hd hz
  obtain ⟨i0, hi, hz0, hz1, hz2⟩ := info_parts infoInt
  have HI := Lib.hid hi
  have HZ0 := Lib.hid hz0
  have HZ1 := Lib.hid hz1
  have HZ2 := Lib.hid hz2
  clear hi hz0 hz1 hz2
  go_enter Try.func23, Try.ntmps23
  go_wp2_with fail
  go_loopw [7, 12] (fun v i wr => ∃ k : Nat, k ≤ m ∧ i = .int .i64 k ∧ wr.ownsRow w.heap.size 3 1 v k (nums (fun i => z (dl i) s) k) ∧ Below w.heap.size w wr) (fun _ i _ => m - (intOf i).toNat)
  case atStart => exact ⟨0, Nat.zero_le _, rfl, World.ownsRow_nil _ _ _ _, Below.refl _ _⟩
  case round =>
    obtain ⟨k, hk, rfl, hown, hbw⟩ := hrel
    have hws := hbw.size
    by_cases hlt : k < m
    · obtain ⟨b1, o1, rfl, hb1, hc1⟩ := (HB.out.keep hbw) k hlt
      have hdk := HD.out k hlt
      have hzk := HZ.out k hlt
      obtain ⟨b2, o2, R, C, rfl, hb2, hc2, hC, hN, hZ⟩ := (HR.out.keep hbw) (dl k) hdk.1
      obtain ⟨b3, o3, rfl, hb3, hc3⟩ := hZ s hdk.2
      clear hN
      have i1 : (dl k : Int) < (n : Int) := by omega
      have i2 : (s : Int) < (L (dl k) : Int) := by omega
      go_wp2_with (at_builtin; refine wpList_append_lies _ rfl (.tmp 16) (.tmp 24) 33 rfl w.heap.size 3 i0 _ 1 8 Try.underlying33 HI.out HZ0.out HZ1.out HZ2.out rfl (by omega) u7 k _ rfl (hown.alloc _) ⟨wr.heap.size, 0, none⟩ 1 1 [.int .i64 (z (dl k) s)] rfl rfl (World.news_of_block (heap_alloc_new wr _)) (by simp [Value.oneCell']) (by omega) (by unfold maxLen; omega) (by omega) (by simp; omega) (wr.heap.size + 1) (by simp) ?_; intro g1 cap1 wA hown1 hgrow1 hat1 hlt1; have h4 : Below w.heap.size w wA := (by have q := bel_alloc hbw (.cells #[.int .i64 (z (dl k) s)] 3); exact q.grown hgrow1 q.size (own_ge hown)))
      go_roundw
      case rel => exact ⟨k + 1, by omega, by go_num, by rw [nums_succ]; exact hown1, h4⟩
      case measure => simp [intOf] <;> omega
    · obtain rfl : k = m := by omega
      obtain ⟨g, cap, rfl, _, _⟩ := hown.form (by omega)
      have hq : ∀ i, i < k → 0 ≤ (fun i => z (dl i) s) i ∧ (fun i => z (dl i) s) i ≤ 2000 := HZ.out
      have htb := tot_pos hq k (Nat.le_refl _)
      clear hq
      go_wp2_with fail
      refine (sum_any (some ⟨g, 0, none⟩) k cap (fun i => z (dl i) s) _ (by omega) (fun i hi => by have := HZ.out i hi; omega) (RZ_own hown)).mono ?_
      rintro e w2 ⟨rfl, rfl⟩
      go_wp2_with fail
      go_ret
      exact ⟨rfl, hbw⟩
end Go.Proofs.Ytdeeaehdbaoloaa
