/-
  THE WALKS over the reference of settle, third part: Net.
-/
import Derived.Test.YtflehgdhdfmacaaRefA
namespace Go.Proofs.Ytflehgdhdfmacaa
open Go.RowKit
set_option linter.unusedVariables false
attribute [local go_sem ↓] Go.wp_at_zero Go.wp_at_succ

/-- what Net answers, of the memory only that it reads so -/
def NetQ (W : World) (v : Value) (er : Int) (X : Nat → Nat → Int) (n m : Nat) : Prop :=
  (er = 1 ∧ v = .slice none 0 0 ∧ ¬ allR m X n) ∨ (er = 5 ∧ v = .slice none 0 0 ∧ allR m X n ∧ dup X n) ∨ (er = 0 ∧ allR m X n ∧ ¬ dup X n ∧ ∃ A' c', v = .slice A' m c' ∧ RZ W A' m (get X n) ∧ (m ≤ c' ∧ c' ≤ 9223372036854775807))
theorem NetR.q {W : World} {v : Value} {er : Int} {X : Nat → Nat → Int} {n m : Nat} (h : NetR W v er X n m) : NetQ W v er X n m := by
  rcases h with h | h | ⟨h1, h2, h3, g, h4, h5⟩
  · exact .inl h
  · exact .inr (.inl h)
  · refine .inr (.inr ⟨h1, h2, h3, _, _, h4, h5.rz, ?_⟩)
    obtain ⟨_, _, h', _⟩ := h5
    exact h'

theorem not_true {b : Bool} (h : b = true → False) : b = false := by cases b <;> simp_all

set_option maxRecDepth 100000 in
set_option maxHeartbeats 2000000 in
theorem rnet_any (A : Option Addr) (n c : Nat) (X : Nat → Nat → Int) (m : Nat) (w : World) (hn : n ≤ 64) (hm : 1 ≤ m ∧ m ≤ 8) (hR : RR w A n X) :
    Calls Try.prog 11 #[.slice A n c, .int .i64 (m : Int)] w fun e w' => (∃ v er, e = .returned (.tuple #[v, .int .i64 er]) ∧ NetQ w' v er X n m) ∧ Below w.heap.size w w' := by
  have HR := Lib.hid hR
  clear hR
  obtain ⟨i0, hi, hz0, hz1, hz2⟩ := info_parts infoInt
  have HI := Lib.hid hi
  have HZ0 := Lib.hid hz0
  have HZ1 := Lib.hid hz1
  have HZ2 := Lib.hid hz2
  clear hi hz0 hz1 hz2
  have e8 : decide ((8 : Int) < (m : Int)) = false := decide_eq_false (by omega)
  go_enter Try.func11, Try.ntmps11
  go_wp2_with fail
  all_goals (try (exfalso; omega))
  go_loopw [6] (fun i wr => ∃ k : Nat, k ≤ n ∧ i = .int .i64 k ∧ allR m X k ∧ Below w.heap.size w wr) (fun i _ => n - (intOf i).toNat)
  case atStart => exact ⟨0, Nat.zero_le _, rfl, fun i hi => by omega, Below.refl _ _⟩
  case round =>
    obtain ⟨k, hk, rfl, hall, hbw⟩ := hrel
    have HALL := Lib.hid hall
    have HBW := Lib.hid hbw
    have hws := hbw.size
    clear hall hbw
    by_cases hlt : k < n
    · obtain ⟨b, o, rfl, hb, c0, c1, c2, c3, c4, c5, c6, c7, c8, c9, c10, c11, c12⟩ := (HR.out.keep HBW.out).cells hlt
      have i1 : (k : Int) < (n : Int) := by omega
      have i0' : (0 : Int) ≤ (k : Int) := by omega
      cases hok : okR m (X k)
      · have HO := Lib.hid hok
        clear hok
        go_wp2_with (go_at_call 20; with_reducible refine (settles_any (X k) m _).mono ?_; rintro e w1 ⟨rfl, hb1⟩; rw [HO.out])
        go_ret2
        exact ⟨⟨_, _, rfl, .inl ⟨rfl, rfl, fun ha => by have := ha k hlt; rw [HO.out] at this; cases this⟩⟩, bel_step HBW.out hb1⟩
      · have HO := Lib.hid hok
        clear hok
        go_wp2_with (go_at_call 20; with_reducible refine (settles_any (X k) m _).mono ?_; rintro e w1 ⟨rfl, hb1⟩; rw [HO.out])
        go_roundw
        case rel => exact ⟨k + 1, by omega, by go_num, all_snoc HALL.out HO.out, bel_step HBW.out hb1⟩
        case measure => simp [intOf] <;> omega
    · obtain rfl : k = n := by omega
      by_cases hdu : dup X k
      · have HD := Lib.hid hdu
        clear hdu
        go_wp2_with (go_at_call 23; with_reducible refine (twice_any _ _ _ X wr hn (HR.out.keep HBW.out)).mono ?_; rintro e w1 ⟨⟨tw, rfl, htw⟩, hb1⟩; obtain rfl : tw = true := htw.2 HD.out)
        go_ret2
        exact ⟨⟨_, _, rfl, .inr (.inl ⟨rfl, rfl, HALL.out, HD.out⟩)⟩, bel_step HBW.out hb1⟩
      · have HND := Lib.hid hdu
        clear hdu
        go_wp2_with (go_at_call 23; with_reducible refine (twice_any _ _ _ X wr hn (HR.out.keep HBW.out)).mono ?_; rintro e w1 ⟨⟨tw, rfl, htw⟩, hb1⟩; obtain rfl : tw = false := not_true (fun h => absurd (htw.1 h) HND.out))
        have HB1 := Lib.hid (bel_step HBW.out hb1)
        clear htw hb1
        go_loopw [9, 10] (fun v i w2 => ∃ q : Nat, q ≤ m ∧ i = .int .i64 q ∧ w2.ownsRow w.heap.size 3 1 v q (nums (get X k) q) ∧ Below w.heap.size w w2) (fun _ i _ => m - (intOf i).toNat)
        case atStart => exact ⟨0, Nat.zero_le _, rfl, World.ownsRow_nil _ _ _ _, HB1.out⟩
        case round =>
          obtain ⟨q, hq, rfl, how, hb2⟩ := hrel
          obtain ⟨A9, c9, hv9, hc9⟩ : ∃ A9 c9, u9 = .slice A9 q c9 ∧ (q ≤ c9 ∧ c9 ≤ 9223372036854775807) := by
            rcases how.2 with ⟨h', h''⟩ | ⟨g', cap', cur, h', _, _, h1, h2, _⟩
            · exact ⟨none, 0, by rw [h', h''], by omega⟩
            · exact ⟨_, cap', h', by unfold maxLen at h2; omega⟩
          subst hv9
          have hsz := hb2.size
          have HOW := Lib.hid how
          have HB2 := Lib.hid hb2
          clear how hb2 HB1
          by_cases hqm : q < m
          · have HN := Lib.hid (nums_succ (get X k) q)
            go_wp2_with (first
              | (go_at_call 24; with_reducible refine (gets_any _ _ _ X m q _ hn (HR.out.keep HB2.out) HALL.out).mono ?_; rintro e w3 ⟨rfl, rfl⟩)
              | (at_builtin; refine wpList_append_lies _ rfl (.tmp 42) (.tmp 46) 23 rfl w.heap.size 3 i0 _ 1 8 Try.underlying23 HI.out HZ0.out HZ1.out HZ2.out rfl (by omega) (.slice A9 q c9) q _ rfl (HOW.out.alloc _) ⟨wr.heap.size, 0, none⟩ 1 1 [.int .i64 (get X k q)] rfl rfl (World.news_of_block (heap_alloc_new wr _)) (by simp [Value.oneCell']) (by omega) (by unfold maxLen; omega) (by omega) (by simp; omega) (wr.heap.size + 1) (by simp) ?_; intro g1 cap1 wB hown1 hgrow1 hat1 hlt1; rw [← HN.out] at hown1))
            have hbB : Below w.heap.size w wB := (bel_alloc HB2.out _).grown hgrow1 (bel_alloc HB2.out _).size (own_ge HOW.out)
            go_roundw
            case rel => exact ⟨q + 1, by omega, by go_num, hown1, hbB⟩
            case measure => simp [intOf] <;> omega
          · obtain rfl : q = m := by omega
            go_wp2_with fail
            go_ret2
            exact ⟨⟨_, _, rfl, .inr (.inr ⟨rfl, HALL.out, HND.out, A9, c9, rfl, RZ_own HOW.out, hc9⟩)⟩, HB2.out⟩
end Go.Proofs.Ytflehgdhdfmacaa
