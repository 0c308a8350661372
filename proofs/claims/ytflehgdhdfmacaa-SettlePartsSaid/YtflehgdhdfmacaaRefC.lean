/-
  THE WALKS over the reference of settle, fourth part: Balances, Payments.
-/
import Derived.Test.YtflehgdhdfmacaaRefB
import Derived.Deep.DeepCutAuto
namespace Go.Proofs.Ytflehgdhdfmacaa
open Go.RowKit
set_option linter.unusedVariables false
attribute [local go_sem ↓] Go.wp_at_zero Go.wp_at_succ

set_option maxRecDepth 100000 in
set_option maxHeartbeats 2000000 in
theorem rbal (A : Option Addr) (n c : Nat) (y : Nat → Int) (w : World) (hn : n ≤ 8) (hR : RZ w A n y) :
    Calls Try.prog 18 #[.slice A n c] w fun e w' => e = .returned (.bool (balB y n)) ∧ w = w' := by
  have HR := Lib.hid hR
  clear hR
  go_enter Try.func18, Try.ntmps18
  go_wp2
  go_loop [3, 4] (fun s i => ∃ k : Nat, k ≤ n ∧ i = .int .i64 k ∧ s = .int .i64 (tot y k) ∧ ∀ j, j < k → -64000000000 ≤ y j ∧ y j ≤ 64000000000) (fun _ i => n - (intOf i).toNat)
  case atStart => exact ⟨0, Nat.zero_le _, rfl, rfl, fun j hj => by omega⟩
  case round =>
    obtain ⟨k, hk, rfl, rfl, hall⟩ := hrel
    have tb := tot_bd k hall
    have HALL := Lib.hid hall
    clear hall
    by_cases hlt : k < n
    · obtain ⟨b, o, rfl, hb, hc⟩ := HR.out k hlt
      by_cases h1 : -64000000000 ≤ y k
      · by_cases h2 : y k ≤ 64000000000
        · have e2 : decide (64000000000 < y k) = false := decide_eq_false (by omega)
          go_wp2
          all_goals (try (exfalso; omega))
          go_round
          case rel => exact ⟨k + 1, by omega, by go_num, rfl, all_snoc HALL.out ⟨h1, h2⟩⟩
          case measure => simp [intOf] <;> omega
        · have h3 : 64000000000 < y k := by omega
          have e2 : decide (64000000000 < y k) = true := decide_eq_true h3
          go_wp2
          all_goals (try (exfalso; omega))
          go_ret
          exact ⟨ret_bool (bal_no fun hx => by have := hx.2.1 k hlt; omega), rfl⟩
      · have h3 : y k < -64000000000 := by omega
        go_wp2
        all_goals (try (exfalso; omega))
        go_ret
        exact ⟨ret_bool (bal_no fun hx => by have := hx.2.1 k hlt; omega), rfl⟩
    · obtain rfl : k = n := by omega
      by_cases hk1 : 1 ≤ k
      · have e8 : decide ((k : Int) ≤ 8) = true := decide_eq_true (by omega)
        by_cases h0 : tot y k = 0
        · have e0 : (tot y k == 0) = true := by simpa using h0
          have hr := Lib.hid (balB_iff.2 ⟨⟨hk1, hn⟩, HALL.out, h0⟩)
          clear h0
          go_wp2
          all_goals (try (exfalso; omega))
          go_ret
          exact ⟨ret_bool hr.out.symm, rfl⟩
        · have e0 : (tot y k == 0) = false := by simpa using h0
          have hr := Lib.hid (bal_no (y := y) (n := k) fun hx => h0 hx.2.2)
          clear h0
          go_wp2
          all_goals (try (exfalso; omega))
          go_ret
          exact ⟨ret_bool hr.out, rfl⟩
      · have hr := Lib.hid (bal_no (y := y) (n := k) fun hx => by omega)
        go_wp2
        all_goals (try (exfalso; omega))
        go_ret
        exact ⟨ret_bool hr.out, rfl⟩

theorem no8 {y : Nat → Int} {n : Nat} (h : 8 < n) : balB y n = false := (bal_no (fun hx => by omega)).symm

set_option maxRecDepth 100000 in
set_option maxHeartbeats 2000000 in
theorem rbal_big (A : Option Addr) (n c : Nat) (y : Nat → Int) (w : World) (hn : 8 < n ∧ n ≤ 9223372036854775807) (hR : RZ w A n y) :
    Calls Try.prog 18 #[.slice A n c] w fun e w' => e = .returned (.bool false) ∧ w = w' := by
  have HR := Lib.hid hR
  clear hR
  go_enter Try.func18, Try.ntmps18
  go_wp2
  go_loop [3, 4] (fun s i => ∃ k : Nat, k ≤ n ∧ i = .int .i64 k ∧ ∃ z, s = .int .i64 z) (fun _ i => n - (intOf i).toNat)
  case atStart => exact ⟨0, Nat.zero_le _, rfl, _, rfl⟩
  case round =>
    obtain ⟨k, hk, rfl, z, rfl⟩ := hrel
    by_cases hlt : k < n
    · obtain ⟨b, o, rfl, hb, hc⟩ := HR.out k hlt
      by_cases h1 : -64000000000 ≤ y k
      · by_cases h2 : y k ≤ 64000000000
        · have e2 : decide (64000000000 < y k) = false := decide_eq_false (by omega)
          go_wp2
          all_goals (try (exfalso; omega))
          go_round
          case rel => exact ⟨k + 1, by omega, by go_num, _, rfl⟩
          case measure => simp [intOf] <;> omega
        · have h3 : 64000000000 < y k := by omega
          have e2 : decide (64000000000 < y k) = true := decide_eq_true h3
          go_wp2
          all_goals (try (exfalso; omega))
          go_ret
          exact ⟨rfl, rfl⟩
      · have h3 : y k < -64000000000 := by omega
        go_wp2
        all_goals (try (exfalso; omega))
        go_ret
        exact ⟨rfl, rfl⟩
    · obtain rfl : k = n := by omega
      have e8 : decide ((k : Int) ≤ 8) = false := decide_eq_false (by omega)
      go_wp2
      all_goals (try (exfalso; omega))
      go_ret
      exact ⟨rfl, rfl⟩

theorem rbal_any (A : Option Addr) (n c : Nat) (y : Nat → Int) (w : World) (hn : n ≤ 9223372036854775807) (hR : RZ w A n y) :
    Calls Try.prog 18 #[.slice A n c] w fun e w' => e = .returned (.bool (balB y n)) ∧ w = w' := by
  rcases Nat.lt_or_ge 8 n with h | h
  · rw [no8 h]
    exact rbal_big A n c y w ⟨h, hn⟩ hR
  · exact rbal A n c y w h hR

/-- the state of the reference's Payments -/
def PT (B : Nat) (W : World) (g n c : Nat) (Y : Nat → Int) (v : Value) (t : Nat) (xs : List Value) : Prop :=
  OwnR W g n c Y ∧ W.ownsRow B 44 3 v t xs ∧ B ≤ g
theorem PT.heap {B : Nat} {W W' : World} {g n c : Nat} {Y : Nat → Int} {v : Value} {t : Nat} {xs : List Value} (h : PT B W g n c Y v t xs) (e : W'.heap = W.heap) : PT B W' g n c Y v t xs := by
  obtain ⟨h2, h3, h4⟩ := h
  refine ⟨h2.keep (by rw [e]), ⟨h3.1, ?_⟩, h4⟩
  rw [e]; exact h3.2
theorem PT.ne {B : Nat} {W : World} {g n c : Nat} {Y : Nat → Int} {v : Value} {t : Nat} {xs : List Value} (h : PT B W g n c Y v t xs) : some g ≠ v.ownBlock := by
  obtain ⟨⟨cur, h2, _⟩, h3, h4⟩ := h
  intro e
  rcases h3.2 with ⟨rfl, _⟩ | ⟨g', cap', cur', rfl, _, hgb, _⟩
  · simp [Value.ownBlock] at e
  · have : g = g' := by simpa [Value.ownBlock] using e
    rw [this, hgb] at h2
    simp at h2
theorem PT.moved {B : Nat} {W W' : World} {g n c : Nat} {Y Y' : Nat → Int} {v : Value} {t : Nat} {xs : List Value} (h : PT B W g n c Y v t xs) (hO : OwnR W' g n c Y') (hg : W.grownBy W' (some g)) : PT B W' g n c Y' v t xs := by
  have n3 := h.ne
  obtain ⟨h2, h3, h4⟩ := h
  exact ⟨hO, h3.kept hg (.inr fun e => n3 e.symm), h4⟩
theorem PT.push {B : Nat} {W W' : World} {g n c : Nat} {Y : Nat → Int} {v v' : Value} {t t' : Nat} {xs xs' : List Value} {o : Obj} (h : PT B W g n c Y v t xs) (hg : (W.alloc o).grownBy W' v.ownBlock) (ho : W'.ownsRow B 44 3 v' t' xs') : PT B W' g n c Y v' t' xs' := by
  have n3 := h.ne
  obtain ⟨h2, h3, h4⟩ := h
  have hk : ∀ j, j < W.heap.size → some j ≠ v.ownBlock → W'.heap[j]? = W.heap[j]? := fun j hj hne => (hg.block j (by simp; omega) hne).trans (Below.heap_alloc W o j hj)
  exact ⟨h2.keep (hk _ h2.lt n3), ho, h4⟩
/-- two cells of the row are set: a payment -/
theorem own_two {W : World} {g n c : Nat} {y : Nat → Int} (h : OwnR W g n c y) {u d : Nat} (hu : u < n) (hd : d < n) (hud : u ≠ d) (a : Int) :
    OwnR ((W.setCell ⟨g, u, none⟩ (.int .i64 (y u + a))).setCell ⟨g, d, none⟩ (.int .i64 (y d - a))) g n c (mvd y u d a) ∧ W.grownBy ((W.setCell ⟨g, u, none⟩ (.int .i64 (y u + a))).setCell ⟨g, d, none⟩ (.int .i64 (y d - a))) (some g) := by
  have hdu : d ≠ u := fun e => hud e.symm
  refine ⟨((h.write hu (y u + a)).write hd (y d - a)).congr fun i hi => ?_, rfl, rfl, rfl, by simp [World.setCell], fun j hj hne => ?_⟩
  · unfold mvd
    by_cases e1 : i = d
    · subst e1; simp [hdu]
    · by_cases e2 : i = u
      · subst e2; simp [e1]
      · simp [e1, e2]
  · have e1 : j ≠ g := fun e => hne (by rw [e])
    exact (Below.heap_setCell _ ⟨g, d, none⟩ _ j e1).trans (Below.heap_setCell W ⟨g, u, none⟩ _ j e1)
theorem mnI_one (y : Nat → Int) : mnI y 1 = 0 := by simp [mnI]
theorem mxI_one (y : Nat → Int) : mxI y 1 = 0 := by simp [mxI]

theorem rpay_no (A : Option Addr) (n c : Nat) (y : Nat → Int) (w : World) (hn : n ≤ 9223372036854775807) (hR : RZ w A n y) (hB : balB y n = false) :
    Calls Try.prog 13 #[.slice A n c] w fun e w' => e = .returned (.tuple #[.slice none 0 0, .int .i64 1]) ∧ w = w' := by
  have HR := Lib.hid hR
  have HB := Lib.hid hB
  clear hR hB
  go_enter Try.func13, Try.ntmps13
  go_wp2_with (go_at_call 18; with_reducible refine (rbal_any _ _ _ y w hn HR.out).mono ?_; rintro e w1 ⟨rfl, rfl⟩; rw [HB.out])
  go_ret2
  exact ⟨rfl, rfl⟩

set_option maxRecDepth 100000 in
set_option maxHeartbeats 2000000 in
theorem rpay_any (A : Option Addr) (n c : Nat) (y : Nat → Int) (w : World) (hR : RZ w A n y) (hB : balB y n = true) :
    Calls Try.prog 13 #[.slice A n c] w fun e w' => (∃ T A' c', e = .returned (.tuple #[.slice A' T c', .int .i64 0]) ∧ Paid n y T ∧ am (Yt n y T) n ≤ 0 ∧ RP w' A' T (pym n y) ∧ (T ≤ c' ∧ c' ≤ 9223372036854775807)) ∧ Below w.heap.size w w' := by
  obtain ⟨hn, hy, h0⟩ := balB_iff.1 hB
  have hP0 := Lib.hid (paid_zero hy h0)
  have HR := Lib.hid hR
  have HB := Lib.hid hB
  obtain ⟨b, o, rfl, hb, _⟩ := hR 0 (by omega)
  clear hR hB hy h0
  obtain ⟨i0, hi, hz0, hz1, hz2⟩ := info_parts infoInt
  obtain ⟨j0, hj, hy0, hy1, hy2⟩ := info_parts infoPay
  have HI := Lib.hid hi
  have HZ0 := Lib.hid hz0
  have HZ1 := Lib.hid hz1
  have HZ2 := Lib.hid hz2
  have HJ := Lib.hid hj
  have HY0 := Lib.hid hy0
  have HY1 := Lib.hid hy1
  have HY2 := Lib.hid hy2
  clear hi hz0 hz1 hz2 hj hy0 hy1 hy2
  go_enter Try.func13, Try.ntmps13
  go_wp2_with (first
    | (go_at_call 18; with_reducible refine (rbal_any _ _ _ y w (by omega) HR.out).mono ?_; rintro e w1 ⟨rfl, rfl⟩; rw [HB.out])
    | (at_builtin; refine wpList_append_lies _ rfl (.tmp 15) (.tmp 16) 23 rfl w.heap.size 3 i0 _ 1 8 Try.underlying23 HI.out HZ0.out HZ1.out HZ2.out rfl (by omega) (.slice none 0 0) 0 [] rfl (World.ownsRow_nil _ _ _ _) ⟨b, o, none⟩ n c (nums y n) rfl (by rw [nums_length, Nat.mul_one]) (RZ_news HR.out) (nums_one _ _) (by omega) (by unfold maxLen; omega) (by omega) (Nat.le_refl _) w.heap.size rfl ?_; intro g cap wA hown1 hgrow1 hat1 hlt1; rw [Nat.zero_add, List.nil_append] at hown1))
  have hg1 := hat1.resolve_left (by simp [Value.ownBlock])
  have hO := OwnR.of hown1
  have hcap : n ≤ cap ∧ cap ≤ 9223372036854775807 := by obtain ⟨_, _, h', _⟩ := hO; exact h'
  have hbA : Below w.heap.size w wA := (Below.refl _ _).grown hgrow1 (Nat.le_refl _) (fun g hg => by simp [Value.ownBlock] at hg)
  have hps : PT w.heap.size wA g n cap (Yt n y 0) (.slice none 0 0) 0 (tri (pym n y) 0) := ⟨hO, World.ownsRow_nil _ _ _ _, by omega⟩
  have HPS := Lib.hid hps
  have HBA := Lib.hid hbA
  clear hps hown1 hgrow1 hat1 hg1 hO hlt1 hbA
  go_loopw [6] (fun v wr => ∃ t, t + 1 ≤ n ∧ Paid n y t ∧ PT w.heap.size wr g n cap (Yt n y t) v t (tri (pym n y) t) ∧ Below w.heap.size w wr) (fun v _ => n - lenOf v)
  case atStart => exact ⟨0, hn.1, hP0.out, HPS.out, HBA.out⟩
  case round =>
    obtain ⟨t, htn, hpd, hps, hbw⟩ := hrel
    clear HPS HBA hP0
    have hws := hbw.size
    obtain ⟨A5, c5, hv5, hc5⟩ : ∃ A5 c5, u6 = .slice A5 t c5 ∧ (t ≤ c5 ∧ c5 ≤ 9223372036854775807) := by
      rcases hps.2.1.2 with ⟨h', h''⟩ | ⟨g', cap', cur, h', _, _, h1, h2, _⟩
      · exact ⟨none, 0, by rw [h', h''], by omega⟩
      · exact ⟨_, cap', h', by unfold maxLen at h2; omega⟩
    subst hv5
    have HPD := Lib.hid hpd
    have HPS := Lib.hid hps
    have HBW := Lib.hid hbw
    clear hpd hps hbw
    have ht8 : (t : Int) < 8 := by omega
    go_wp2_with fail
    all_goals (try (exfalso; omega))
    obtain ⟨wf, rfl⟩ : ∃ wf, wf = wr := ⟨_, rfl⟩
    go_loopw [7, 8, 9] (fun a e i w2 => ∃ k d : Nat, (1 ≤ k ∧ k ≤ n) ∧ i = .int .i64 k ∧ a = .int .i64 (mnI (Yt n y t) k : Int) ∧ e = .int .i64 (mxI (Yt n y t) k : Int) ∧ w2 = wf.drewN d) (fun _ _ i _ => n - (intOf i).toNat)
    case atStart => exact ⟨1, 0, ⟨Nat.le_refl _, hn.1⟩, rfl, by rw [mnI_one]; rfl, by rw [mxI_one]; rfl, rfl⟩
    case round =>
      obtain ⟨k, d0, hk, rfl, rfl, rfl, rfl⟩ := hrel
      have l1 := mnI_lt (Yt n y t) hn.1 k hk.2
      have l2 := mxI_lt (Yt n y t) hn.1 k hk.2
      obtain ⟨f1, g1⟩ := HPS.out.1.at l1
      obtain ⟨f2, g2⟩ := HPS.out.1.at l2
      have c1 : (wf.drewN d0).cell? ⟨g, mnI (Yt n y t) k, none⟩ = some (.int .i64 (Yt n y t (mnI (Yt n y t) k))) := f1
      have c2 : (wf.drewN d0).cell? ⟨g, mxI (Yt n y t) k, none⟩ = some (.int .i64 (Yt n y t (mxI (Yt n y t) k))) := f2
      have z1 : (wf.drewN d0).frozen? ⟨g, mnI (Yt n y t) k, none⟩ = false := g1
      have z2 : (wf.drewN d0).frozen? ⟨g, mxI (Yt n y t) k, none⟩ = false := g2
      by_cases hlt : k < n
      · obtain ⟨f3, _⟩ := HPS.out.1.at hlt
        have c3 : (wf.drewN d0).cell? ⟨g, k, none⟩ = some (.int .i64 (Yt n y t k)) := f3
        have HS1 : Hid (mnI (Yt n y t) (k + 1) = if Yt n y t k < Yt n y t (mnI (Yt n y t) k) then k else mnI (Yt n y t) k) := Lib.hid rfl
        have HS2 : Hid (mxI (Yt n y t) (k + 1) = if Yt n y t (mxI (Yt n y t) k) < Yt n y t k then k else mxI (Yt n y t) k) := Lib.hid rfl
        generalize mnI (Yt n y t) k = am0 at l1 c1 HS1 ⊢
        generalize mxI (Yt n y t) k = ax0 at l2 c2 HS2 ⊢
        obtain ⟨wx, hwx⟩ : ∃ wx, wf.drewN d0 = wx := ⟨_, rfl⟩
        rw [hwx] at c1 c2 c3 ⊢
        have HW := Lib.hid hwx
        clear hwx f1 f2 f3 g1 g2 z1 z2
        have i1 : (0 : Int) ≤ (k : Int) := by omega
        have i2 : (k : Int) < (n : Int) := by omega
        have i3 : (0 : Int) ≤ (am0 : Int) := by omega
        have i4 : (am0 : Int) < (n : Int) := by omega
        have i5 : (0 : Int) ≤ (ax0 : Int) := by omega
        have i6 : (ax0 : Int) < (n : Int) := by omega
        by_cases t1 : Yt n y t k < Yt n y t am0
        · have HT1 := Lib.hid t1
          have e1 : decide (Yt n y t k < Yt n y t am0) = true := decide_eq_true t1
          by_cases t2 : Yt n y t ax0 < Yt n y t k
          · have HT2 := Lib.hid t2
            have e2 : decide (Yt n y t ax0 < Yt n y t k) = true := decide_eq_true t2
            clear t1 t2
            go_wp2_with fail
            go_quiet (fail)
            go_wp2_with fail
            go_quiet (fail)
            go_wp2_with fail
            go_roundw
            case rel => exact ⟨k + 1, _, by omega, by go_num, by rw [HS1.out, if_pos HT1.out], by rw [HS2.out, if_pos HT2.out], by rw [← HW.out, World.drewN_drewN]⟩
            case measure => simp [intOf] <;> omega
          · have HT2 := Lib.hid t2
            have e2 : decide (Yt n y t ax0 < Yt n y t k) = false := decide_eq_false t2
            clear t1 t2
            go_wp2_with fail
            go_quiet (fail)
            go_wp2_with fail
            go_quiet (fail)
            go_wp2_with fail
            go_roundw
            case rel => exact ⟨k + 1, _, by omega, by go_num, by rw [HS1.out, if_pos HT1.out], by rw [HS2.out, if_neg (by have := HT2.out; omega)], by rw [← HW.out, World.drewN_drewN]⟩
            case measure => simp [intOf] <;> omega
        · have HT1 := Lib.hid t1
          have e1 : decide (Yt n y t k < Yt n y t am0) = false := decide_eq_false t1
          by_cases t2 : Yt n y t ax0 < Yt n y t k
          · have HT2 := Lib.hid t2
            have e2 : decide (Yt n y t ax0 < Yt n y t k) = true := decide_eq_true t2
            clear t1 t2
            go_wp2_with fail
            go_quiet (fail)
            go_wp2_with fail
            go_quiet (fail)
            go_wp2_with fail
            go_roundw
            case rel => exact ⟨k + 1, _, by omega, by go_num, by rw [HS1.out, if_neg (by have := HT1.out; omega)], by rw [HS2.out, if_pos HT2.out], by rw [← HW.out, World.drewN_drewN]⟩
            case measure => simp [intOf] <;> omega
          · have HT2 := Lib.hid t2
            have e2 : decide (Yt n y t ax0 < Yt n y t k) = false := decide_eq_false t2
            clear t1 t2
            go_wp2_with fail
            go_quiet (fail)
            go_wp2_with fail
            go_quiet (fail)
            go_wp2_with fail
            go_roundw
            case rel => exact ⟨k + 1, _, by omega, by go_num, by rw [HS1.out, if_neg (by have := HT1.out; omega)], by rw [HS2.out, if_neg (by have := HT2.out; omega)], by rw [← HW.out, World.drewN_drewN]⟩
            case measure => simp [intOf] <;> omega
      · obtain rfl : k = n := by omega
        have hpd := HPD.out
        have hmx := mx_zero hn.1 hpd.2.2.2
        have b1 := hpd.2.2.1 _ l1
        have b2 := hpd.2.2.1 _ l2
        have hps1 := HPS.out.heap (W' := wf.drewN d0) rfl
        have hbw1 : Below w.heap.size w (wf.drewN d0) := below_drewN HBW.out _
        have HPS1 := Lib.hid hps1
        have HBW1 := Lib.hid hbw1
        obtain ⟨wx, hwx⟩ : ∃ wx, wf.drewN d0 = wx := ⟨_, rfl⟩
        rw [hwx] at c1 c2 z1 z2 HPS1 HBW1 ⊢
        clear hwx f1 f2 g1 g2 hps1 hbw1 HPS HBW hpd
        have i3 : (0 : Int) ≤ (mnI (Yt k y t) k : Int) := by omega
        have i4 : (mnI (Yt k y t) k : Int) < (k : Int) := by omega
        have i5 : (0 : Int) ≤ (mxI (Yt k y t) k : Int) := by omega
        have i6 : (mxI (Yt k y t) k : Int) < (k : Int) := by omega
        by_cases ha : am (Yt k y t) k ≤ 0
        · have HA0 := Lib.hid ha
          have e0 : (Yt k y t (mxI (Yt k y t) k) == 0) = true := by simpa using hmx.1.1 ha
          clear ha hmx
          go_wp2_with fail
          go_ret2
          exact ⟨⟨t, A5, c5, rfl, HPD.out, HA0.out, RP_own HPS1.out.2.1, hc5⟩, HBW1.out⟩
        · have ha' : 0 < am (Yt k y t) k := by omega
          have e0 : (Yt k y t (mxI (Yt k y t) k) == 0) = false := by
            have : ¬ Yt k y t (mxI (Yt k y t) k) = 0 := fun e => ha (hmx.1.2 e)
            simpa using this
          have HF := am_facts hn.1 ha'
          have hroom := HPD.out.room hn.1 ha'
          have HPN := Lib.hid (HPD.out.next hn.1 ha')
          have hud : mnI (Yt k y t) k ≠ mxI (Yt k y t) k := HF.2.2.2.2.2.2.2
          have hab : am (Yt k y t) k ≤ 64000000000 := by omega
          have HTWO := Lib.hid (own_two HPS1.out.1 l1 l2 hud (am (Yt k y t) k))
          have e2 : (⟨g, mnI (Yt k y t) k, none⟩ : Addr) ≠ ⟨g, mxI (Yt k y t) k, none⟩ := fun e => hud (by injection e)
          have cd2 : (wx.setCell ⟨g, mnI (Yt k y t) k, none⟩ (.int .i64 (Yt k y t (mnI (Yt k y t) k) + am (Yt k y t) k))).cell? ⟨g, mxI (Yt k y t) k, none⟩ = some (.int .i64 (Yt k y t (mxI (Yt k y t) k))) := by rw [World.cell?_setCell_other _ _ _ _ e2]; exact c2
          have HPM : Hid (tri (pym k y) t ++ [.int .i64 (mnI (Yt k y t) k : Int), .int .i64 (mxI (Yt k y t) k : Int), .int .i64 (am (Yt k y t) k)] = tri (pym k y) (t + 1)) := Lib.hid rfl
          have hamd : am (Yt k y t) k = min (-(Yt k y t (mnI (Yt k y t) k))) (Yt k y t (mxI (Yt k y t) k)) := rfl
          have HSTP : Hid (mvd (Yt k y t) (mnI (Yt k y t) k) (mxI (Yt k y t) k) (am (Yt k y t) k) = Yt k y (t + 1)) := Lib.hid rfl
          clear ha hmx
          obtain ⟨wE, hwE⟩ : ∃ wE, wE = (wx.setCell ⟨g, mnI (Yt k y t) k, none⟩ (.int .i64 (Yt k y t (mnI (Yt k y t) k) + am (Yt k y t) k))).setCell ⟨g, mxI (Yt k y t) k, none⟩ (.int .i64 (Yt k y t (mxI (Yt k y t) k) - am (Yt k y t) k)) := ⟨_, rfl⟩
          rw [← hwE] at HTWO
          have hpsE := HPS1.out.moved (HSTP.out ▸ HTWO.out.1) HTWO.out.2
          have hbE : Below w.heap.size w wE := HBW1.out.grown HTWO.out.2 HBW1.out.size (fun g' hg' => by cases hg'; exact HPS1.out.2.2)
          have HPSE := Lib.hid hpsE
          have HBE := Lib.hid hbE
          have HWE := Lib.hid hwE
          have HSZ : Hid (wE.heap.size = wx.heap.size) := Lib.hid (by rw [hwE]; simp [World.setCell])
          have hEs := hbE.size
          clear hpsE hbE hwE HTWO HSTP
          by_cases t1 : -(Yt k y t (mnI (Yt k y t) k)) < Yt k y t (mxI (Yt k y t) k)
          · have e1 : decide (-(Yt k y t (mnI (Yt k y t) k)) < Yt k y t (mxI (Yt k y t) k)) = true := decide_eq_true t1
            have HAE : Hid (-(Yt k y t (mnI (Yt k y t) k)) = am (Yt k y t) k) := Lib.hid (by omega)
            clear t1 hamd
            go_upto_region 22 with (fail)
            rw [HAE.out]
            clear HAE e1
            generalize mnI (Yt k y t) k = iu at *
            generalize mxI (Yt k y t) k = id at *
            generalize am (Yt k y t) k = amt at *
            go_wp2_with (at_builtin; rw [← HWE.out, ← HSZ.out]; refine wpList_append_lies _ rfl (.tmp 87) (.tmp 92) 29 rfl w.heap.size 44 j0 _ 3 24 Try.underlying29 HJ.out HY0.out HY1.out HY2.out rfl (by omega) (.slice A5 t c5) t _ rfl (HPSE.out.2.1.alloc _) ⟨wE.heap.size, 0, none⟩ 1 1 [.int .i64 (iu : Int), .int .i64 (id : Int), .int .i64 amt] rfl rfl (World.news_of_block (heap_alloc_new wE _)) (by simp [Value.oneCell']) (by omega) (by unfold maxLen; omega) (by omega) (by simp; omega) (wE.heap.size + 1) (by simp) ?_; intro g1 cap1 wB hown1 hgrow1 hat1 hlt1; rw [HPM.out] at hown1)
            have hps2 := HPSE.out.push hgrow1 hown1
            have hbB : Below w.heap.size w wB := (bel_alloc HBE.out _).grown hgrow1 (bel_alloc HBE.out _).size (own_ge HPSE.out.2.1)
            go_roundw
            case rel => exact ⟨t + 1, by omega, HPN.out, hps2, hbB⟩
            case measure => simp [lenOf] <;> omega
          · have e1 : decide (-(Yt k y t (mnI (Yt k y t) k)) < Yt k y t (mxI (Yt k y t) k)) = false := decide_eq_false t1
            have HAE : Hid (Yt k y t (mxI (Yt k y t) k) = am (Yt k y t) k) := Lib.hid (by omega)
            clear t1 hamd
            go_upto_region 22 with (fail)
            rw [HAE.out]
            clear HAE e1
            generalize mnI (Yt k y t) k = iu at *
            generalize mxI (Yt k y t) k = id at *
            generalize am (Yt k y t) k = amt at *
            go_wp2_with (at_builtin; rw [← HWE.out, ← HSZ.out]; refine wpList_append_lies _ rfl (.tmp 87) (.tmp 92) 29 rfl w.heap.size 44 j0 _ 3 24 Try.underlying29 HJ.out HY0.out HY1.out HY2.out rfl (by omega) (.slice A5 t c5) t _ rfl (HPSE.out.2.1.alloc _) ⟨wE.heap.size, 0, none⟩ 1 1 [.int .i64 (iu : Int), .int .i64 (id : Int), .int .i64 amt] rfl rfl (World.news_of_block (heap_alloc_new wE _)) (by simp [Value.oneCell']) (by omega) (by unfold maxLen; omega) (by omega) (by simp; omega) (wE.heap.size + 1) (by simp) ?_; intro g1 cap1 wB hown1 hgrow1 hat1 hlt1; rw [HPM.out] at hown1)
            have hps2 := HPSE.out.push hgrow1 hown1
            have hbB : Below w.heap.size w wB := (bel_alloc HBE.out _).grown hgrow1 (bel_alloc HBE.out _).size (own_ge HPSE.out.2.1)
            go_roundw
            case rel => exact ⟨t + 1, by omega, HPN.out, hps2, hbB⟩
            case measure => simp [lenOf] <;> omega
end Go.Proofs.Ytflehgdhdfmacaa
