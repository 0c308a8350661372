/-
  THE LAW ShareConstant, walked.
-/
import Derived.Test.YteeohndgkfilaaaTotal
import Derived.Test.YteeohndgkfilaaaMoves
namespace Go.Proofs.Yteeohndgkfilaaa
open Go.RowKit
set_option linter.unusedVariables false
attribute [local go_sem ↓] Go.wp_at_zero Go.wp_at_succ

/-- from here on only quiet operations, in the order of the text -/
theorem wpAny_switch {P : Program} {md : Region.Mode} {L : List Oper} (k : Nat) {fuel : Nat} {listed : Array Bool} {a : Act} {w : World} {Q' : Exit → Act → World → Prop} (C : World → Prop) (hs : Region.noSelect L.toArray = true) (hf : (L.drop k).length = fuel)
    (hB : Region.lexFrom md L.toArray fuel k listed = true) (hC : C w) (h : wpQuiet P L.toArray C (fun a' => ∀ w', C w' → Q' .normal a' w') (L.drop k) a) : wpAny P md L.toArray Q' fuel listed a w := by
  subst hf
  exact wpAny_of_quiet (Q := fun a' => ∀ w', C w' → Q' .normal a' w') (fun _ w' hw' h => h w' hw') _ _ _ _ hC (wpAnyQ_lex hs (L.drop k) k listed a (by simp) hB h)
theorem PG.keep {W W' : World} {p : Nat} {T : Int} {N : Nat} (h : PG W p T N) (hb : Below W.heap.size W W') : PG W' p T N := by
  obtain ⟨h0, nx0, A0, n0, B0, m0, h1, nx1, A1, n1, B1, m1, s0, s1, k0, k1, O0, I0, Z0, K0, O1, I1, Z1, K1, hp, hg⟩ := h
  exact ⟨h0, nx0, A0, n0, B0, m0, h1, nx1, A1, n1, B1, m1, s0, s1, k0, k1, O0, I0, Z0, K0, O1, I1, Z1, K1, hp.keep hb, hg⟩
theorem Good.have_le {T : Int} {N : Nat} {h0 nx0 : Int} {O0 : List (Int × Int)} {I0 : List Int} {Z0 : List (Int × Int)} {K0 : List Int} {h1 nx1 : Int} {O1 : List (Int × Int)} {I1 : List Int} {Z1 : List (Int × Int)} {K1 : List Int} (h : Good T N h0 nx0 O0 I0 Z0 K0 h1 nx1 O1 I1 Z1 K1) : h0 + h1 ≤ T := by
  have h1 := h.2.2.1.nonneg
  have h2 := h.2.2.2.1.nonneg
  have h3 := h.2.2.2.2.1
  omega
set_option maxRecDepth 100000 in
set_option maxHeartbeats 2000000 in
theorem const_many (a b x y : Int) (A : Option Addr) (n c : Nat) (w : World) (ha : 0 ≤ a ∧ a ≤ 65535) (hb : 0 ≤ b ∧ b ≤ 65535) (hx0 : a % 1001 = x) (hy0 : b % (1001 - x) = y) (hn : n ≤ 9223372036854775807) (hbig : 300 < n) :
    Calls Try.prog 4 #[.int .u16 a, .int .u16 b, .slice A n c] w fun e w' => e = .returned (.bool true) ∧ Below w.heap.size w w' := by
  subst hx0 hy0
  obtain ⟨x, ex⟩ : ∃ x, a % 1001 = x := ⟨_, rfl⟩
  obtain ⟨y, ey⟩ : ∃ y, b % (1001 - x) = y := ⟨_, rfl⟩
  have t1' : a % 1001 = x := ex
  have hx : 0 ≤ x ∧ x ≤ 1000 := by omega
  have t1 : a.tmod 1001 = x := by rw [Int.tmod_eq_emod_of_nonneg ha.1]; exact t1'
  have t2' : b % (1001 - x) = y := ey
  have hy : 0 ≤ y ∧ y ≤ 1000 - x := by
    have h1 := Int.emod_nonneg b (show (1001 - x) ≠ 0 by omega)
    have h2 := Int.emod_lt_of_pos b (show (0 : Int) < 1001 - x by omega)
    omega
  have t2 : b.tmod (1001 - x) = y := by rw [Int.tmod_eq_emod_of_nonneg hb.1]; exact t2'
  have nz : ¬ (1001 - x) = 0 := by omega
  have e300 : decide ((300 : Int) < (n : Int)) = true := decide_eq_true (by omega)
  clear ex ey
  go_enter Try.func4, Try.ntmps4
  go_wp2_with (first
    | (go_at_call 9; with_reducible refine (head_any _).mono ?_; rintro e w1 ⟨rfl, g1⟩))
  all_goals (try (exfalso; omega))
  go_ret
  exact ⟨rfl, g1⟩
set_option maxRecDepth 100000 in
set_option maxHeartbeats 8000000 in
theorem const_ok (a b x y : Int) (A : Option Addr) (n c : Nat) (l : List (Int × Bool × Int)) (w : World) (ha : 0 ≤ a ∧ a ≤ 65535) (hb : 0 ≤ b ∧ b ≤ 65535) (ex : a % 1001 = x) (ey : b % (1001 - x) = y) (hn : n ≤ 300) (hl : l.length = n) (hR : RL w A (cM l)) (hall : ∀ q ∈ l, (0 ≤ q.1 ∧ q.1 ≤ 255) ∧ (0 ≤ q.2.2 ∧ q.2.2 ≤ 255)) :
    Calls Try.prog 4 #[.int .u16 a, .int .u16 b, .slice A n c] w fun e w' => e = .returned (.bool true) ∧ Below w.heap.size w w' := by
  have HR := Lib.hid hR
  have HL := Lib.hid hl
  have HA := Lib.hid hall
  clear hR hl hall
  have t1' : a % 1001 = x := ex
  have hx : 0 ≤ x ∧ x ≤ 1000 := by omega
  have t1 : a.tmod 1001 = x := by rw [Int.tmod_eq_emod_of_nonneg ha.1]; exact t1'
  have t2' : b % (1001 - x) = y := ey
  have hy : 0 ≤ y ∧ y ≤ 1000 - x := by
    have h1 := Int.emod_nonneg b (show (1001 - x) ≠ 0 by omega)
    have h2 := Int.emod_lt_of_pos b (show (0 : Int) < 1001 - x by omega)
    omega
  have t2 : b.tmod (1001 - x) = y := by rw [Int.tmod_eq_emod_of_nonneg hb.1]; exact t2'
  have nz : ¬ (1001 - x) = 0 := by omega
  clear ex ey
  go_enter Try.func4, Try.ntmps4
  go_upto_region 7 with (first
    | (go_at_call 9; with_reducible refine (head_any _).mono ?_; rintro e w1 ⟨rfl, g1⟩
       have H1 := Lib.hid g1)
    | (go_at_call 20; with_reducible refine (start_any x y _ hx.1 hy.1 (by omega)).mono ?_; rintro e w2 ⟨rfl, pg2, g2⟩))
  all_goals (try (exfalso; omega))
  have HPG2 := Lib.hid pg2
  have HB2 := Lib.hid (bel_step H1.out g2)
  have hpw := H1.out.size
  clear pg2 g2 g1
  obtain ⟨p, ep⟩ : ∃ p, w1.heap.size = p := ⟨_, rfl⟩
  rw [ep] at HPG2 hpw ⊢
  clear ep
  clear t1 t1' t2 t2' nz
  go_wp2_with fail
  go_loopw [34] (fun i wr => ∃ k : Nat, k ≤ n ∧ i = .int .i64 k ∧ PG wr p (x + y) k ∧ Below w.heap.size w wr) (fun i _ => n - (intOf i).toNat)
  case atStart => exact ⟨0, Nat.zero_le _, rfl, HPG2.out, HB2.out⟩
  case round =>
    obtain ⟨k, hk, rfl, hpg, hbw⟩ := hrel
    have HPG := Lib.hid hpg
    have HBW := Lib.hid hbw
    clear hpg hbw
    by_cases hlt : k < n
    · obtain ⟨bb, oo, rfl, hbb, x0, x1, x2⟩ := (HR.out.keep HBW.out).m (i := k) (by have := HL.out; omega)
      have hmv := HA.out _ (at3_mem (l := l) (i := k) (by have := HL.out; omega))
      have j0 : (0 : Int) ≤ (k : Int) := by omega
      have j1 : (k : Int) < (n : Int) := by omega
      generalize (at3 l k).1 = d at *
      generalize (at3 l k).2.1 = who at *
      generalize (at3 l k).2.2 = pk at *
      have HMV := Lib.hid hmv
      clear hmv
      go_upto_region 10 with (fail)
      have HN1 := Lib.hid (OW.new wr 43 [.int .u8 d, .bool who, .int .u8 pk])
      have HPG3 := Lib.hid ((HPG.out.keep (bel_a wr (.cells #[.int .u8 d, .bool who, .int .u8 pk] 43))))
      have HB3 := Lib.hid (bel_alloc HBW.out (.cells #[.int .u8 d, .bool who, .int .u8 pk] 43))
      obtain ⟨wx, ewx⟩ : ∃ wx, wr.alloc (.cells #[.int .u8 d, .bool who, .int .u8 pk] 43) = wx := ⟨_, rfl⟩
      rw [ewx] at HN1 HPG3 HB3 ⊢
      clear ewx
      obtain ⟨bx, eB⟩ : ∃ b, wr.heap.size = b := ⟨_, rfl⟩
      rw [eB] at HN1 ⊢
      clear eB x0 x1 x2
      obtain ⟨x0, x1, x2⟩ := cell3 HN1.out
      have HPGd : Hid (PG wx.drew p (x + y) k) := Lib.hid HPG3.out
      refine wp_region_any (by kernel_rfl) ?_
      (try (change wpAny _ _ _ _ _ _ _ (World.drew _)))
      refine wpAny_take (i := 0) (v := .pointer (some ⟨p, 0, none⟩)) rfl (by kernel_rfl) (by kernel_rfl) (by kernel_rfl) (fun _ _ _ h => h) (Or.inl ⟨by rfl, ?_⟩) ?_
      · intro w; go_simp
      refine wpAny_ready (rs := [1]) (by kernel_rfl) (by simp) ?_
      refine AllReady.cons rfl (fun K hK => ?_) AllReady.nil
      go_simp
      refine hK _ _ ?_
      clear hK K
      refine wpAny_ready (rs := [2]) (by kernel_rfl) (by simp) ?_
      refine AllReady.cons rfl (fun K hK => ?_) AllReady.nil
      go_simp
      go_at_call 21
      with_reducible refine (apply_any p (x + y) k d pk who _ HMV.out.2 HMV.out.1 (by omega) HPGd.out).mono ?_
      rintro e w4 ⟨rfl, pg4, g4⟩
      go_simp
      refine hK _ _ ?_
      clear hK K
      have HPG4 := Lib.hid pg4
      have HB4 := Lib.hid (Below.trans (Below.drew HB3.out) (g4.mono hpw))
      clear pg4 g4 x0 x1 x2
      obtain ⟨h0, nx0, A0, n0, B0, m0, h1, nx1, A1, n1, B1, m1, s0, s1, k0, k1, O0, I0, Z0, K0, O1, I1, Z1, K1, hp4, hg4⟩ := HPG4.out
      have HP := Lib.hid hp4
      have C1 : Hid (∀ W : World, Below w4.heap.size w4 W → Calls Try.prog 22 #[.pointer (some ⟨p, 0, none⟩)] W fun e w2 => e = .returned (.int .i64 (x + y)) ∧ Below w4.heap.size w4 w2) := Lib.hid fun W hW => (total_any p (x + y) (k + 1) W (HPG4.out.keep hW)).mono fun e w2 hh => ⟨hh.1, bel_step hW hh.2⟩
      have C2 : Hid (∀ W : World, Below w4.heap.size w4 W → Calls Try.prog 18 #[.agg #[.int .i64 h0, .int .i64 nx0, .slice A0 n0 n0, .slice B0 m0 m0]] W fun e w2 => e = .returned (.bool true) ∧ Below w4.heap.size w4 w2) := Lib.hid fun W hW => (val_sv _ h0 nx0 O0 I0 W (HP.out.2.1.sv.keep hW) true (vB_iff.2 hg4.1)).mono fun e w2 hh => ⟨hh.1, bel_step hW hh.2⟩
      have C3 : Hid (∀ W : World, Below w4.heap.size w4 W → Calls Try.prog 18 #[.agg #[.int .i64 h1, .int .i64 nx1, .slice A1 n1 n1, .slice B1 m1 m1]] W fun e w2 => e = .returned (.bool true) ∧ Below w4.heap.size w4 w2) := Lib.hid fun W hW => (val_sv _ h1 nx1 O1 I1 W (HP.out.2.2.1.sv.keep hW) true (vB_iff.2 hg4.2.1)).mono fun e w2 hh => ⟨hh.1, bel_step hW hh.2⟩
      have hle := hg4.have_le
      have b0 := (vS_iff.1 hg4.1).1.1
      have b1 := (vS_iff.1 hg4.2.1).1.1
      have elt : decide (x + y < h0 + h1) = false := decide_eq_false (by omega)
      have wx1 : IntKind.i64.wrap (x + y) = x + y := IntWalk.i64_in _ (by omega)
      have wx2 : IntKind.i64.wrap (h0 + h1) = h0 + h1 := IntWalk.i64_in _ (by omega)
      clear hp4 hg4
      refine wpAny_switch 3 (fun w9 => Below w4.heap.size w4 w9) (by kernel_rfl) (by kernel_rfl) (by kernel_rfl) (Below.refl _ _) ?_
      change wpQuiet _ _ _ _ (_ :: _) _
      repeat (first
        | go_big_quiet_skip
        | (go_big_quiet_want; first
          | (go_big_quiet_op; go_big_quiet_on)
          | (refine quiet_of_run (.int .i64 h0) ?_ ?_; (focus (intro w9 h9; obtain ⟨k0', k1', k2', k3', k4', k5', k6', k7', _⟩ := cell12 (HP.out.1.keep h9); go_simp; done)); go_simp; go_big_quiet_on)
          | (refine quiet_of_run (.int .i64 h1) ?_ ?_; (focus (intro w9 h9; obtain ⟨k0', k1', k2', k3', k4', k5', k6', k7', _⟩ := cell12 (HP.out.1.keep h9); go_simp; done)); go_simp; go_big_quiet_on)
          | (refine quiet_of_run (.agg #[.int .i64 h0, .int .i64 nx0, .slice A0 n0 n0, .slice B0 m0 m0]) ?_ ?_; (focus (intro w9 h9; obtain ⟨k0', k1', k2', k3', k4', k5', k6', k7', _⟩ := cell12 (HP.out.1.keep h9); go_simp; done)); go_simp; go_big_quiet_on)
          | (refine quiet_of_run (.agg #[.int .i64 h1, .int .i64 nx1, .slice A1 n1 n1, .slice B1 m1 m1]) ?_ ?_; (focus (intro w9 h9; obtain ⟨k0', k1', k2', k3', k4', k5', k6', k7', _⟩ := cell12 (HP.out.1.keep h9); go_simp; done)); go_simp; go_big_quiet_on)
          | (refine quiet_of_run (.bool false) ?_ ?_; (focus (intro w9 h9; go_simp; done)); go_simp; go_big_quiet_on)
          | (refine quiet_of_run (.bool true) ?_ ?_; (focus (intro w9 h9; go_simp; done)); go_simp; go_big_quiet_on)
          | (refine quiet_of_run (.pointer (some ⟨p, 0, none⟩)) ?_ ?_; (focus (intro w9 h9; go_simp; done)); go_simp; go_big_quiet_on)
          | (refine quiet_of_run (.pointer (some ⟨p, 4, none⟩)) ?_ ?_; (focus (intro w9 h9; go_simp; done)); go_simp; go_big_quiet_on)
          | (refine quiet_of_run (.int .i64 (x + y)) ?_ ?_; (focus (intro w9 h9; go_simp; done)); go_simp; go_big_quiet_on)
          | (refine quiet_of_run (.int .i64 (h0 + h1)) ?_ ?_; (focus (intro w9 h9; go_simp; done)); go_simp; go_big_quiet_on)
          | (refine quiet_of_call 22 #[.pointer (some ⟨p, 0, none⟩)] _ ?_ C1.out ?_; (focus (intro w9 h9; go_simp; done)); go_simp; go_big_quiet_on)
          | (refine quiet_of_call 18 #[.agg #[.int .i64 h0, .int .i64 nx0, .slice A0 n0 n0, .slice B0 m0 m0]] _ ?_ C2.out ?_; (focus (intro w9 h9; go_simp; done)); go_simp; go_big_quiet_on)
          | (refine quiet_of_call 18 #[.agg #[.int .i64 h1, .int .i64 nx1, .slice A1 n1 n1, .slice B1 m1 m1]] _ ?_ C3.out ?_; (focus (intro w9 h9; go_simp; done)); go_simp; go_big_quiet_on)))
      refine wpQuiet_nil ?_
      intro w9 hbx
      have HBX9 := Lib.hid hbx
      clear hbx
      go_wp2_with fail
      go_roundw
      case rel => exact ⟨k + 1, by omega, by go_num, HPG4.out.keep HBX9.out, bel_step HB4.out HBX9.out⟩
      case measure => simp [intOf] <;> omega
    · obtain rfl : k = n := by omega
      obtain ⟨h0, nx0, A0, n0, B0, m0, h1, nx1, A1, n1, B1, m1, s0, s1, k0, k1, O0, I0, Z0, K0, O1, I1, Z1, K1, hp4, hg4⟩ := HPG.out
      have HP := Lib.hid hp4
      have HG := Lib.hid hg4
      have hlen := hg4.2.2.2.2.2
      clear hp4 hg4
      obtain ⟨W1, eW⟩ : ∃ W, wr = W := ⟨_, rfl⟩
      rw [eW] at HP HBW HPG ⊢
      clear eW
      go_wp2_with fail
      go_loopw [88] (fun i wr => ∃ kk : Nat, kk ≤ 2 ∧ i = .int .i64 kk ∧ Below W1.heap.size W1 wr) (fun i _ => 2 - (intOf i).toNat)
      case atStart => exact ⟨0, by omega, rfl, Below.refl _ _⟩
      case round =>
        obtain ⟨i, hi, rfl, hbw⟩ := hrel
        have HBW0 := Lib.hid HBW.out
        clear HBW
        have HBW := Lib.hid hbw
        clear hbw
        obtain rfl | rfl | rfl : i = 0 ∨ i = 1 ∨ i = 2 := by omega
        · skip
          have cS : wr.cell? ⟨p, 8, none⟩ = some s0 := (HP.out.1.keep HBW.out).at rfl
          obtain ⟨As, cs, es, hcs, hns⟩ := own_form HP.out.2.2.2.1
          obtain ⟨z, hz⟩ : ∃ z, Z0.length = z := ⟨_, rfl⟩
          rw [hz] at es hcs hns
          subst es
          have HZ := Lib.hid hz
          clear hz
          have hlp := (HP.out.1.keep HBW.out).lt
          go_wp2_with fail
          clear cS
          go_loopw [98] (fun t w2 => ∃ kk : Nat, kk ≤ z ∧ t = .int .i64 kk ∧ Below W1.heap.size W1 w2) (fun t _ => z - (intOf t).toNat)
          case atStart => exact ⟨0, Nat.zero_le _, rfl, HBW.out⟩
          case round =>
            obtain ⟨kk, hkk, rfl, hb2⟩ := hrel
            have HB2 := Lib.hid hb2
            clear hb2
            by_cases hlt : kk < z
            · obtain ⟨bb, oo, rfl, hbb, x0, x1⟩ := ((own_rl HP.out.2.2.2.1).keep HB2.out).t (i := kk) (by have := HZ.out; omega)
              have j0 : (0 : Int) ≤ (kk : Int) := by omega
              have j1 : (kk : Int) < (z : Int) := by omega
              have hnum : (at2 Z0 kk).1 = (kk : Int) + 1 := (HG.out.2.2.1.2.1 kk _ (at2_get (by have := HZ.out; omega))).1
              rw [hnum] at x0
              clear hnum
              have HB3 := Lib.hid (fun o => bel_alloc HB2.out o)
              go_wp2_with fail
              go_roundw
              case rel => exact ⟨kk + 1, by omega, by go_num, HB3.out _⟩
              case measure => simp [intOf] <;> omega
            · obtain rfl : kk = z := by omega
              go_wp2_with fail
              go_roundw
              case rel => exact ⟨1, by omega, by go_num, HB2.out⟩
              case measure => simp [intOf]
        · skip
          have cS : wr.cell? ⟨p, 9, none⟩ = some s1 := (HP.out.1.keep HBW.out).at rfl
          obtain ⟨As, cs, es, hcs, hns⟩ := own_form HP.out.2.2.2.2.1
          obtain ⟨z, hz⟩ : ∃ z, Z1.length = z := ⟨_, rfl⟩
          rw [hz] at es hcs hns
          subst es
          have HZ := Lib.hid hz
          clear hz
          have hlp := (HP.out.1.keep HBW.out).lt
          go_wp2_with fail
          clear cS
          go_loopw [98] (fun t w2 => ∃ kk : Nat, kk ≤ z ∧ t = .int .i64 kk ∧ Below W1.heap.size W1 w2) (fun t _ => z - (intOf t).toNat)
          case atStart => exact ⟨0, Nat.zero_le _, rfl, HBW.out⟩
          case round =>
            obtain ⟨kk, hkk, rfl, hb2⟩ := hrel
            have HB2 := Lib.hid hb2
            clear hb2
            by_cases hlt : kk < z
            · obtain ⟨bb, oo, rfl, hbb, x0, x1⟩ := ((own_rl HP.out.2.2.2.2.1).keep HB2.out).t (i := kk) (by have := HZ.out; omega)
              have j0 : (0 : Int) ≤ (kk : Int) := by omega
              have j1 : (kk : Int) < (z : Int) := by omega
              have hnum : (at2 Z1 kk).1 = (kk : Int) + 1 := (HG.out.2.2.2.1.2.1 kk _ (at2_get (by have := HZ.out; omega))).1
              rw [hnum] at x0
              clear hnum
              have HB3 := Lib.hid (fun o => bel_alloc HB2.out o)
              go_wp2_with fail
              go_roundw
              case rel => exact ⟨kk + 1, by omega, by go_num, HB3.out _⟩
              case measure => simp [intOf] <;> omega
            · obtain rfl : kk = z := by omega
              go_wp2_with fail
              go_roundw
              case rel => exact ⟨2, by omega, by go_num, HB2.out⟩
              case measure => simp [intOf]
        · go_wp2_with fail
          go_ret
          exact ⟨rfl, bel_step HBW0.out HBW.out⟩

theorem const_all (a b : Int) (A : Option Addr) (n c : Nat) (l : List (Int × Bool × Int)) (w : World) (ha : 0 ≤ a ∧ a ≤ 65535) (hb : 0 ≤ b ∧ b ≤ 65535) (hl : l.length = n) (hc : n ≤ c ∧ c ≤ 9223372036854775807) (hR : RL w A (cM l)) (hall : ∀ q ∈ l, (0 ≤ q.1 ∧ q.1 ≤ 255) ∧ (0 ≤ q.2.2 ∧ q.2.2 ≤ 255)) :
    Calls Try.prog 4 #[.int .u16 a, .int .u16 b, .slice A n c] w fun e w' => e = .returned (.bool true) ∧ Below w.heap.size w w' := by
  by_cases hn : n ≤ 300
  · exact const_ok a b _ _ A n c l w ha hb rfl rfl hn hl hR hall
  · exact const_many a b _ _ A n c w ha hb rfl rfl (by omega) (by omega)
end Go.Proofs.Yteeohndgkfilaaa
