/-
  THE LAW ShareEnds, walked.
-/
import Derived.Test.YteeohndgkfilaaaConst
namespace Go.Proofs.Yteeohndgkfilaaa
open Go.RowKit
set_option linter.unusedVariables false
attribute [local go_sem ↓] Go.wp_at_zero Go.wp_at_succ

theorem World.grownBy.rfl_ (w : World) (r : Option Nat) : w.grownBy w r := ⟨rfl, rfl, rfl, Nat.le_refl _, fun _ _ _ => rfl⟩
theorem grown_of {W W' : World} (hb : Below W.heap.size W W') (r : Option Nat) : W.grownBy W' r := ⟨hb.os, hb.tape, hb.output, hb.size, fun k hk _ => hb.block k hk⟩
theorem grown_set1 {W0 W : World} {p : Nat} (h : W0.grownBy W (some p)) (j : Nat) (z : Value) : W0.grownBy (W.setCell ⟨p, j, none⟩ z) (some p) :=
  ⟨h.os, h.tape, h.output, by simpa [World.setCell] using h.size, fun k hk hne => (Below.heap_setCell W ⟨p, j, none⟩ z k (fun e => hne (by rw [e]))).trans (h.block k hk hne)⟩
theorem grown_set4 {W0 W : World} {p : Nat} (h : W0.grownBy W (some p)) (j0 j1 j2 j3 : Nat) (z0 z1 z2 z3 : Value) : W0.grownBy ((((W.setCell ⟨p, j0, none⟩ z0).setCell ⟨p, j1, none⟩ z1).setCell ⟨p, j2, none⟩ z2).setCell ⟨p, j3, none⟩ z3) (some p) := grown_set1 (grown_set1 (grown_set1 (grown_set1 h j0 z0) j1 z1) j2 z2) j3 z3
theorem grown_new1 {W0 W : World} {r : Option Nat} (h : W0.grownBy W r) {b : Nat} (hb : W0.heap.size ≤ b) (j : Nat) (z : Value) : W0.grownBy (W.setCell ⟨b, j, none⟩ z) r :=
  ⟨h.os, h.tape, h.output, by simpa [World.setCell] using h.size, fun k hk hne => (Below.heap_setCell W ⟨b, j, none⟩ z k (fun e => by simp at e; omega)).trans (h.block k hk hne)⟩
theorem grown_new4 {W0 W : World} {r : Option Nat} (h : W0.grownBy W r) {b : Nat} (hb : W0.heap.size ≤ b) (j0 j1 j2 j3 : Nat) (z0 z1 z2 z3 : Value) : W0.grownBy ((((W.setCell ⟨b, j0, none⟩ z0).setCell ⟨b, j1, none⟩ z1).setCell ⟨b, j2, none⟩ z2).setCell ⟨b, j3, none⟩ z3) r := grown_new1 (grown_new1 (grown_new1 (grown_new1 h hb j0 z0) hb j1 z1) hb j2 z2) hb j3 z3
theorem grown_drew {W0 W : World} {r : Option Nat} (h : W0.grownBy W r) : W0.grownBy W.drew r := ⟨h.os, h.tape, h.output, h.size, h.block⟩
theorem recv_05 (v : Value) (h nx : Int) (O : List (Int × Int)) (I : List Int) (x y : Int) (w : World) (hs : SV w v h nx O I) (hE : rE h nx O I x y = 0 ∨ rE h nx O I x y = 5) :
    Calls Try.prog 13 #[v, .agg #[.int .i64 x, .int .i64 y]] w fun e w' => ∃ h' nx' A' n' B' m' er O' I', e = .returned (.tuple #[.agg #[.int .i64 h', .int .i64 nx', .slice A' n' n', .slice B' m' m'], .int .i64 er]) ∧ SC w' h' nx' A' n' B' m' O' I' ∧ ((∀ g, adr A' = some g → w.heap.size ≤ g) ∧ (∀ g, adr B' = some g → w.heap.size ≤ g)) ∧ (er = 0 ∧ rE h nx O I x y = 0 ∧ h' = h + y ∧ nx' = nx ∧ O' = O ∧ I' = insO x I ∨ er = 5 ∧ rE h nx O I x y = 5) ∧ Below w.heap.size w w' := by
  rcases hE with he | he
  · refine (recv_n0 v h nx O I x y w hs he).mono ?_
    rintro e w' ⟨A', n', B', m', rfl, h1, h2, hb⟩
    exact ⟨_, _, A', n', B', m', 0, _, _, rfl, h1, h2, .inl ⟨rfl, he, rfl, rfl, rfl, rfl⟩, hb⟩
  · refine (recv_x v h nx O I x y w 5 hs he (by decide)).mono ?_
    rintro e w' ⟨rfl, hb⟩
    exact ⟨0, 0, none, 0, none, 0, 5, [], [], rfl, SN_lit w' 0 0, ⟨fun g hg => (by cases hg), fun g hg => (by cases hg)⟩, .inr ⟨rfl, he⟩, hb⟩
/-- after k of the two are drained -/
def PE (W : World) (p : Nat) (T : Int) (N k : Nat) : Prop := ∃ h0 nx0 A0 n0 B0 m0 h1 nx1 A1 n1 B1 m1 s0 s1 k0 k1 O0 I0 Z0 K0 O1 I1 Z1 K1, PM W p h0 nx0 A0 n0 B0 m0 h1 nx1 A1 n1 B1 m1 s0 s1 k0 k1 O0 I0 Z0 K0 O1 I1 Z1 K1 ∧ Good T N h0 nx0 O0 I0 Z0 K0 h1 nx1 O1 I1 Z1 K1 ∧ (1 ≤ k → O0 = []) ∧ (2 ≤ k → O1 = [])
/-- drained to k -/
def PR0 (W : World) (p : Nat) (T : Int) (N : Nat) (OS : List (Int × Int)) (k : Nat) : Prop := ∃ h0 nx0 A0 n0 B0 m0 h1 nx1 A1 n1 B1 m1 s0 s1 k0 k1 O0 I0 Z0 K0 O1 I1 Z1 K1, PM W p h0 nx0 A0 n0 B0 m0 h1 nx1 A1 n1 B1 m1 s0 s1 k0 k1 O0 I0 Z0 K0 O1 I1 Z1 K1 ∧ Good T N h0 nx0 O0 I0 Z0 K0 h1 nx1 O1 I1 Z1 K1 ∧ O0 = OS.drop k
def PR1 (W : World) (p : Nat) (T : Int) (N : Nat) (OS : List (Int × Int)) (k : Nat) : Prop := ∃ h0 nx0 A0 n0 B0 m0 h1 nx1 A1 n1 B1 m1 s0 s1 k0 k1 O0 I0 Z0 K0 O1 I1 Z1 K1, PM W p h0 nx0 A0 n0 B0 m0 h1 nx1 A1 n1 B1 m1 s0 s1 k0 k1 O0 I0 Z0 K0 O1 I1 Z1 K1 ∧ Good T N h0 nx0 O0 I0 Z0 K0 h1 nx1 O1 I1 Z1 K1 ∧ O1 = OS.drop k ∧ O0 = []
theorem drain0 {T : Int} {N : Nat} {h0 nx0 h1 nx1 : Int} {O1 R Z0 Z1 : List (Int × Int)} {I0 K0 I1 K1 : List Int} {x y : Int} (h : Good T N h0 nx0 ((x, y) :: R) I0 Z0 K0 h1 nx1 O1 I1 Z1 K1) (hT : T ≤ 1000) (hN : N ≤ 60) :
    aE h0 nx0 ((x, y) :: R) I0 x = 0 ∧ wo x ((x, y) :: R) = R ∧ ((rE h1 nx1 O1 I1 x y = 0 ∧ Good T N h0 nx0 R I0 Z0 K0 (h1 + y) nx1 O1 (insO x I1) Z1 K1) ∨ (rE h1 nx1 O1 I1 x y = 5 ∧ Good T N h0 nx0 R I0 Z0 K0 h1 nx1 O1 I1 Z1 K1)) := by
  have v0 := vS_iff.1 h.1
  have v1 := vS_iff.1 h.2.1
  obtain ⟨hp1, hp2⟩ := List.pairwise_cons.1 v0.2.2.2.2.1
  have hwo : wo x ((x, y) :: R) = R := by
    unfold wo
    rw [List.filter_cons_of_neg (by simp)]
    exact List.filter_eq_self.2 fun q hq => by have := hp1 q hq; simp only [] at this; simp; omega
  have hmem : (x, y) ∈ Z0 := h.2.2.1.2.2.1 _ (List.mem_cons_self ..)
  have hvt := (v0.2.2.1 (x, y) (List.mem_cons_self ..)).1
  have hha : aE h0 nx0 ((x, y) :: R) I0 x = 0 := aE_of h.1 ⟨0, by simp, rfl⟩
  have hlen := h.2.2.2.2.2
  refine ⟨hha, hwo, ?_⟩
  by_cases hx : x ∈ I1
  · right
    have q := h.2.2.1.acked hx
    rw [hwo] at q
    have g5 := h.2.2.2.2.1
    have hvR := vS_ack (x := x) h.1
    rw [hwo] at hvR
    refine ⟨rE_twice h.2.1 hvt hx, hvR, h.2.1, q.1, h.2.2.2.1, ?_, hlen⟩
    have q2 := q.2
    omega
  · left
    have hfew := h.2.2.1.few v1.2.2.2.2.2
    have hn1 := h.2.2.2.1.nonneg
    have hw : way I1 ((x, y) :: R) = y + way I1 R := by simp only [way]; rw [if_neg hx]
    have hwR : 0 ≤ way I1 R := way_nonneg fun q hq => by have := (h.2.2.1.bd q (h.2.2.1.2.2.1 q (List.mem_cons_of_mem _ hq))).2; omega
    have g5 := h.2.2.2.2.1
    have b0 := v0.1.1
    have b1 := v1.1.1
    have hE : rE h1 nx1 O1 I1 x y = 0 := rE_of h.2.1 hvt hx (by omega) (by omega)
    have q := h.2.2.1.recv v0.2.2.2.2.1 hmem hx
    have q2 := q.1.acked (x := x) (mem_insO.2 (.inl rfl))
    rw [hwo] at q2
    have hvR := vS_ack (x := x) h.1
    rw [hwo] at hvR
    refine ⟨hE, hvR, rE_vS hE, q2.1, h.2.2.2.1, ?_, hlen⟩
    have e1 := q.2
    have e2 := q2.2
    omega
theorem drain1 {T : Int} {N : Nat} {h0 nx0 h1 nx1 : Int} {O0 R Z0 Z1 : List (Int × Int)} {I0 K0 I1 K1 : List Int} {x y : Int} (h : Good T N h0 nx0 O0 I0 Z0 K0 h1 nx1 ((x, y) :: R) I1 Z1 K1) (hT : T ≤ 1000) (hN : N ≤ 60) :
    aE h1 nx1 ((x, y) :: R) I1 x = 0 ∧ wo x ((x, y) :: R) = R ∧ ((rE h0 nx0 O0 I0 x y = 0 ∧ Good T N (h0 + y) nx0 O0 (insO x I0) Z0 K0 h1 nx1 R I1 Z1 K1) ∨ (rE h0 nx0 O0 I0 x y = 5 ∧ Good T N h0 nx0 O0 I0 Z0 K0 h1 nx1 R I1 Z1 K1)) := by
  have v0 := vS_iff.1 h.2.1
  have v1 := vS_iff.1 h.1
  obtain ⟨hp1, hp2⟩ := List.pairwise_cons.1 v0.2.2.2.2.1
  have hwo : wo x ((x, y) :: R) = R := by
    unfold wo
    rw [List.filter_cons_of_neg (by simp)]
    exact List.filter_eq_self.2 fun q hq => by have := hp1 q hq; simp only [] at this; simp; omega
  have hmem : (x, y) ∈ Z1 := h.2.2.2.1.2.2.1 _ (List.mem_cons_self ..)
  have hvt := (v0.2.2.1 (x, y) (List.mem_cons_self ..)).1
  have hha : aE h1 nx1 ((x, y) :: R) I1 x = 0 := aE_of h.2.1 ⟨0, by simp, rfl⟩
  have hlen := h.2.2.2.2.2
  refine ⟨hha, hwo, ?_⟩
  by_cases hx : x ∈ I0
  · right
    have q := h.2.2.2.1.acked hx
    rw [hwo] at q
    have g5 := h.2.2.2.2.1
    have hvR := vS_ack (x := x) h.2.1
    rw [hwo] at hvR
    refine ⟨rE_twice h.1 hvt hx, h.1, hvR, h.2.2.1, q.1, ?_, hlen⟩
    have q2 := q.2
    omega
  · left
    have hfew := h.2.2.2.1.few v1.2.2.2.2.2
    have hn1 := h.2.2.1.nonneg
    have hw : way I0 ((x, y) :: R) = y + way I0 R := by simp only [way]; rw [if_neg hx]
    have hwR : 0 ≤ way I0 R := way_nonneg fun q hq => by have := (h.2.2.2.1.bd q (h.2.2.2.1.2.2.1 q (List.mem_cons_of_mem _ hq))).2; omega
    have g5 := h.2.2.2.2.1
    have b0 := v0.1.1
    have b1 := v1.1.1
    have hE : rE h0 nx0 O0 I0 x y = 0 := rE_of h.1 hvt hx (by omega) (by omega)
    have q := h.2.2.2.1.recv v0.2.2.2.2.1 hmem hx
    have q2 := q.1.acked (x := x) (mem_insO.2 (.inl rfl))
    rw [hwo] at q2
    have hvR := vS_ack (x := x) h.2.1
    rw [hwo] at hvR
    refine ⟨hE, rE_vS hE, hvR, h.2.2.1, q2.1, ?_, hlen⟩
    have e1 := q.2
    have e2 := q2.2
    omega

set_option maxRecDepth 100000 in
set_option maxHeartbeats 2000000 in
theorem ends_many (a b x0' y0' : Int) (A : Option Addr) (n c : Nat) (w : World) (ha : 0 ≤ a ∧ a ≤ 65535) (hb : 0 ≤ b ∧ b ≤ 65535) (ex : a % 1001 = x0') (ey : b % (1001 - x0') = y0') (hn : n ≤ 9223372036854775807) (hbig : 60 < n) :
    Calls Try.prog 7 #[.int .u16 a, .int .u16 b, .slice A n c] w fun e w' => e = .returned (.bool true) ∧ Below w.heap.size w w' := by
  have t1' : a % 1001 = x0' := ex
  have hx : 0 ≤ x0' ∧ x0' ≤ 1000 := by omega
  have t1 : a.tmod 1001 = x0' := by rw [Int.tmod_eq_emod_of_nonneg ha.1]; exact t1'
  have t2' : b % (1001 - x0') = y0' := ey
  have hy : 0 ≤ y0' ∧ y0' ≤ 1000 - x0' := by
    have h1 := Int.emod_nonneg b (show (1001 - x0') ≠ 0 by omega)
    have h2 := Int.emod_lt_of_pos b (show (0 : Int) < 1001 - x0' by omega)
    omega
  have t2 : b.tmod (1001 - x0') = y0' := by rw [Int.tmod_eq_emod_of_nonneg hb.1]; exact t2'
  have nz : ¬ (1001 - x0') = 0 := by omega
  have e300 : decide ((60 : Int) < (n : Int)) = true := decide_eq_true (by omega)
  clear ex ey
  go_enter Try.func7, Try.ntmps7
  go_wp2_with (first
    | (go_at_call 9; with_reducible refine (head_any _).mono ?_; rintro e w1 ⟨rfl, g1⟩))
  all_goals (try (exfalso; omega))
  go_ret
  exact ⟨rfl, g1⟩
set_option maxRecDepth 100000 in
set_option maxHeartbeats 16000000 in
theorem ends_ok (a b x0' y0' : Int) (A : Option Addr) (nn c : Nat) (l : List (Int × Bool × Int)) (w : World) (ha : 0 ≤ a ∧ a ≤ 65535) (hb : 0 ≤ b ∧ b ≤ 65535) (ex : a % 1001 = x0') (ey : b % (1001 - x0') = y0') (hn : nn ≤ 60) (hl : l.length = nn) (hR : RL w A (cM l)) (hall : ∀ q ∈ l, (0 ≤ q.1 ∧ q.1 ≤ 255) ∧ (0 ≤ q.2.2 ∧ q.2.2 ≤ 255)) :
    Calls Try.prog 7 #[.int .u16 a, .int .u16 b, .slice A nn c] w fun e w' => e = .returned (.bool true) ∧ Below w.heap.size w w' := by
  have HR := Lib.hid hR
  have HL := Lib.hid hl
  have HA := Lib.hid hall
  clear hR hl hall
  have t1' : a % 1001 = x0' := ex
  have hx : 0 ≤ x0' ∧ x0' ≤ 1000 := by omega
  have t1 : a.tmod 1001 = x0' := by rw [Int.tmod_eq_emod_of_nonneg ha.1]; exact t1'
  have t2' : b % (1001 - x0') = y0' := ey
  have hy : 0 ≤ y0' ∧ y0' ≤ 1000 - x0' := by
    have h1 := Int.emod_nonneg b (show (1001 - x0') ≠ 0 by omega)
    have h2 := Int.emod_lt_of_pos b (show (0 : Int) < 1001 - x0' by omega)
    omega
  have t2 : b.tmod (1001 - x0') = y0' := by rw [Int.tmod_eq_emod_of_nonneg hb.1]; exact t2'
  have nz : ¬ (1001 - x0') = 0 := by omega
  clear ex ey
  have wr1 : IntKind.i64.wrap 1 = 1 := IntWalk.i64_in _ (by omega)
  have wr0 : IntKind.i64.wrap 0 = 0 := IntWalk.i64_in _ (by omega)
  go_enter Try.func7, Try.ntmps7
  go_upto_region 7 with (first
    | (go_at_call 9; with_reducible refine (head_any _).mono ?_; rintro e w1 ⟨rfl, g1⟩
       have H1 := Lib.hid g1)
    | (go_at_call 20; with_reducible refine (start_any x0' y0' _ hx.1 hy.1 (by omega)).mono ?_; rintro e w2 ⟨rfl, pg2, g2⟩))
  all_goals (try (exfalso; omega))
  have HPG2 := Lib.hid pg2
  have HB2 := Lib.hid (bel_step H1.out g2)
  have hpw := H1.out.size
  clear pg2 g2 g1
  obtain ⟨p, ep⟩ : ∃ p, w1.heap.size = p := ⟨_, rfl⟩
  rw [ep] at HPG2 hpw ⊢
  clear ep
  clear t1 t1' t2 t2' nz
  go_wp2_with fail
  go_loopw [38] (fun i wr => ∃ k : Nat, k ≤ nn ∧ i = .int .i64 k ∧ PG wr p (x0' + y0') k ∧ Below w.heap.size w wr) (fun i _ => nn - (intOf i).toNat)
  case atStart => exact ⟨0, Nat.zero_le _, rfl, HPG2.out, HB2.out⟩
  case round =>
    obtain ⟨k, hk, rfl, hpg, hbw⟩ := hrel
    have HPG := Lib.hid hpg
    have HBW := Lib.hid hbw
    clear hpg hbw
    by_cases hlt : k < nn
    · obtain ⟨bb, oo, rfl, hbb, x0, x1, x2⟩ := (HR.out.keep HBW.out).m (i := k) (by have := HL.out; omega)
      have hmv := HA.out _ (at3_mem (l := l) (i := k) (by have := HL.out; omega))
      have j0 : (0 : Int) ≤ (k : Int) := by omega
      have j1 : (k : Int) < (nn : Int) := by omega
      generalize (at3 l k).1 = d at *
      generalize (at3 l k).2.1 = who at *
      generalize (at3 l k).2.2 = pk at *
      have HMV := Lib.hid hmv
      clear hmv
      have HPG3 := Lib.hid ((HPG.out.keep (bel_a wr (.cells #[.int .u8 d, .bool who, .int .u8 pk] 43))))
      have HB3 := Lib.hid (bel_alloc HBW.out (.cells #[.int .u8 d, .bool who, .int .u8 pk] 43))
      go_wp2_with (first
        | (go_at_call 21; with_reducible refine (apply_any p (x0' + y0') k d pk who _ HMV.out.2 HMV.out.1 (by omega) HPG3.out).mono ?_; rintro e w4 ⟨rfl, pg4, g4⟩
           have HPG4 := Lib.hid pg4
           have HB4 := Lib.hid (Below.trans HB3.out (g4.mono hpw))
           clear pg4 g4))
      go_roundw
      case rel => exact ⟨k + 1, by omega, by go_num, HPG4.out, HB4.out⟩
      case measure => simp [intOf] <;> omega
    · obtain rfl : k = nn := by omega
      have HPE : Hid (PE wr p (x0' + y0') k 0) := Lib.hid (by
        obtain ⟨h0, nx0, A0, n0, B0, m0, h1, nx1, A1, n1, B1, m1, s0, s1, k0, k1, O0, I0, Z0, K0, O1, I1, Z1, K1, hp4, hg4⟩ := HPG.out
        exact ⟨h0, nx0, A0, n0, B0, m0, h1, nx1, A1, n1, B1, m1, s0, s1, k0, k1, O0, I0, Z0, K0, O1, I1, Z1, K1, hp4, hg4, fun e => by omega, fun e => by omega⟩)
      clear HPG
      obtain ⟨nn, enn⟩ : ∃ nn, k = nn := ⟨_, rfl⟩
      subst enn
      go_wp2_with fail
      go_loopw [47] (fun i wr => ∃ kk : Nat, kk ≤ 2 ∧ i = .int .i64 kk ∧ PE wr p (x0' + y0') k kk ∧ Below w.heap.size w wr) (fun i _ => 2 - (intOf i).toNat)
      case atStart => exact ⟨0, by omega, rfl, HPE.out, HBW.out⟩
      case round =>
        clear HPE HBW
        obtain ⟨i, hi, rfl, hpe, hbw⟩ := hrel
        have HBW := Lib.hid hbw
        clear hbw
        obtain rfl | rfl | rfl : i = 0 ∨ i = 1 ∨ i = 2 := by omega
        · obtain ⟨h0, nx0, A0, n0, B0, m0, h1, nx1, A1, n1, B1, m1, s0, s1, k0, k1, O0, I0, Z0, K0, O1, I1, Z1, K1, hpm, hg, _, _⟩ := hpe
          have HPS := Lib.hid hpm
          have HGS := Lib.hid hg
          obtain ⟨OS, eOS⟩ : ∃ OS, O0 = OS := ⟨_, rfl⟩
          obtain ⟨NS, eNS⟩ : ∃ NS, n0 = NS := ⟨_, rfl⟩
          obtain ⟨AS, eAS⟩ : ∃ AS, A0 = AS := ⟨_, rfl⟩
          have HRS : Hid (RL wr AS (cT OS)) := Lib.hid (by rw [← eAS, ← eOS]; exact hpm.2.1.rt.1.rl)
          have HSEP : Hid (∀ g o, AS = some ⟨g, o, none⟩ → g ≠ p) := Lib.hid (by
            rw [← eAS]
            intro g o e
            rcases hpm.2.1.rt.1 with ⟨h', _⟩ | ⟨g', h', h''⟩
            · rw [h'] at e; cases e
            · rw [h'] at e; cases e; exact (OW_ne hpm.1 h'' (by decide)))
          have HLS : Hid (OS.length = NS) := Lib.hid (by rw [← eOS, ← eNS]; exact hpm.2.1.lens.1)
          have hNS : NS ≤ 64 := by have := (vS_iff.1 hg.1).2.1.1; have := HLS.out; rw [eOS] at *; omega
          have cO : wr.cell? ⟨p, 2, none⟩ = some (.slice AS NS NS) := by rw [← eAS, ← eNS]; exact hpm.1.at rfl
          have hlp := hpm.1.lt
          have HEO := Lib.hid eOS
          clear hpm hg eOS eNS eAS
          go_wp2_with fail
          clear cO
          obtain ⟨W0, eW0⟩ : ∃ W0, wr = W0 := ⟨_, rfl⟩
          rw [eW0] at HRS HPS HBW hlp ⊢
          clear eW0
          go_loopw [58] (fun t w2 => ∃ kk : Nat, kk ≤ NS ∧ t = .int .i64 kk ∧ (PR0 w2 p (x0' + y0') k OS kk) ∧ W0.grownBy w2 (some p)) (fun t _ => NS - (intOf t).toNat)
          case atStart => exact ⟨0, Nat.zero_le _, rfl, ⟨h0, nx0, A0, n0, B0, m0, h1, nx1, A1, n1, B1, m1, s0, s1, k0, k1, O0, I0, Z0, K0, O1, I1, Z1, K1, HPS.out, HGS.out, by rw [List.drop_zero]; exact HEO.out⟩, World.grownBy.rfl_ W0 _⟩
          case round =>
            clear HPS HGS HEO
            obtain ⟨kk, hkk, rfl, ⟨h0, nx0, A0, n0, B0, m0, h1, nx1, A1, n1, B1, m1, s0, s1, k0, k1, O0, I0, Z0, K0, O1, I1, Z1, K1, hpm, hg, hO⟩, hgr⟩ := hrel
            have HGR := Lib.hid hgr
            clear hgr
            by_cases hlt : kk < NS
            · obtain ⟨bb, oo, rfl, hbb, x0, x1⟩ := (HRS.out.grown HGR.out HSEP.out).t (i := kk) (by have := HLS.out; omega)
              have j0 : (0 : Int) ≤ (kk : Int) := by omega
              have j1 : (kk : Int) < (NS : Int) := by omega
              obtain ⟨x, y, hxy⟩ : ∃ x y, at2 OS kk = (x, y) := ⟨_, _, rfl⟩
              rw [hxy] at x0 x1
              obtain ⟨R, eR⟩ : ∃ R, OS.drop (kk + 1) = R := ⟨_, rfl⟩
              have hcons : OS.drop kk = (x, y) :: R := by
                rw [List.drop_eq_getElem_cons (by have := HLS.out; omega), eR, ← at2_el (by have := HLS.out; omega), hxy]
              rw [hcons] at hO
              subst hO
              have HER := Lib.hid eR
              have D := Lib.hid (drain0 hg (by omega) (by omega))
              have HM := Lib.hid hpm

              clear hxy hcons hg hpm eR
              go_upto_region 19 with (fail)
              clear x0 x1
              have HM2 := Lib.hid (HM.out.keep (bel_a wr (.cells #[.int .i64 x, .int .i64 y] 27)))
              have Q15 := Lib.hid (OW.new wr 27 [.int .i64 x, .int .i64 y])
              have HG2 := Lib.hid (HGR.out.trans (grown_of (bel_a wr (.cells #[.int .i64 x, .int .i64 y] 27)) (some p)))
              obtain ⟨W2, eW⟩ : ∃ W, wr.alloc (.cells #[.int .i64 x, .int .i64 y] 27) = W := ⟨_, rfl⟩
              rw [eW] at HM2 Q15 HG2 ⊢
              obtain ⟨b15, eB⟩ : ∃ b, wr.heap.size = b := ⟨_, rfl⟩
              rw [eB] at Q15 ⊢
              clear eW eB HM HGR
              obtain ⟨c0, c1, c2, c3, c4, c5, c6, c7, c8, c9, c10, c11⟩ := cell12 HM2.out.1
              obtain ⟨y0, y1⟩ := cell2 Q15.out
              have l15 := Q15.out.lt
              have lp := HM2.out.1.lt
              have HSVa : Hid (SV W2.drew (.agg #[.int .i64 h1, .int .i64 nx1, .slice A1 n1 n1, .slice B1 m1 m1]) h1 nx1 O1 I1) := Lib.hid HM2.out.2.2.1.sv
              have HSVb : Hid (SV (W2.alloc (.cells #[.int .i64 0, .int .i64 0, .slice none 0 0, .slice none 0 0] 25)).drew (.agg #[.int .i64 h1, .int .i64 nx1, .slice A1 n1 n1, .slice B1 m1 m1]) h1 nx1 O1 I1) := Lib.hid (HM2.out.keep (bel_a W2 (.cells #[.int .i64 0, .int .i64 0, .slice none 0 0, .slice none 0 0] 25))).2.2.1.sv
              have HD2 : Hid (rE h1 nx1 O1 I1 x y = 0 ∨ rE h1 nx1 O1 I1 x y = 5) := Lib.hid (D.out.2.2.elim (fun q => .inl q.1) (fun q => .inr q.1))
              go_cut [16, 17] (fun v16 v17 wx => ∃ h' nx' A' n' B' m' er O' I' b16, v16 = .pointer (some ⟨b16, 0, none⟩) ∧ v17 = .int .i64 er ∧ OW wx b16 25 [.int .i64 h', .int .i64 nx', .slice A' n' n', .slice B' m' m'] ∧ SC wx h' nx' A' n' B' m' O' I' ∧ Ap s0.ownBlock s1.ownBlock k0.ownBlock k1.ownBlock (adr A0) (adr A') (adr B0) (adr B') ∧ (er = 0 ∧ rE h1 nx1 O1 I1 x y = 0 ∧ h' = h1 + y ∧ nx' = nx1 ∧ O' = O1 ∧ I' = insO x I1 ∨ er = 5 ∧ rE h1 nx1 O1 I1 x y = 5) ∧ PM wx p h0 nx0 A0 n0 B0 m0 h1 nx1 A1 n1 B1 m1 s0 s1 k0 k1 ((x, y) :: R) I0 Z0 K0 O1 I1 Z1 K1 ∧ OW wx b15 27 [.int .i64 x, .int .i64 y] ∧ W0.grownBy wx (some p))
              case first =>
                have K0 : Hid ( W2.drew.cell? ⟨p, 4, none⟩ = some (.int .i64 h1) ∧ W2.drew.cell? ⟨p, 5, none⟩ = some (.int .i64 nx1) ∧ W2.drew.cell? ⟨p, 6, none⟩ = some (.slice A1 n1 n1) ∧ W2.drew.cell? ⟨p, 7, none⟩ = some (.slice B1 m1 m1) ∧ W2.drew.cell? ⟨b15, 0, none⟩ = some (.int .i64 x) ∧ W2.drew.cell? ⟨b15, 1, none⟩ = some (.int .i64 y)) := Lib.hid ⟨HM2.out.1.at rfl, HM2.out.1.at rfl, HM2.out.1.at rfl, HM2.out.1.at rfl, Q15.out.at rfl, Q15.out.at rfl⟩
                have K1 : Hid ( ((W2.alloc (.cells #[.int .i64 0, .int .i64 0, .slice none 0 0, .slice none 0 0] 25)).drew).cell? ⟨p, 4, none⟩ = some (.int .i64 h1) ∧ ((W2.alloc (.cells #[.int .i64 0, .int .i64 0, .slice none 0 0, .slice none 0 0] 25)).drew).cell? ⟨p, 5, none⟩ = some (.int .i64 nx1) ∧ ((W2.alloc (.cells #[.int .i64 0, .int .i64 0, .slice none 0 0, .slice none 0 0] 25)).drew).cell? ⟨p, 6, none⟩ = some (.slice A1 n1 n1) ∧ ((W2.alloc (.cells #[.int .i64 0, .int .i64 0, .slice none 0 0, .slice none 0 0] 25)).drew).cell? ⟨p, 7, none⟩ = some (.slice B1 m1 m1) ∧ ((W2.alloc (.cells #[.int .i64 0, .int .i64 0, .slice none 0 0, .slice none 0 0] 25)).drew).cell? ⟨b15, 0, none⟩ = some (.int .i64 x) ∧ ((W2.alloc (.cells #[.int .i64 0, .int .i64 0, .slice none 0 0, .slice none 0 0] 25)).drew).cell? ⟨b15, 1, none⟩ = some (.int .i64 y)) := Lib.hid ⟨(HM2.out.keep (bel_a W2 (.cells #[.int .i64 0, .int .i64 0, .slice none 0 0, .slice none 0 0] 25))).1.at rfl, (HM2.out.keep (bel_a W2 (.cells #[.int .i64 0, .int .i64 0, .slice none 0 0, .slice none 0 0] 25))).1.at rfl, (HM2.out.keep (bel_a W2 (.cells #[.int .i64 0, .int .i64 0, .slice none 0 0, .slice none 0 0] 25))).1.at rfl, (HM2.out.keep (bel_a W2 (.cells #[.int .i64 0, .int .i64 0, .slice none 0 0, .slice none 0 0] 25))).1.at rfl, (Q15.out.alloc (.cells #[.int .i64 0, .int .i64 0, .slice none 0 0, .slice none 0 0] 25)).at rfl, (Q15.out.alloc (.cells #[.int .i64 0, .int .i64 0, .slice none 0 0, .slice none 0 0] 25)).at rfl⟩
                go_region_held3 (fun w' => w'.cell? ⟨p, 4, none⟩ = some (.int .i64 h1) ∧ w'.cell? ⟨p, 5, none⟩ = some (.int .i64 nx1) ∧ w'.cell? ⟨p, 6, none⟩ = some (.slice A1 n1 n1) ∧ w'.cell? ⟨p, 7, none⟩ = some (.slice B1 m1 m1) ∧ w'.cell? ⟨b15, 0, none⟩ = some (.int .i64 x) ∧ w'.cell? ⟨b15, 1, none⟩ = some (.int .i64 y))
                  (first | with_reducible exact K0.out | with_reducible exact K1.out | with_reducible exact KW.out | with_reducible exact KA.out _ | with_reducible exact KF.out _ _ _ _)
                  (first
                  | (go_at_call 13; refine (recv_05 _ h1 nx1 O1 I1 x y _ (by first | exact HSVa.out | exact HSVb.out) HD2.out).mono ?_; rintro e wa ⟨h', nx', A', n', B', m', er, O', I', rfl, sc1, fr1, hcs, hw⟩
                     first
                       | (have t12 : OW wa W2.heap.size 25 [.int .i64 0, .int .i64 0, .slice none 0 0, .slice none 0 0] := ((OW.new W2 25 [.int .i64 0, .int .i64 0, .slice none 0 0, .slice none 0 0]).drew).keep hw
                          obtain ⟨t0, t1, t2, t3⟩ := cell4 t12; have u0 := t12.thaw 0; have u1 := t12.thaw 1; have u2 := t12.thaw 2; have u3 := t12.thaw 3
                          have hpw := ((HM2.out.keep (bel_a W2 (.cells #[.int .i64 0, .int .i64 0, .slice none 0 0, .slice none 0 0] 25))).drew).keep hw; have q11 := ((Q15.out.alloc (.cells #[.int .i64 0, .int .i64 0, .slice none 0 0, .slice none 0 0] 25)).drew).keep hw; have hap := ((HM2.out.keep (bel_a W2 (.cells #[.int .i64 0, .int .i64 0, .slice none 0 0, .slice none 0 0] 25))).drew).new1 fr1.1 fr1.2
                          have hgw := (HG2.out.trans (grown_of (Below.drew (bel_a W2 (.cells #[.int .i64 0, .int .i64 0, .slice none 0 0, .slice none 0 0] 25))) (some p))).trans (grown_of hw (some p)); have KW : Hid ((wa).cell? ⟨p, 4, none⟩ = some (.int .i64 h1) ∧ (wa).cell? ⟨p, 5, none⟩ = some (.int .i64 nx1) ∧ (wa).cell? ⟨p, 6, none⟩ = some (.slice A1 n1 n1) ∧ (wa).cell? ⟨p, 7, none⟩ = some (.slice B1 m1 m1) ∧ (wa).cell? ⟨b15, 0, none⟩ = some (.int .i64 x) ∧ (wa).cell? ⟨b15, 1, none⟩ = some (.int .i64 y)) := Lib.hid ⟨hpw.1.at rfl, hpw.1.at rfl, hpw.1.at rfl, hpw.1.at rfl, q11.at rfl, q11.at rfl⟩; have KF : Hid (∀ z0 z1 z2 z3, (((((wa.setCell ⟨W2.heap.size, 0, none⟩ z0).setCell ⟨W2.heap.size, 1, none⟩ z1).setCell ⟨W2.heap.size, 2, none⟩ z2).setCell ⟨W2.heap.size, 3, none⟩ z3)).cell? ⟨p, 4, none⟩ = some (.int .i64 h1) ∧ (((((wa.setCell ⟨W2.heap.size, 0, none⟩ z0).setCell ⟨W2.heap.size, 1, none⟩ z1).setCell ⟨W2.heap.size, 2, none⟩ z2).setCell ⟨W2.heap.size, 3, none⟩ z3)).cell? ⟨p, 5, none⟩ = some (.int .i64 nx1) ∧ (((((wa.setCell ⟨W2.heap.size, 0, none⟩ z0).setCell ⟨W2.heap.size, 1, none⟩ z1).setCell ⟨W2.heap.size, 2, none⟩ z2).setCell ⟨W2.heap.size, 3, none⟩ z3)).cell? ⟨p, 6, none⟩ = some (.slice A1 n1 n1) ∧ (((((wa.setCell ⟨W2.heap.size, 0, none⟩ z0).setCell ⟨W2.heap.size, 1, none⟩ z1).setCell ⟨W2.heap.size, 2, none⟩ z2).setCell ⟨W2.heap.size, 3, none⟩ z3)).cell? ⟨p, 7, none⟩ = some (.slice B1 m1 m1) ∧ (((((wa.setCell ⟨W2.heap.size, 0, none⟩ z0).setCell ⟨W2.heap.size, 1, none⟩ z1).setCell ⟨W2.heap.size, 2, none⟩ z2).setCell ⟨W2.heap.size, 3, none⟩ z3)).cell? ⟨b15, 0, none⟩ = some (.int .i64 x) ∧ (((((wa.setCell ⟨W2.heap.size, 0, none⟩ z0).setCell ⟨W2.heap.size, 1, none⟩ z1).setCell ⟨W2.heap.size, 2, none⟩ z2).setCell ⟨W2.heap.size, 3, none⟩ z3)).cell? ⟨b15, 1, none⟩ = some (.int .i64 y)) := Lib.hid fun z0 z1 z2 z3 => ⟨(hpw.far4 t12 0 1 2 3 z0 z1 z2 z3).1.at rfl, (hpw.far4 t12 0 1 2 3 z0 z1 z2 z3).1.at rfl, (hpw.far4 t12 0 1 2 3 z0 z1 z2 z3).1.at rfl, (hpw.far4 t12 0 1 2 3 z0 z1 z2 z3).1.at rfl, (q11.far4 (OW_ne q11 t12 (by decide)) 0 1 2 3 z0 z1 z2 z3).at rfl, (q11.far4 (OW_ne q11 t12 (by decide)) 0 1 2 3 z0 z1 z2 z3).at rfl⟩; clear hw)
                       | (have hpw := (HM2.out.drew).keep hw; have q11 := (Q15.out.drew).keep hw; have hap := (HM2.out.drew).new1 fr1.1 fr1.2
                          have hgw := (HG2.out.trans (grown_of (Below.drew (Below.refl _ W2)) (some p))).trans (grown_of hw (some p)); have KW : Hid ((wa).cell? ⟨p, 4, none⟩ = some (.int .i64 h1) ∧ (wa).cell? ⟨p, 5, none⟩ = some (.int .i64 nx1) ∧ (wa).cell? ⟨p, 6, none⟩ = some (.slice A1 n1 n1) ∧ (wa).cell? ⟨p, 7, none⟩ = some (.slice B1 m1 m1) ∧ (wa).cell? ⟨b15, 0, none⟩ = some (.int .i64 x) ∧ (wa).cell? ⟨b15, 1, none⟩ = some (.int .i64 y)) := Lib.hid ⟨hpw.1.at rfl, hpw.1.at rfl, hpw.1.at rfl, hpw.1.at rfl, q11.at rfl, q11.at rfl⟩; have KA : Hid (∀ o, (wa.alloc o).cell? ⟨p, 4, none⟩ = some (.int .i64 h1) ∧ (wa.alloc o).cell? ⟨p, 5, none⟩ = some (.int .i64 nx1) ∧ (wa.alloc o).cell? ⟨p, 6, none⟩ = some (.slice A1 n1 n1) ∧ (wa.alloc o).cell? ⟨p, 7, none⟩ = some (.slice B1 m1 m1) ∧ (wa.alloc o).cell? ⟨b15, 0, none⟩ = some (.int .i64 x) ∧ (wa.alloc o).cell? ⟨b15, 1, none⟩ = some (.int .i64 y)) := Lib.hid fun o => ⟨(hpw.keep (bel_a wa o)).1.at rfl, (hpw.keep (bel_a wa o)).1.at rfl, (hpw.keep (bel_a wa o)).1.at rfl, (hpw.keep (bel_a wa o)).1.at rfl, (q11.alloc o).at rfl, (q11.alloc o).at rfl⟩; clear hw)))
                all_goals ((try go_wp2_with fail); go_meet)
                all_goals (first
                  | exact ⟨_, _, _, _, _, _, _, _, _, _, rfl, rfl, t12.set4 _ _ _ _, sc1.far4 t12 (by decide) (by decide) 0 1 2 3 _ _ _ _, hap, hcs, hpw.far4 t12 0 1 2 3 _ _ _ _, q11.far4 (OW_ne q11 t12 (by decide)) 0 1 2 3 _ _ _ _, grown_new4 hgw (b := W2.heap.size) HG2.out.size 0 1 2 3 _ _ _ _⟩
                  | exact ⟨_, _, _, _, _, _, _, _, _, _, rfl, rfl, OW.new wa _ _, sc1.keep (bel_a wa _), hap, hcs, hpw.keep (bel_a wa _), q11.alloc _, hgw.trans (grown_of (bel_a wa _) (some p))⟩)
              case rest =>
                obtain ⟨h', nx', A', n', B', m', er, O', I', b16, rfl, rfl, q16, sc3, ap3, hcs, hp3, q15, hgr3⟩ := hcut
                have HM3 := Lib.hid hp3
                have HG3 := Lib.hid hgr3
                have HQ15 := Lib.hid q15
                have HSC3 := Lib.hid sc3
                have HAP3 := Lib.hid ap3
                have HQ16 := Lib.hid q16
                have HCS := Lib.hid hcs
                clear c0 c1 c2 c3 c4 c5 c6 c7 c8 c9 c10 c11 y0 y1 HM2 Q15 HG2 HSVa HSVb l15 lp q16 sc3 ap3 hcs hp3 q15 hgr3 HD2
                go_upto_if 75 with (fail)
                go_cut [] (fun wx => ∃ h' A' n' B' m' I', PM wx p h0 nx0 A0 n0 B0 m0 h' nx1 A' n' B' m' s0 s1 k0 k1 ((x, y) :: R) I0 Z0 K0 O1 I' Z1 K1 ∧ Good (x0' + y0') k h0 nx0 R I0 Z0 K0 h' nx1 O1 I' Z1 K1 ∧ OW wx b15 27 [.int .i64 x, .int .i64 y] ∧ W0.grownBy wx (some p) ∧ (er = 0 ∨ er = 5))
                case first =>
                  have np7 : b16 ≠ p := OW_ne HM3.out.1 HQ16.out (by decide)
                  have np8 : p ≠ b15 := OW_ne HQ15.out HM3.out.1 (by decide)
                  obtain ⟨c0, c1, c2, c3, c4, c5, c6, c7, c8, c9, c10, c11⟩ := cell12 HM3.out.1
                  obtain ⟨y0, y1, y2, y3⟩ := cell4 HQ16.out
                  have z0 := HM3.out.1.thaw 4
                  have z1 := HM3.out.1.thaw 5
                  have z2 := HM3.out.1.thaw 6
                  have z3 := HM3.out.1.thaw 7
                  have v1 : ¬ b16 = p := np7
                  have v2 : ¬ p = b16 := fun e => np7 e.symm
                  rcases HCS.out with ⟨rfl, hre, q1, q2, q3, q4⟩ | ⟨rfl, hre⟩
                  · obtain rfl := q1.symm
                    obtain rfl := q2.symm
                    obtain rfl := q3.symm
                    obtain rfl := q4.symm
                    have HGF : Hid (Good (x0' + y0') k h0 nx0 R I0 Z0 K0 (h1 + y) nx1 O1 (insO x I1) Z1 K1) := Lib.hid (D.out.2.2.elim (fun q => q.2) (fun q => by have := q.1; rw [hre] at this; cases this))
                    clear hre
                    obtain ⟨wF, hwF⟩ : ∃ wF, ((((wc.setCell ⟨p, 4, none⟩ (.int .i64 (h1 + y))).setCell ⟨p, 5, none⟩ (.int .i64 nx1)).setCell ⟨p, 6, none⟩ (.slice A' n' n')).setCell ⟨p, 7, none⟩ (.slice B' m' m')).drew = wF := ⟨_, rfl⟩
                    have FP : Hid (PM wF p h0 nx0 A0 n0 B0 m0 (h1 + y) nx1 A' n' B' m' s0 s1 k0 k1 ((x, y) :: R) I0 Z0 K0 O1 (insO x I1) Z1 K1) := Lib.hid (hwF ▸ (HM3.out.share1 HSC3.out HAP3.out).drew)
                    have FQ : Hid (OW wF b15 27 [.int .i64 x, .int .i64 y]) := Lib.hid (hwF ▸ (HQ15.out.far4 np8 4 5 6 7 (.int .i64 (h1 + y)) (.int .i64 nx1) (.slice A' n' n') (.slice B' m' m')).drew)
                    have FG : Hid (W0.grownBy wF (some p)) := Lib.hid (hwF ▸ grown_drew (grown_set4 HG3.out 4 5 6 7 (.int .i64 (h1 + y)) (.int .i64 nx1) (.slice A' n' n') (.slice B' m' m')))
                    have HWF := Lib.hid hwF
                    clear hwF
                    go_upto_region 21 with (fail)
                    go_region_law (fail)
                    all_goals ((try go_wp2_with fail); rw [HWF.out]; go_meet)
                    all_goals (exact ⟨_, _, _, _, _, _, FP.out, HGF.out, FQ.out, FG.out, by simp⟩)
                  · have HGF : Hid (Good (x0' + y0') k h0 nx0 R I0 Z0 K0 h1 nx1 O1 I1 Z1 K1) := Lib.hid (D.out.2.2.elim (fun q => by have := q.1; rw [hre] at this; cases this) (fun q => q.2))
                    clear hre
                    (try go_wp2_with fail)
                    go_meet
                    exact ⟨_, _, _, _, _, _, HM3.out, HGF.out, HQ15.out, HG3.out, by simp⟩
                case rest =>
                  clear HM3 HG3 HQ15 HSC3 HAP3 HQ16 HCS
                  obtain ⟨h', A', n', B', m', I', hp4, hg4, q15, hgr4, her⟩ := hcut
                  have HM4 := Lib.hid hp4
                  have HGF := Lib.hid hg4
                  have HQ15 := Lib.hid q15
                  have HG4 := Lib.hid hgr4
                  have HE := Lib.hid her
                  clear her
                  obtain ⟨c0, c1, c2, c3, c4, c5, c6, c7, c8, c9, c10, c11⟩ := cell12 hp4.1
                  obtain ⟨y0, y1⟩ := cell2 q15
                  have lp4 := hp4.1.lt
                  have l15 := q15.lt
                  obtain ⟨W4, eW4⟩ : ∃ W4, wc = W4 := ⟨_, rfl⟩
                  have HSVa : Hid (SV wc.drew (.agg #[.int .i64 h0, .int .i64 nx0, .slice A0 n0 n0, .slice B0 m0 m0]) h0 nx0 ((x, y) :: R) I0) := Lib.hid hp4.2.1.sv
                  have HSVb : Hid (SV (wc.alloc (.cells #[.int .i64 0, .int .i64 0, .slice none 0 0, .slice none 0 0] 25)).drew (.agg #[.int .i64 h0, .int .i64 nx0, .slice A0 n0 n0, .slice B0 m0 m0]) h0 nx0 ((x, y) :: R) I0) := Lib.hid (hp4.keep (bel_a wc (.cells #[.int .i64 0, .int .i64 0, .slice none 0 0, .slice none 0 0] 25))).2.1.sv
                  rw [eW4] at HM4 HQ15 HG4 HSVa HSVb c0 c1 c2 c3 c4 c5 c6 c7 c8 c9 c10 c11 y0 y1 lp4 l15 ⊢
                  clear eW4 hp4 hg4 q15 hgr4
                  have HAE : Hid (aE h0 nx0 ((x, y) :: R) I0 x = 0) := Lib.hid D.out.1
                  have HWO : Hid (wo x ((x, y) :: R) = R) := Lib.hid D.out.2.1
                  go_upto_region 22 with (fail)
                  go_cut [18, 19] (fun v18 v19 wx => ∃ A2 n2 B2 m2 b18, v18 = .pointer (some ⟨b18, 0, none⟩) ∧ v19 = .int .i64 0 ∧ OW wx b18 25 [.int .i64 h0, .int .i64 nx0, .slice A2 n2 n2, .slice B2 m2 m2] ∧ SC wx h0 nx0 A2 n2 B2 m2 R I0 ∧ Ap s0.ownBlock s1.ownBlock k0.ownBlock k1.ownBlock (adr A2) (adr A') (adr B2) (adr B') ∧ PM wx p h0 nx0 A0 n0 B0 m0 h' nx1 A' n' B' m' s0 s1 k0 k1 ((x, y) :: R) I0 Z0 K0 O1 I' Z1 K1 ∧ W0.grownBy wx (some p))
                  case first =>
                    have K0 : Hid ( W4.drew.cell? ⟨p, 0, none⟩ = some (.int .i64 h0) ∧ W4.drew.cell? ⟨p, 1, none⟩ = some (.int .i64 nx0) ∧ W4.drew.cell? ⟨p, 2, none⟩ = some (.slice A0 n0 n0) ∧ W4.drew.cell? ⟨p, 3, none⟩ = some (.slice B0 m0 m0) ∧ W4.drew.cell? ⟨b15, 0, none⟩ = some (.int .i64 x) ∧ W4.drew.cell? ⟨b15, 1, none⟩ = some (.int .i64 y)) := Lib.hid ⟨HM4.out.1.at rfl, HM4.out.1.at rfl, HM4.out.1.at rfl, HM4.out.1.at rfl, HQ15.out.at rfl, HQ15.out.at rfl⟩
                    have K1 : Hid ( ((W4.alloc (.cells #[.int .i64 0, .int .i64 0, .slice none 0 0, .slice none 0 0] 25)).drew).cell? ⟨p, 0, none⟩ = some (.int .i64 h0) ∧ ((W4.alloc (.cells #[.int .i64 0, .int .i64 0, .slice none 0 0, .slice none 0 0] 25)).drew).cell? ⟨p, 1, none⟩ = some (.int .i64 nx0) ∧ ((W4.alloc (.cells #[.int .i64 0, .int .i64 0, .slice none 0 0, .slice none 0 0] 25)).drew).cell? ⟨p, 2, none⟩ = some (.slice A0 n0 n0) ∧ ((W4.alloc (.cells #[.int .i64 0, .int .i64 0, .slice none 0 0, .slice none 0 0] 25)).drew).cell? ⟨p, 3, none⟩ = some (.slice B0 m0 m0) ∧ ((W4.alloc (.cells #[.int .i64 0, .int .i64 0, .slice none 0 0, .slice none 0 0] 25)).drew).cell? ⟨b15, 0, none⟩ = some (.int .i64 x) ∧ ((W4.alloc (.cells #[.int .i64 0, .int .i64 0, .slice none 0 0, .slice none 0 0] 25)).drew).cell? ⟨b15, 1, none⟩ = some (.int .i64 y)) := Lib.hid ⟨(HM4.out.keep (bel_a W4 (.cells #[.int .i64 0, .int .i64 0, .slice none 0 0, .slice none 0 0] 25))).1.at rfl, (HM4.out.keep (bel_a W4 (.cells #[.int .i64 0, .int .i64 0, .slice none 0 0, .slice none 0 0] 25))).1.at rfl, (HM4.out.keep (bel_a W4 (.cells #[.int .i64 0, .int .i64 0, .slice none 0 0, .slice none 0 0] 25))).1.at rfl, (HM4.out.keep (bel_a W4 (.cells #[.int .i64 0, .int .i64 0, .slice none 0 0, .slice none 0 0] 25))).1.at rfl, (HQ15.out.alloc (.cells #[.int .i64 0, .int .i64 0, .slice none 0 0, .slice none 0 0] 25)).at rfl, (HQ15.out.alloc (.cells #[.int .i64 0, .int .i64 0, .slice none 0 0, .slice none 0 0] 25)).at rfl⟩
                    go_region_held3 (fun w' => w'.cell? ⟨p, 0, none⟩ = some (.int .i64 h0) ∧ w'.cell? ⟨p, 1, none⟩ = some (.int .i64 nx0) ∧ w'.cell? ⟨p, 2, none⟩ = some (.slice A0 n0 n0) ∧ w'.cell? ⟨p, 3, none⟩ = some (.slice B0 m0 m0) ∧ w'.cell? ⟨b15, 0, none⟩ = some (.int .i64 x) ∧ w'.cell? ⟨b15, 1, none⟩ = some (.int .i64 y))
                      (first | with_reducible exact K0.out | with_reducible exact K1.out | with_reducible exact KW.out | with_reducible exact KA.out _ | with_reducible exact KF.out _ _ _ _)
                      (first
                      | (go_at_call 15; refine (ack_n0 _ h0 nx0 ((x, y) :: R) I0 x _ (by first | exact HSVa.out | exact HSVb.out) HAE.out).mono ?_; rintro e wa ⟨A2, n2, B2, m2, rfl, sc1, fr1, hw⟩
                         rw [HWO.out] at sc1
                         first
                           | (have t12 : OW wa W4.heap.size 25 [.int .i64 0, .int .i64 0, .slice none 0 0, .slice none 0 0] := ((OW.new W4 25 [.int .i64 0, .int .i64 0, .slice none 0 0, .slice none 0 0]).drew).keep hw
                              obtain ⟨t0, t1, t2, t3⟩ := cell4 t12; have u0 := t12.thaw 0; have u1 := t12.thaw 1; have u2 := t12.thaw 2; have u3 := t12.thaw 3
                              have hpw := ((HM4.out.keep (bel_a W4 (.cells #[.int .i64 0, .int .i64 0, .slice none 0 0, .slice none 0 0] 25))).drew).keep hw; have q11 := ((HQ15.out.alloc (.cells #[.int .i64 0, .int .i64 0, .slice none 0 0, .slice none 0 0] 25)).drew).keep hw; have hap := ((HM4.out.keep (bel_a W4 (.cells #[.int .i64 0, .int .i64 0, .slice none 0 0, .slice none 0 0] 25))).drew).new0 fr1.1 fr1.2
                              have hgw := (HG4.out.trans (grown_of (Below.drew (bel_a W4 (.cells #[.int .i64 0, .int .i64 0, .slice none 0 0, .slice none 0 0] 25))) (some p))).trans (grown_of hw (some p)); have KW : Hid ((wa).cell? ⟨p, 0, none⟩ = some (.int .i64 h0) ∧ (wa).cell? ⟨p, 1, none⟩ = some (.int .i64 nx0) ∧ (wa).cell? ⟨p, 2, none⟩ = some (.slice A0 n0 n0) ∧ (wa).cell? ⟨p, 3, none⟩ = some (.slice B0 m0 m0) ∧ (wa).cell? ⟨b15, 0, none⟩ = some (.int .i64 x) ∧ (wa).cell? ⟨b15, 1, none⟩ = some (.int .i64 y)) := Lib.hid ⟨hpw.1.at rfl, hpw.1.at rfl, hpw.1.at rfl, hpw.1.at rfl, q11.at rfl, q11.at rfl⟩; have KF : Hid (∀ z0 z1 z2 z3, (((((wa.setCell ⟨W4.heap.size, 0, none⟩ z0).setCell ⟨W4.heap.size, 1, none⟩ z1).setCell ⟨W4.heap.size, 2, none⟩ z2).setCell ⟨W4.heap.size, 3, none⟩ z3)).cell? ⟨p, 0, none⟩ = some (.int .i64 h0) ∧ (((((wa.setCell ⟨W4.heap.size, 0, none⟩ z0).setCell ⟨W4.heap.size, 1, none⟩ z1).setCell ⟨W4.heap.size, 2, none⟩ z2).setCell ⟨W4.heap.size, 3, none⟩ z3)).cell? ⟨p, 1, none⟩ = some (.int .i64 nx0) ∧ (((((wa.setCell ⟨W4.heap.size, 0, none⟩ z0).setCell ⟨W4.heap.size, 1, none⟩ z1).setCell ⟨W4.heap.size, 2, none⟩ z2).setCell ⟨W4.heap.size, 3, none⟩ z3)).cell? ⟨p, 2, none⟩ = some (.slice A0 n0 n0) ∧ (((((wa.setCell ⟨W4.heap.size, 0, none⟩ z0).setCell ⟨W4.heap.size, 1, none⟩ z1).setCell ⟨W4.heap.size, 2, none⟩ z2).setCell ⟨W4.heap.size, 3, none⟩ z3)).cell? ⟨p, 3, none⟩ = some (.slice B0 m0 m0) ∧ (((((wa.setCell ⟨W4.heap.size, 0, none⟩ z0).setCell ⟨W4.heap.size, 1, none⟩ z1).setCell ⟨W4.heap.size, 2, none⟩ z2).setCell ⟨W4.heap.size, 3, none⟩ z3)).cell? ⟨b15, 0, none⟩ = some (.int .i64 x) ∧ (((((wa.setCell ⟨W4.heap.size, 0, none⟩ z0).setCell ⟨W4.heap.size, 1, none⟩ z1).setCell ⟨W4.heap.size, 2, none⟩ z2).setCell ⟨W4.heap.size, 3, none⟩ z3)).cell? ⟨b15, 1, none⟩ = some (.int .i64 y)) := Lib.hid fun z0 z1 z2 z3 => ⟨(hpw.far4 t12 0 1 2 3 z0 z1 z2 z3).1.at rfl, (hpw.far4 t12 0 1 2 3 z0 z1 z2 z3).1.at rfl, (hpw.far4 t12 0 1 2 3 z0 z1 z2 z3).1.at rfl, (hpw.far4 t12 0 1 2 3 z0 z1 z2 z3).1.at rfl, (q11.far4 (OW_ne q11 t12 (by decide)) 0 1 2 3 z0 z1 z2 z3).at rfl, (q11.far4 (OW_ne q11 t12 (by decide)) 0 1 2 3 z0 z1 z2 z3).at rfl⟩; clear hw)
                           | (have hpw := (HM4.out.drew).keep hw; have q11 := (HQ15.out.drew).keep hw; have hap := (HM4.out.drew).new0 fr1.1 fr1.2
                              have hgw := (HG4.out.trans (grown_of (Below.drew (Below.refl _ W4)) (some p))).trans (grown_of hw (some p)); have KW : Hid ((wa).cell? ⟨p, 0, none⟩ = some (.int .i64 h0) ∧ (wa).cell? ⟨p, 1, none⟩ = some (.int .i64 nx0) ∧ (wa).cell? ⟨p, 2, none⟩ = some (.slice A0 n0 n0) ∧ (wa).cell? ⟨p, 3, none⟩ = some (.slice B0 m0 m0) ∧ (wa).cell? ⟨b15, 0, none⟩ = some (.int .i64 x) ∧ (wa).cell? ⟨b15, 1, none⟩ = some (.int .i64 y)) := Lib.hid ⟨hpw.1.at rfl, hpw.1.at rfl, hpw.1.at rfl, hpw.1.at rfl, q11.at rfl, q11.at rfl⟩; have KA : Hid (∀ o, (wa.alloc o).cell? ⟨p, 0, none⟩ = some (.int .i64 h0) ∧ (wa.alloc o).cell? ⟨p, 1, none⟩ = some (.int .i64 nx0) ∧ (wa.alloc o).cell? ⟨p, 2, none⟩ = some (.slice A0 n0 n0) ∧ (wa.alloc o).cell? ⟨p, 3, none⟩ = some (.slice B0 m0 m0) ∧ (wa.alloc o).cell? ⟨b15, 0, none⟩ = some (.int .i64 x) ∧ (wa.alloc o).cell? ⟨b15, 1, none⟩ = some (.int .i64 y)) := Lib.hid fun o => ⟨(hpw.keep (bel_a wa o)).1.at rfl, (hpw.keep (bel_a wa o)).1.at rfl, (hpw.keep (bel_a wa o)).1.at rfl, (hpw.keep (bel_a wa o)).1.at rfl, (q11.alloc o).at rfl, (q11.alloc o).at rfl⟩; clear hw)))
                    all_goals ((try go_wp2_with fail); go_meet)
                    all_goals (first
                      | exact ⟨_, _, _, _, _, rfl, rfl, t12.set4 _ _ _ _, sc1.far4 t12 (by decide) (by decide) 0 1 2 3 _ _ _ _, hap, hpw.far4 t12 0 1 2 3 _ _ _ _, grown_new4 hgw (b := W4.heap.size) HG4.out.size 0 1 2 3 _ _ _ _⟩
                      | exact ⟨_, _, _, _, _, rfl, rfl, OW.new wa _ _, sc1.keep (bel_a wa _), hap, hpw.keep (bel_a wa _), hgw.trans (grown_of (bel_a wa _) (some p))⟩)
                  case rest =>
                    clear c0 c1 c2 c3 c4 c5 c6 c7 c8 c9 c10 c11 y0 y1 HM4 HQ15 HG4 HSVa HSVb lp4 l15
                    obtain ⟨A2, n2, B2, m2, b18, rfl, rfl, q18, sc5, ap5, hp5, hgr5⟩ := hcut
                    have HM5 := Lib.hid hp5
                    have HG5 := Lib.hid hgr5
                    have HSC5 := Lib.hid sc5
                    have HAP5 := Lib.hid ap5
                    have np7 : b18 ≠ p := OW_ne hp5.1 q18 (by decide)
                    obtain ⟨c0, c1, c2, c3, c4, c5, c6, c7, c8, c9, c10, c11⟩ := cell12 hp5.1
                    obtain ⟨y0, y1, y2, y3⟩ := cell4 q18
                    have z0 := hp5.1.thaw 0
                    have z1 := hp5.1.thaw 1
                    have z2 := hp5.1.thaw 2
                    have z3 := hp5.1.thaw 3
                    have v1 : ¬ b18 = p := np7
                    have v2 : ¬ p = b18 := fun e => np7 e.symm
                    clear q18 sc5 ap5 hp5 hgr5
                    obtain ⟨wF, hwF⟩ : ∃ wF, ((((wc.setCell ⟨p, 0, none⟩ (.int .i64 h0)).setCell ⟨p, 1, none⟩ (.int .i64 nx0)).setCell ⟨p, 2, none⟩ (.slice A2 n2 n2)).setCell ⟨p, 3, none⟩ (.slice B2 m2 m2)).drew = wF := ⟨_, rfl⟩
                    have FP : Hid (PR0 wF p (x0' + y0') k OS (kk + 1)) := Lib.hid ⟨h0, nx0, A2, n2, B2, m2, h', nx1, A', n', B', m', s0, s1, k0, k1, R, I0, Z0, K0, O1, I', Z1, K1, hwF ▸ (HM5.out.share0 HSC5.out HAP5.out).drew, HGF.out, HER.out.symm⟩
                    have FG : Hid (W0.grownBy wF (some p)) := Lib.hid (hwF ▸ grown_drew (grown_set4 HG5.out 0 1 2 3 (.int .i64 h0) (.int .i64 nx0) (.slice A2 n2 n2) (.slice B2 m2 m2)))
                    have HWF := Lib.hid hwF
                    clear hwF
                    rcases HE.out with rfl | rfl
                    all_goals
                      go_upto_region 25 with (fail)
                      go_region_law (fail)
                      all_goals (go_wp2_with fail)
                      all_goals (rw [HWF.out]; go_roundw; (case rel => exact ⟨_, _, _, _, _, _, .int .i64 ((kk + 1 : Nat) : Int), ⟨kk + 1, by omega, rfl, FP.out, FG.out⟩, rfl, rfl, rfl, rfl, rfl, rfl, by go_num⟩); (case measure => simp [intOf] <;> omega))
            · obtain rfl : kk = NS := by omega
              have HPE : Hid (PE wr p (x0' + y0') k 1) := Lib.hid ⟨h0, nx0, A0, n0, B0, m0, h1, nx1, A1, n1, B1, m1, s0, s1, k0, k1, O0, I0, Z0, K0, O1, I1, Z1, K1, hpm, hg, fun _ => by rw [hO, ← HLS.out]; exact List.drop_length .., fun e => by omega⟩
              have HBE : Hid (Below w.heap.size w wr) := Lib.hid (HBW.out.grown HGR.out HBW.out.size (fun g e => by cases e; exact hpw))
              clear hpm hg hO
              go_wp2_with fail
              go_roundw
              case rel => exact ⟨1, by omega, by go_num, HPE.out, HBE.out⟩
              case measure => simp [intOf]
        · obtain ⟨h0, nx0, A0, n0, B0, m0, h1, nx1, A1, n1, B1, m1, s0, s1, k0, k1, O0, I0, Z0, K0, O1, I1, Z1, K1, hpm, hg, hO0, _⟩ := hpe
          have HO0 := Lib.hid (hO0 (by omega))
          clear hO0
          have HPS := Lib.hid hpm
          have HGS := Lib.hid hg
          obtain ⟨OS, eOS⟩ : ∃ OS, O1 = OS := ⟨_, rfl⟩
          obtain ⟨NS, eNS⟩ : ∃ NS, n1 = NS := ⟨_, rfl⟩
          obtain ⟨AS, eAS⟩ : ∃ AS, A1 = AS := ⟨_, rfl⟩
          have HRS : Hid (RL wr AS (cT OS)) := Lib.hid (by rw [← eAS, ← eOS]; exact hpm.2.2.1.rt.1.rl)
          have HSEP : Hid (∀ g o, AS = some ⟨g, o, none⟩ → g ≠ p) := Lib.hid (by
            rw [← eAS]
            intro g o e
            rcases hpm.2.2.1.rt.1 with ⟨h', _⟩ | ⟨g', h', h''⟩
            · rw [h'] at e; cases e
            · rw [h'] at e; cases e; exact (OW_ne hpm.1 h'' (by decide)))
          have HLS : Hid (OS.length = NS) := Lib.hid (by rw [← eOS, ← eNS]; exact hpm.2.2.1.lens.1)
          have hNS : NS ≤ 64 := by have := (vS_iff.1 hg.2.1).2.1.1; have := HLS.out; rw [eOS] at *; omega
          have cO : wr.cell? ⟨p, 6, none⟩ = some (.slice AS NS NS) := by rw [← eAS, ← eNS]; exact hpm.1.at rfl
          have hlp := hpm.1.lt
          have HEO := Lib.hid eOS
          clear hpm hg eOS eNS eAS
          go_wp2_with fail
          clear cO
          obtain ⟨W0, eW0⟩ : ∃ W0, wr = W0 := ⟨_, rfl⟩
          rw [eW0] at HRS HPS HBW hlp ⊢
          clear eW0
          go_loopw [58] (fun t w2 => ∃ kk : Nat, kk ≤ NS ∧ t = .int .i64 kk ∧ (PR1 w2 p (x0' + y0') k OS kk) ∧ W0.grownBy w2 (some p)) (fun t _ => NS - (intOf t).toNat)
          case atStart => exact ⟨0, Nat.zero_le _, rfl, ⟨h0, nx0, A0, n0, B0, m0, h1, nx1, A1, n1, B1, m1, s0, s1, k0, k1, O0, I0, Z0, K0, O1, I1, Z1, K1, HPS.out, HGS.out, by rw [List.drop_zero]; exact HEO.out, HO0.out⟩, World.grownBy.rfl_ W0 _⟩
          case round =>
            clear HPS HGS HEO HO0
            obtain ⟨kk, hkk, rfl, ⟨h0, nx0, A0, n0, B0, m0, h1, nx1, A1, n1, B1, m1, s0, s1, k0, k1, O0, I0, Z0, K0, O1, I1, Z1, K1, hpm, hg, hO, hO0⟩, hgr⟩ := hrel
            have HGR := Lib.hid hgr
            clear hgr
            by_cases hlt : kk < NS
            · obtain ⟨bb, oo, rfl, hbb, x0, x1⟩ := (HRS.out.grown HGR.out HSEP.out).t (i := kk) (by have := HLS.out; omega)
              have j0 : (0 : Int) ≤ (kk : Int) := by omega
              have j1 : (kk : Int) < (NS : Int) := by omega
              obtain ⟨x, y, hxy⟩ : ∃ x y, at2 OS kk = (x, y) := ⟨_, _, rfl⟩
              rw [hxy] at x0 x1
              obtain ⟨R, eR⟩ : ∃ R, OS.drop (kk + 1) = R := ⟨_, rfl⟩
              have hcons : OS.drop kk = (x, y) :: R := by
                rw [List.drop_eq_getElem_cons (by have := HLS.out; omega), eR, ← at2_el (by have := HLS.out; omega), hxy]
              rw [hcons] at hO
              subst hO
              have HER := Lib.hid eR
              have D := Lib.hid (drain1 hg (by omega) (by omega))
              have HM := Lib.hid hpm
              have HO0 := Lib.hid hO0
              clear hxy hcons hg hpm eR hO0
              go_upto_region 19 with (fail)
              clear x0 x1
              have HM2 := Lib.hid (HM.out.keep (bel_a wr (.cells #[.int .i64 x, .int .i64 y] 27)))
              have Q15 := Lib.hid (OW.new wr 27 [.int .i64 x, .int .i64 y])
              have HG2 := Lib.hid (HGR.out.trans (grown_of (bel_a wr (.cells #[.int .i64 x, .int .i64 y] 27)) (some p)))
              obtain ⟨W2, eW⟩ : ∃ W, wr.alloc (.cells #[.int .i64 x, .int .i64 y] 27) = W := ⟨_, rfl⟩
              rw [eW] at HM2 Q15 HG2 ⊢
              obtain ⟨b15, eB⟩ : ∃ b, wr.heap.size = b := ⟨_, rfl⟩
              rw [eB] at Q15 ⊢
              clear eW eB HM HGR
              obtain ⟨c0, c1, c2, c3, c4, c5, c6, c7, c8, c9, c10, c11⟩ := cell12 HM2.out.1
              obtain ⟨y0, y1⟩ := cell2 Q15.out
              have l15 := Q15.out.lt
              have lp := HM2.out.1.lt
              have HSVa : Hid (SV W2.drew (.agg #[.int .i64 h0, .int .i64 nx0, .slice A0 n0 n0, .slice B0 m0 m0]) h0 nx0 O0 I0) := Lib.hid HM2.out.2.1.sv
              have HSVb : Hid (SV (W2.alloc (.cells #[.int .i64 0, .int .i64 0, .slice none 0 0, .slice none 0 0] 25)).drew (.agg #[.int .i64 h0, .int .i64 nx0, .slice A0 n0 n0, .slice B0 m0 m0]) h0 nx0 O0 I0) := Lib.hid (HM2.out.keep (bel_a W2 (.cells #[.int .i64 0, .int .i64 0, .slice none 0 0, .slice none 0 0] 25))).2.1.sv
              have HD2 : Hid (rE h0 nx0 O0 I0 x y = 0 ∨ rE h0 nx0 O0 I0 x y = 5) := Lib.hid (D.out.2.2.elim (fun q => .inl q.1) (fun q => .inr q.1))
              go_cut [16, 17] (fun v16 v17 wx => ∃ h' nx' A' n' B' m' er O' I' b16, v16 = .pointer (some ⟨b16, 0, none⟩) ∧ v17 = .int .i64 er ∧ OW wx b16 25 [.int .i64 h', .int .i64 nx', .slice A' n' n', .slice B' m' m'] ∧ SC wx h' nx' A' n' B' m' O' I' ∧ Ap s0.ownBlock s1.ownBlock k0.ownBlock k1.ownBlock (adr A') (adr A1) (adr B') (adr B1) ∧ (er = 0 ∧ rE h0 nx0 O0 I0 x y = 0 ∧ h' = h0 + y ∧ nx' = nx0 ∧ O' = O0 ∧ I' = insO x I0 ∨ er = 5 ∧ rE h0 nx0 O0 I0 x y = 5) ∧ PM wx p h0 nx0 A0 n0 B0 m0 h1 nx1 A1 n1 B1 m1 s0 s1 k0 k1 O0 I0 Z0 K0 ((x, y) :: R) I1 Z1 K1 ∧ OW wx b15 27 [.int .i64 x, .int .i64 y] ∧ W0.grownBy wx (some p))
              case first =>
                have K0 : Hid ( W2.drew.cell? ⟨p, 0, none⟩ = some (.int .i64 h0) ∧ W2.drew.cell? ⟨p, 1, none⟩ = some (.int .i64 nx0) ∧ W2.drew.cell? ⟨p, 2, none⟩ = some (.slice A0 n0 n0) ∧ W2.drew.cell? ⟨p, 3, none⟩ = some (.slice B0 m0 m0) ∧ W2.drew.cell? ⟨b15, 0, none⟩ = some (.int .i64 x) ∧ W2.drew.cell? ⟨b15, 1, none⟩ = some (.int .i64 y)) := Lib.hid ⟨HM2.out.1.at rfl, HM2.out.1.at rfl, HM2.out.1.at rfl, HM2.out.1.at rfl, Q15.out.at rfl, Q15.out.at rfl⟩
                have K1 : Hid ( ((W2.alloc (.cells #[.int .i64 0, .int .i64 0, .slice none 0 0, .slice none 0 0] 25)).drew).cell? ⟨p, 0, none⟩ = some (.int .i64 h0) ∧ ((W2.alloc (.cells #[.int .i64 0, .int .i64 0, .slice none 0 0, .slice none 0 0] 25)).drew).cell? ⟨p, 1, none⟩ = some (.int .i64 nx0) ∧ ((W2.alloc (.cells #[.int .i64 0, .int .i64 0, .slice none 0 0, .slice none 0 0] 25)).drew).cell? ⟨p, 2, none⟩ = some (.slice A0 n0 n0) ∧ ((W2.alloc (.cells #[.int .i64 0, .int .i64 0, .slice none 0 0, .slice none 0 0] 25)).drew).cell? ⟨p, 3, none⟩ = some (.slice B0 m0 m0) ∧ ((W2.alloc (.cells #[.int .i64 0, .int .i64 0, .slice none 0 0, .slice none 0 0] 25)).drew).cell? ⟨b15, 0, none⟩ = some (.int .i64 x) ∧ ((W2.alloc (.cells #[.int .i64 0, .int .i64 0, .slice none 0 0, .slice none 0 0] 25)).drew).cell? ⟨b15, 1, none⟩ = some (.int .i64 y)) := Lib.hid ⟨(HM2.out.keep (bel_a W2 (.cells #[.int .i64 0, .int .i64 0, .slice none 0 0, .slice none 0 0] 25))).1.at rfl, (HM2.out.keep (bel_a W2 (.cells #[.int .i64 0, .int .i64 0, .slice none 0 0, .slice none 0 0] 25))).1.at rfl, (HM2.out.keep (bel_a W2 (.cells #[.int .i64 0, .int .i64 0, .slice none 0 0, .slice none 0 0] 25))).1.at rfl, (HM2.out.keep (bel_a W2 (.cells #[.int .i64 0, .int .i64 0, .slice none 0 0, .slice none 0 0] 25))).1.at rfl, (Q15.out.alloc (.cells #[.int .i64 0, .int .i64 0, .slice none 0 0, .slice none 0 0] 25)).at rfl, (Q15.out.alloc (.cells #[.int .i64 0, .int .i64 0, .slice none 0 0, .slice none 0 0] 25)).at rfl⟩
                go_region_held3 (fun w' => w'.cell? ⟨p, 0, none⟩ = some (.int .i64 h0) ∧ w'.cell? ⟨p, 1, none⟩ = some (.int .i64 nx0) ∧ w'.cell? ⟨p, 2, none⟩ = some (.slice A0 n0 n0) ∧ w'.cell? ⟨p, 3, none⟩ = some (.slice B0 m0 m0) ∧ w'.cell? ⟨b15, 0, none⟩ = some (.int .i64 x) ∧ w'.cell? ⟨b15, 1, none⟩ = some (.int .i64 y))
                  (first | with_reducible exact K0.out | with_reducible exact K1.out | with_reducible exact KW.out | with_reducible exact KA.out _ | with_reducible exact KF.out _ _ _ _)
                  (first
                  | (go_at_call 13; refine (recv_05 _ h0 nx0 O0 I0 x y _ (by first | exact HSVa.out | exact HSVb.out) HD2.out).mono ?_; rintro e wa ⟨h', nx', A', n', B', m', er, O', I', rfl, sc1, fr1, hcs, hw⟩
                     first
                       | (have t12 : OW wa W2.heap.size 25 [.int .i64 0, .int .i64 0, .slice none 0 0, .slice none 0 0] := ((OW.new W2 25 [.int .i64 0, .int .i64 0, .slice none 0 0, .slice none 0 0]).drew).keep hw
                          obtain ⟨t0, t1, t2, t3⟩ := cell4 t12; have u0 := t12.thaw 0; have u1 := t12.thaw 1; have u2 := t12.thaw 2; have u3 := t12.thaw 3
                          have hpw := ((HM2.out.keep (bel_a W2 (.cells #[.int .i64 0, .int .i64 0, .slice none 0 0, .slice none 0 0] 25))).drew).keep hw; have q11 := ((Q15.out.alloc (.cells #[.int .i64 0, .int .i64 0, .slice none 0 0, .slice none 0 0] 25)).drew).keep hw; have hap := ((HM2.out.keep (bel_a W2 (.cells #[.int .i64 0, .int .i64 0, .slice none 0 0, .slice none 0 0] 25))).drew).new0 fr1.1 fr1.2
                          have hgw := (HG2.out.trans (grown_of (Below.drew (bel_a W2 (.cells #[.int .i64 0, .int .i64 0, .slice none 0 0, .slice none 0 0] 25))) (some p))).trans (grown_of hw (some p)); have KW : Hid ((wa).cell? ⟨p, 0, none⟩ = some (.int .i64 h0) ∧ (wa).cell? ⟨p, 1, none⟩ = some (.int .i64 nx0) ∧ (wa).cell? ⟨p, 2, none⟩ = some (.slice A0 n0 n0) ∧ (wa).cell? ⟨p, 3, none⟩ = some (.slice B0 m0 m0) ∧ (wa).cell? ⟨b15, 0, none⟩ = some (.int .i64 x) ∧ (wa).cell? ⟨b15, 1, none⟩ = some (.int .i64 y)) := Lib.hid ⟨hpw.1.at rfl, hpw.1.at rfl, hpw.1.at rfl, hpw.1.at rfl, q11.at rfl, q11.at rfl⟩; have KF : Hid (∀ z0 z1 z2 z3, (((((wa.setCell ⟨W2.heap.size, 0, none⟩ z0).setCell ⟨W2.heap.size, 1, none⟩ z1).setCell ⟨W2.heap.size, 2, none⟩ z2).setCell ⟨W2.heap.size, 3, none⟩ z3)).cell? ⟨p, 0, none⟩ = some (.int .i64 h0) ∧ (((((wa.setCell ⟨W2.heap.size, 0, none⟩ z0).setCell ⟨W2.heap.size, 1, none⟩ z1).setCell ⟨W2.heap.size, 2, none⟩ z2).setCell ⟨W2.heap.size, 3, none⟩ z3)).cell? ⟨p, 1, none⟩ = some (.int .i64 nx0) ∧ (((((wa.setCell ⟨W2.heap.size, 0, none⟩ z0).setCell ⟨W2.heap.size, 1, none⟩ z1).setCell ⟨W2.heap.size, 2, none⟩ z2).setCell ⟨W2.heap.size, 3, none⟩ z3)).cell? ⟨p, 2, none⟩ = some (.slice A0 n0 n0) ∧ (((((wa.setCell ⟨W2.heap.size, 0, none⟩ z0).setCell ⟨W2.heap.size, 1, none⟩ z1).setCell ⟨W2.heap.size, 2, none⟩ z2).setCell ⟨W2.heap.size, 3, none⟩ z3)).cell? ⟨p, 3, none⟩ = some (.slice B0 m0 m0) ∧ (((((wa.setCell ⟨W2.heap.size, 0, none⟩ z0).setCell ⟨W2.heap.size, 1, none⟩ z1).setCell ⟨W2.heap.size, 2, none⟩ z2).setCell ⟨W2.heap.size, 3, none⟩ z3)).cell? ⟨b15, 0, none⟩ = some (.int .i64 x) ∧ (((((wa.setCell ⟨W2.heap.size, 0, none⟩ z0).setCell ⟨W2.heap.size, 1, none⟩ z1).setCell ⟨W2.heap.size, 2, none⟩ z2).setCell ⟨W2.heap.size, 3, none⟩ z3)).cell? ⟨b15, 1, none⟩ = some (.int .i64 y)) := Lib.hid fun z0 z1 z2 z3 => ⟨(hpw.far4 t12 0 1 2 3 z0 z1 z2 z3).1.at rfl, (hpw.far4 t12 0 1 2 3 z0 z1 z2 z3).1.at rfl, (hpw.far4 t12 0 1 2 3 z0 z1 z2 z3).1.at rfl, (hpw.far4 t12 0 1 2 3 z0 z1 z2 z3).1.at rfl, (q11.far4 (OW_ne q11 t12 (by decide)) 0 1 2 3 z0 z1 z2 z3).at rfl, (q11.far4 (OW_ne q11 t12 (by decide)) 0 1 2 3 z0 z1 z2 z3).at rfl⟩; clear hw)
                       | (have hpw := (HM2.out.drew).keep hw; have q11 := (Q15.out.drew).keep hw; have hap := (HM2.out.drew).new0 fr1.1 fr1.2
                          have hgw := (HG2.out.trans (grown_of (Below.drew (Below.refl _ W2)) (some p))).trans (grown_of hw (some p)); have KW : Hid ((wa).cell? ⟨p, 0, none⟩ = some (.int .i64 h0) ∧ (wa).cell? ⟨p, 1, none⟩ = some (.int .i64 nx0) ∧ (wa).cell? ⟨p, 2, none⟩ = some (.slice A0 n0 n0) ∧ (wa).cell? ⟨p, 3, none⟩ = some (.slice B0 m0 m0) ∧ (wa).cell? ⟨b15, 0, none⟩ = some (.int .i64 x) ∧ (wa).cell? ⟨b15, 1, none⟩ = some (.int .i64 y)) := Lib.hid ⟨hpw.1.at rfl, hpw.1.at rfl, hpw.1.at rfl, hpw.1.at rfl, q11.at rfl, q11.at rfl⟩; have KA : Hid (∀ o, (wa.alloc o).cell? ⟨p, 0, none⟩ = some (.int .i64 h0) ∧ (wa.alloc o).cell? ⟨p, 1, none⟩ = some (.int .i64 nx0) ∧ (wa.alloc o).cell? ⟨p, 2, none⟩ = some (.slice A0 n0 n0) ∧ (wa.alloc o).cell? ⟨p, 3, none⟩ = some (.slice B0 m0 m0) ∧ (wa.alloc o).cell? ⟨b15, 0, none⟩ = some (.int .i64 x) ∧ (wa.alloc o).cell? ⟨b15, 1, none⟩ = some (.int .i64 y)) := Lib.hid fun o => ⟨(hpw.keep (bel_a wa o)).1.at rfl, (hpw.keep (bel_a wa o)).1.at rfl, (hpw.keep (bel_a wa o)).1.at rfl, (hpw.keep (bel_a wa o)).1.at rfl, (q11.alloc o).at rfl, (q11.alloc o).at rfl⟩; clear hw)))
                all_goals ((try go_wp2_with fail); go_meet)
                all_goals (first
                  | exact ⟨_, _, _, _, _, _, _, _, _, _, rfl, rfl, t12.set4 _ _ _ _, sc1.far4 t12 (by decide) (by decide) 0 1 2 3 _ _ _ _, hap, hcs, hpw.far4 t12 0 1 2 3 _ _ _ _, q11.far4 (OW_ne q11 t12 (by decide)) 0 1 2 3 _ _ _ _, grown_new4 hgw (b := W2.heap.size) HG2.out.size 0 1 2 3 _ _ _ _⟩
                  | exact ⟨_, _, _, _, _, _, _, _, _, _, rfl, rfl, OW.new wa _ _, sc1.keep (bel_a wa _), hap, hcs, hpw.keep (bel_a wa _), q11.alloc _, hgw.trans (grown_of (bel_a wa _) (some p))⟩)
              case rest =>
                obtain ⟨h', nx', A', n', B', m', er, O', I', b16, rfl, rfl, q16, sc3, ap3, hcs, hp3, q15, hgr3⟩ := hcut
                have HM3 := Lib.hid hp3
                have HG3 := Lib.hid hgr3
                have HQ15 := Lib.hid q15
                have HSC3 := Lib.hid sc3
                have HAP3 := Lib.hid ap3
                have HQ16 := Lib.hid q16
                have HCS := Lib.hid hcs
                clear c0 c1 c2 c3 c4 c5 c6 c7 c8 c9 c10 c11 y0 y1 HM2 Q15 HG2 HSVa HSVb l15 lp q16 sc3 ap3 hcs hp3 q15 hgr3 HD2
                go_upto_if 75 with (fail)
                go_cut [] (fun wx => ∃ h' A' n' B' m' I', PM wx p h' nx0 A' n' B' m' h1 nx1 A1 n1 B1 m1 s0 s1 k0 k1 O0 I' Z0 K0 ((x, y) :: R) I1 Z1 K1 ∧ Good (x0' + y0') k h' nx0 O0 I' Z0 K0 h1 nx1 R I1 Z1 K1 ∧ OW wx b15 27 [.int .i64 x, .int .i64 y] ∧ W0.grownBy wx (some p) ∧ (er = 0 ∨ er = 5))
                case first =>
                  have np7 : b16 ≠ p := OW_ne HM3.out.1 HQ16.out (by decide)
                  have np8 : p ≠ b15 := OW_ne HQ15.out HM3.out.1 (by decide)
                  obtain ⟨c0, c1, c2, c3, c4, c5, c6, c7, c8, c9, c10, c11⟩ := cell12 HM3.out.1
                  obtain ⟨y0, y1, y2, y3⟩ := cell4 HQ16.out
                  have z0 := HM3.out.1.thaw 0
                  have z1 := HM3.out.1.thaw 1
                  have z2 := HM3.out.1.thaw 2
                  have z3 := HM3.out.1.thaw 3
                  have v1 : ¬ b16 = p := np7
                  have v2 : ¬ p = b16 := fun e => np7 e.symm
                  rcases HCS.out with ⟨rfl, hre, q1, q2, q3, q4⟩ | ⟨rfl, hre⟩
                  · obtain rfl := q1.symm
                    obtain rfl := q2.symm
                    obtain rfl := q3.symm
                    obtain rfl := q4.symm
                    have HGF : Hid (Good (x0' + y0') k (h0 + y) nx0 O0 (insO x I0) Z0 K0 h1 nx1 R I1 Z1 K1) := Lib.hid (D.out.2.2.elim (fun q => q.2) (fun q => by have := q.1; rw [hre] at this; cases this))
                    clear hre
                    obtain ⟨wF, hwF⟩ : ∃ wF, ((((wc.setCell ⟨p, 0, none⟩ (.int .i64 (h0 + y))).setCell ⟨p, 1, none⟩ (.int .i64 nx0)).setCell ⟨p, 2, none⟩ (.slice A' n' n')).setCell ⟨p, 3, none⟩ (.slice B' m' m')).drew = wF := ⟨_, rfl⟩
                    have FP : Hid (PM wF p (h0 + y) nx0 A' n' B' m' h1 nx1 A1 n1 B1 m1 s0 s1 k0 k1 O0 (insO x I0) Z0 K0 ((x, y) :: R) I1 Z1 K1) := Lib.hid (hwF ▸ (HM3.out.share0 HSC3.out HAP3.out).drew)
                    have FQ : Hid (OW wF b15 27 [.int .i64 x, .int .i64 y]) := Lib.hid (hwF ▸ (HQ15.out.far4 np8 0 1 2 3 (.int .i64 (h0 + y)) (.int .i64 nx0) (.slice A' n' n') (.slice B' m' m')).drew)
                    have FG : Hid (W0.grownBy wF (some p)) := Lib.hid (hwF ▸ grown_drew (grown_set4 HG3.out 0 1 2 3 (.int .i64 (h0 + y)) (.int .i64 nx0) (.slice A' n' n') (.slice B' m' m')))
                    have HWF := Lib.hid hwF
                    clear hwF
                    go_upto_region 21 with (fail)
                    go_region_law (fail)
                    all_goals ((try go_wp2_with fail); rw [HWF.out]; go_meet)
                    all_goals (exact ⟨_, _, _, _, _, _, FP.out, HGF.out, FQ.out, FG.out, by simp⟩)
                  · have HGF : Hid (Good (x0' + y0') k h0 nx0 O0 I0 Z0 K0 h1 nx1 R I1 Z1 K1) := Lib.hid (D.out.2.2.elim (fun q => by have := q.1; rw [hre] at this; cases this) (fun q => q.2))
                    clear hre
                    (try go_wp2_with fail)
                    go_meet
                    exact ⟨_, _, _, _, _, _, HM3.out, HGF.out, HQ15.out, HG3.out, by simp⟩
                case rest =>
                  clear HM3 HG3 HQ15 HSC3 HAP3 HQ16 HCS
                  obtain ⟨h', A', n', B', m', I', hp4, hg4, q15, hgr4, her⟩ := hcut
                  have HM4 := Lib.hid hp4
                  have HGF := Lib.hid hg4
                  have HQ15 := Lib.hid q15
                  have HG4 := Lib.hid hgr4
                  have HE := Lib.hid her
                  clear her
                  obtain ⟨c0, c1, c2, c3, c4, c5, c6, c7, c8, c9, c10, c11⟩ := cell12 hp4.1
                  obtain ⟨y0, y1⟩ := cell2 q15
                  have lp4 := hp4.1.lt
                  have l15 := q15.lt
                  obtain ⟨W4, eW4⟩ : ∃ W4, wc = W4 := ⟨_, rfl⟩
                  have HSVa : Hid (SV wc.drew (.agg #[.int .i64 h1, .int .i64 nx1, .slice A1 n1 n1, .slice B1 m1 m1]) h1 nx1 ((x, y) :: R) I1) := Lib.hid hp4.2.2.1.sv
                  have HSVb : Hid (SV (wc.alloc (.cells #[.int .i64 0, .int .i64 0, .slice none 0 0, .slice none 0 0] 25)).drew (.agg #[.int .i64 h1, .int .i64 nx1, .slice A1 n1 n1, .slice B1 m1 m1]) h1 nx1 ((x, y) :: R) I1) := Lib.hid (hp4.keep (bel_a wc (.cells #[.int .i64 0, .int .i64 0, .slice none 0 0, .slice none 0 0] 25))).2.2.1.sv
                  rw [eW4] at HM4 HQ15 HG4 HSVa HSVb c0 c1 c2 c3 c4 c5 c6 c7 c8 c9 c10 c11 y0 y1 lp4 l15 ⊢
                  clear eW4 hp4 hg4 q15 hgr4
                  have HAE : Hid (aE h1 nx1 ((x, y) :: R) I1 x = 0) := Lib.hid D.out.1
                  have HWO : Hid (wo x ((x, y) :: R) = R) := Lib.hid D.out.2.1
                  go_upto_region 22 with (fail)
                  go_cut [18, 19] (fun v18 v19 wx => ∃ A2 n2 B2 m2 b18, v18 = .pointer (some ⟨b18, 0, none⟩) ∧ v19 = .int .i64 0 ∧ OW wx b18 25 [.int .i64 h1, .int .i64 nx1, .slice A2 n2 n2, .slice B2 m2 m2] ∧ SC wx h1 nx1 A2 n2 B2 m2 R I1 ∧ Ap s0.ownBlock s1.ownBlock k0.ownBlock k1.ownBlock (adr A') (adr A2) (adr B') (adr B2) ∧ PM wx p h' nx0 A' n' B' m' h1 nx1 A1 n1 B1 m1 s0 s1 k0 k1 O0 I' Z0 K0 ((x, y) :: R) I1 Z1 K1 ∧ W0.grownBy wx (some p))
                  case first =>
                    have K0 : Hid ( W4.drew.cell? ⟨p, 4, none⟩ = some (.int .i64 h1) ∧ W4.drew.cell? ⟨p, 5, none⟩ = some (.int .i64 nx1) ∧ W4.drew.cell? ⟨p, 6, none⟩ = some (.slice A1 n1 n1) ∧ W4.drew.cell? ⟨p, 7, none⟩ = some (.slice B1 m1 m1) ∧ W4.drew.cell? ⟨b15, 0, none⟩ = some (.int .i64 x) ∧ W4.drew.cell? ⟨b15, 1, none⟩ = some (.int .i64 y)) := Lib.hid ⟨HM4.out.1.at rfl, HM4.out.1.at rfl, HM4.out.1.at rfl, HM4.out.1.at rfl, HQ15.out.at rfl, HQ15.out.at rfl⟩
                    have K1 : Hid ( ((W4.alloc (.cells #[.int .i64 0, .int .i64 0, .slice none 0 0, .slice none 0 0] 25)).drew).cell? ⟨p, 4, none⟩ = some (.int .i64 h1) ∧ ((W4.alloc (.cells #[.int .i64 0, .int .i64 0, .slice none 0 0, .slice none 0 0] 25)).drew).cell? ⟨p, 5, none⟩ = some (.int .i64 nx1) ∧ ((W4.alloc (.cells #[.int .i64 0, .int .i64 0, .slice none 0 0, .slice none 0 0] 25)).drew).cell? ⟨p, 6, none⟩ = some (.slice A1 n1 n1) ∧ ((W4.alloc (.cells #[.int .i64 0, .int .i64 0, .slice none 0 0, .slice none 0 0] 25)).drew).cell? ⟨p, 7, none⟩ = some (.slice B1 m1 m1) ∧ ((W4.alloc (.cells #[.int .i64 0, .int .i64 0, .slice none 0 0, .slice none 0 0] 25)).drew).cell? ⟨b15, 0, none⟩ = some (.int .i64 x) ∧ ((W4.alloc (.cells #[.int .i64 0, .int .i64 0, .slice none 0 0, .slice none 0 0] 25)).drew).cell? ⟨b15, 1, none⟩ = some (.int .i64 y)) := Lib.hid ⟨(HM4.out.keep (bel_a W4 (.cells #[.int .i64 0, .int .i64 0, .slice none 0 0, .slice none 0 0] 25))).1.at rfl, (HM4.out.keep (bel_a W4 (.cells #[.int .i64 0, .int .i64 0, .slice none 0 0, .slice none 0 0] 25))).1.at rfl, (HM4.out.keep (bel_a W4 (.cells #[.int .i64 0, .int .i64 0, .slice none 0 0, .slice none 0 0] 25))).1.at rfl, (HM4.out.keep (bel_a W4 (.cells #[.int .i64 0, .int .i64 0, .slice none 0 0, .slice none 0 0] 25))).1.at rfl, (HQ15.out.alloc (.cells #[.int .i64 0, .int .i64 0, .slice none 0 0, .slice none 0 0] 25)).at rfl, (HQ15.out.alloc (.cells #[.int .i64 0, .int .i64 0, .slice none 0 0, .slice none 0 0] 25)).at rfl⟩
                    go_region_held3 (fun w' => w'.cell? ⟨p, 4, none⟩ = some (.int .i64 h1) ∧ w'.cell? ⟨p, 5, none⟩ = some (.int .i64 nx1) ∧ w'.cell? ⟨p, 6, none⟩ = some (.slice A1 n1 n1) ∧ w'.cell? ⟨p, 7, none⟩ = some (.slice B1 m1 m1) ∧ w'.cell? ⟨b15, 0, none⟩ = some (.int .i64 x) ∧ w'.cell? ⟨b15, 1, none⟩ = some (.int .i64 y))
                      (first | with_reducible exact K0.out | with_reducible exact K1.out | with_reducible exact KW.out | with_reducible exact KA.out _ | with_reducible exact KF.out _ _ _ _)
                      (first
                      | (go_at_call 15; refine (ack_n0 _ h1 nx1 ((x, y) :: R) I1 x _ (by first | exact HSVa.out | exact HSVb.out) HAE.out).mono ?_; rintro e wa ⟨A2, n2, B2, m2, rfl, sc1, fr1, hw⟩
                         rw [HWO.out] at sc1
                         first
                           | (have t12 : OW wa W4.heap.size 25 [.int .i64 0, .int .i64 0, .slice none 0 0, .slice none 0 0] := ((OW.new W4 25 [.int .i64 0, .int .i64 0, .slice none 0 0, .slice none 0 0]).drew).keep hw
                              obtain ⟨t0, t1, t2, t3⟩ := cell4 t12; have u0 := t12.thaw 0; have u1 := t12.thaw 1; have u2 := t12.thaw 2; have u3 := t12.thaw 3
                              have hpw := ((HM4.out.keep (bel_a W4 (.cells #[.int .i64 0, .int .i64 0, .slice none 0 0, .slice none 0 0] 25))).drew).keep hw; have q11 := ((HQ15.out.alloc (.cells #[.int .i64 0, .int .i64 0, .slice none 0 0, .slice none 0 0] 25)).drew).keep hw; have hap := ((HM4.out.keep (bel_a W4 (.cells #[.int .i64 0, .int .i64 0, .slice none 0 0, .slice none 0 0] 25))).drew).new1 fr1.1 fr1.2
                              have hgw := (HG4.out.trans (grown_of (Below.drew (bel_a W4 (.cells #[.int .i64 0, .int .i64 0, .slice none 0 0, .slice none 0 0] 25))) (some p))).trans (grown_of hw (some p)); have KW : Hid ((wa).cell? ⟨p, 4, none⟩ = some (.int .i64 h1) ∧ (wa).cell? ⟨p, 5, none⟩ = some (.int .i64 nx1) ∧ (wa).cell? ⟨p, 6, none⟩ = some (.slice A1 n1 n1) ∧ (wa).cell? ⟨p, 7, none⟩ = some (.slice B1 m1 m1) ∧ (wa).cell? ⟨b15, 0, none⟩ = some (.int .i64 x) ∧ (wa).cell? ⟨b15, 1, none⟩ = some (.int .i64 y)) := Lib.hid ⟨hpw.1.at rfl, hpw.1.at rfl, hpw.1.at rfl, hpw.1.at rfl, q11.at rfl, q11.at rfl⟩; have KF : Hid (∀ z0 z1 z2 z3, (((((wa.setCell ⟨W4.heap.size, 0, none⟩ z0).setCell ⟨W4.heap.size, 1, none⟩ z1).setCell ⟨W4.heap.size, 2, none⟩ z2).setCell ⟨W4.heap.size, 3, none⟩ z3)).cell? ⟨p, 4, none⟩ = some (.int .i64 h1) ∧ (((((wa.setCell ⟨W4.heap.size, 0, none⟩ z0).setCell ⟨W4.heap.size, 1, none⟩ z1).setCell ⟨W4.heap.size, 2, none⟩ z2).setCell ⟨W4.heap.size, 3, none⟩ z3)).cell? ⟨p, 5, none⟩ = some (.int .i64 nx1) ∧ (((((wa.setCell ⟨W4.heap.size, 0, none⟩ z0).setCell ⟨W4.heap.size, 1, none⟩ z1).setCell ⟨W4.heap.size, 2, none⟩ z2).setCell ⟨W4.heap.size, 3, none⟩ z3)).cell? ⟨p, 6, none⟩ = some (.slice A1 n1 n1) ∧ (((((wa.setCell ⟨W4.heap.size, 0, none⟩ z0).setCell ⟨W4.heap.size, 1, none⟩ z1).setCell ⟨W4.heap.size, 2, none⟩ z2).setCell ⟨W4.heap.size, 3, none⟩ z3)).cell? ⟨p, 7, none⟩ = some (.slice B1 m1 m1) ∧ (((((wa.setCell ⟨W4.heap.size, 0, none⟩ z0).setCell ⟨W4.heap.size, 1, none⟩ z1).setCell ⟨W4.heap.size, 2, none⟩ z2).setCell ⟨W4.heap.size, 3, none⟩ z3)).cell? ⟨b15, 0, none⟩ = some (.int .i64 x) ∧ (((((wa.setCell ⟨W4.heap.size, 0, none⟩ z0).setCell ⟨W4.heap.size, 1, none⟩ z1).setCell ⟨W4.heap.size, 2, none⟩ z2).setCell ⟨W4.heap.size, 3, none⟩ z3)).cell? ⟨b15, 1, none⟩ = some (.int .i64 y)) := Lib.hid fun z0 z1 z2 z3 => ⟨(hpw.far4 t12 0 1 2 3 z0 z1 z2 z3).1.at rfl, (hpw.far4 t12 0 1 2 3 z0 z1 z2 z3).1.at rfl, (hpw.far4 t12 0 1 2 3 z0 z1 z2 z3).1.at rfl, (hpw.far4 t12 0 1 2 3 z0 z1 z2 z3).1.at rfl, (q11.far4 (OW_ne q11 t12 (by decide)) 0 1 2 3 z0 z1 z2 z3).at rfl, (q11.far4 (OW_ne q11 t12 (by decide)) 0 1 2 3 z0 z1 z2 z3).at rfl⟩; clear hw)
                           | (have hpw := (HM4.out.drew).keep hw; have q11 := (HQ15.out.drew).keep hw; have hap := (HM4.out.drew).new1 fr1.1 fr1.2
                              have hgw := (HG4.out.trans (grown_of (Below.drew (Below.refl _ W4)) (some p))).trans (grown_of hw (some p)); have KW : Hid ((wa).cell? ⟨p, 4, none⟩ = some (.int .i64 h1) ∧ (wa).cell? ⟨p, 5, none⟩ = some (.int .i64 nx1) ∧ (wa).cell? ⟨p, 6, none⟩ = some (.slice A1 n1 n1) ∧ (wa).cell? ⟨p, 7, none⟩ = some (.slice B1 m1 m1) ∧ (wa).cell? ⟨b15, 0, none⟩ = some (.int .i64 x) ∧ (wa).cell? ⟨b15, 1, none⟩ = some (.int .i64 y)) := Lib.hid ⟨hpw.1.at rfl, hpw.1.at rfl, hpw.1.at rfl, hpw.1.at rfl, q11.at rfl, q11.at rfl⟩; have KA : Hid (∀ o, (wa.alloc o).cell? ⟨p, 4, none⟩ = some (.int .i64 h1) ∧ (wa.alloc o).cell? ⟨p, 5, none⟩ = some (.int .i64 nx1) ∧ (wa.alloc o).cell? ⟨p, 6, none⟩ = some (.slice A1 n1 n1) ∧ (wa.alloc o).cell? ⟨p, 7, none⟩ = some (.slice B1 m1 m1) ∧ (wa.alloc o).cell? ⟨b15, 0, none⟩ = some (.int .i64 x) ∧ (wa.alloc o).cell? ⟨b15, 1, none⟩ = some (.int .i64 y)) := Lib.hid fun o => ⟨(hpw.keep (bel_a wa o)).1.at rfl, (hpw.keep (bel_a wa o)).1.at rfl, (hpw.keep (bel_a wa o)).1.at rfl, (hpw.keep (bel_a wa o)).1.at rfl, (q11.alloc o).at rfl, (q11.alloc o).at rfl⟩; clear hw)))
                    all_goals ((try go_wp2_with fail); go_meet)
                    all_goals (first
                      | exact ⟨_, _, _, _, _, rfl, rfl, t12.set4 _ _ _ _, sc1.far4 t12 (by decide) (by decide) 0 1 2 3 _ _ _ _, hap, hpw.far4 t12 0 1 2 3 _ _ _ _, grown_new4 hgw (b := W4.heap.size) HG4.out.size 0 1 2 3 _ _ _ _⟩
                      | exact ⟨_, _, _, _, _, rfl, rfl, OW.new wa _ _, sc1.keep (bel_a wa _), hap, hpw.keep (bel_a wa _), hgw.trans (grown_of (bel_a wa _) (some p))⟩)
                  case rest =>
                    clear c0 c1 c2 c3 c4 c5 c6 c7 c8 c9 c10 c11 y0 y1 HM4 HQ15 HG4 HSVa HSVb lp4 l15
                    obtain ⟨A2, n2, B2, m2, b18, rfl, rfl, q18, sc5, ap5, hp5, hgr5⟩ := hcut
                    have HM5 := Lib.hid hp5
                    have HG5 := Lib.hid hgr5
                    have HSC5 := Lib.hid sc5
                    have HAP5 := Lib.hid ap5
                    have np7 : b18 ≠ p := OW_ne hp5.1 q18 (by decide)
                    obtain ⟨c0, c1, c2, c3, c4, c5, c6, c7, c8, c9, c10, c11⟩ := cell12 hp5.1
                    obtain ⟨y0, y1, y2, y3⟩ := cell4 q18
                    have z0 := hp5.1.thaw 4
                    have z1 := hp5.1.thaw 5
                    have z2 := hp5.1.thaw 6
                    have z3 := hp5.1.thaw 7
                    have v1 : ¬ b18 = p := np7
                    have v2 : ¬ p = b18 := fun e => np7 e.symm
                    clear q18 sc5 ap5 hp5 hgr5
                    obtain ⟨wF, hwF⟩ : ∃ wF, ((((wc.setCell ⟨p, 4, none⟩ (.int .i64 h1)).setCell ⟨p, 5, none⟩ (.int .i64 nx1)).setCell ⟨p, 6, none⟩ (.slice A2 n2 n2)).setCell ⟨p, 7, none⟩ (.slice B2 m2 m2)).drew = wF := ⟨_, rfl⟩
                    have FP : Hid (PR1 wF p (x0' + y0') k OS (kk + 1)) := Lib.hid ⟨h', nx0, A', n', B', m', h1, nx1, A2, n2, B2, m2, s0, s1, k0, k1, O0, I', Z0, K0, R, I1, Z1, K1, hwF ▸ (HM5.out.share1 HSC5.out HAP5.out).drew, HGF.out, HER.out.symm, HO0.out⟩
                    have FG : Hid (W0.grownBy wF (some p)) := Lib.hid (hwF ▸ grown_drew (grown_set4 HG5.out 4 5 6 7 (.int .i64 h1) (.int .i64 nx1) (.slice A2 n2 n2) (.slice B2 m2 m2)))
                    have HWF := Lib.hid hwF
                    clear hwF
                    rcases HE.out with rfl | rfl
                    all_goals
                      go_upto_region 25 with (fail)
                      go_region_law (fail)
                      all_goals (go_wp2_with fail)
                      all_goals (rw [HWF.out]; go_roundw; (case rel => exact ⟨_, _, _, _, _, _, .int .i64 ((kk + 1 : Nat) : Int), ⟨kk + 1, by omega, rfl, FP.out, FG.out⟩, rfl, rfl, rfl, rfl, rfl, rfl, by go_num⟩); (case measure => simp [intOf] <;> omega))
            · obtain rfl : kk = NS := by omega
              have HPE : Hid (PE wr p (x0' + y0') k 2) := Lib.hid ⟨h0, nx0, A0, n0, B0, m0, h1, nx1, A1, n1, B1, m1, s0, s1, k0, k1, O0, I0, Z0, K0, O1, I1, Z1, K1, hpm, hg, fun _ => hO0, fun _ => by rw [hO, ← HLS.out]; exact List.drop_length ..⟩
              have HBE : Hid (Below w.heap.size w wr) := Lib.hid (HBW.out.grown HGR.out HBW.out.size (fun g e => by cases e; exact hpw))
              clear hpm hg hO hO0
              go_wp2_with fail
              go_roundw
              case rel => exact ⟨2, by omega, by go_num, HPE.out, HBE.out⟩
              case measure => simp [intOf]
        · obtain ⟨h0, nx0, A0, n0, B0, m0, h1, nx1, A1, n1, B1, m1, s0, s1, k0, k1, O0, I0, Z0, K0, O1, I1, Z1, K1, hpm, hg, hO0, hO1⟩ := hpe
          obtain rfl := hO0 (by omega)
          obtain rfl := hO1 (by omega)
          have hsum : h0 + h1 = x0' + y0' := by have := hg.2.2.2.2.1; simp [way] at this; omega
          have l0 := hpm.2.1.lens.1
          have l1 := hpm.2.2.1.lens.1
          obtain rfl : n0 = 0 := by simpa using l0.symm
          obtain rfl : n1 = 0 := by simpa using l1.symm
          have b0 := (vS_iff.1 hg.1).1.1
          have b1 := (vS_iff.1 hg.2.1).1.1
          have heq : (h0 + h1 == x0' + y0') = true := by simpa using hsum
          have wx1 : IntKind.i64.wrap (x0' + y0') = x0' + y0' := IntWalk.i64_in _ (by omega)
          have wx2 : IntKind.i64.wrap (h0 + h1) = h0 + h1 := IntWalk.i64_in _ (by omega)
          obtain ⟨c0, c1, c2, c3, c4, c5, c6, c7, c8, c9, c10, c11⟩ := cell12 hpm.1
          have hlp := hpm.1.lt
          clear hpm hg hO0 hO1 l0 l1 hsum
          go_wp2_with fail
          go_quiet (fail)
          go_wp2_with fail
          go_ret
          exact ⟨rfl, below_drewN HBW.out _⟩

theorem ends_all (a b : Int) (A : Option Addr) (n c : Nat) (l : List (Int × Bool × Int)) (w : World) (ha : 0 ≤ a ∧ a ≤ 65535) (hb : 0 ≤ b ∧ b ≤ 65535) (hl : l.length = n) (hc : n ≤ c ∧ c ≤ 9223372036854775807) (hR : RL w A (cM l)) (hall : ∀ q ∈ l, (0 ≤ q.1 ∧ q.1 ≤ 255) ∧ (0 ≤ q.2.2 ∧ q.2.2 ≤ 255)) :
    Calls Try.prog 7 #[.int .u16 a, .int .u16 b, .slice A n c] w fun e w' => e = .returned (.bool true) ∧ Below w.heap.size w w' := by
  by_cases hn : n ≤ 60
  · exact ends_ok a b _ _ A n c l w ha hb rfl rfl hn hl hR hall
  · exact ends_many a b _ _ A n c w ha hb rfl rfl (by omega) (by omega)
end Go.Proofs.Yteeohndgkfilaaa
