/-
  apply, WHATEVER THE MOVE: one contract; what is kept.
-/
import Derived.Test.YteeohndgkfilaaaApplyb0
import Derived.Test.YteeohndgkfilaaaApplyb1
import Derived.Test.YteeohndgkfilaaaApplyc0
import Derived.Test.YteeohndgkfilaaaApplyc1
namespace Go.Proofs.Yteeohndgkfilaaa
open Go.RowKit
set_option linter.unusedVariables false

/-- what is kept by every move: T amperes in all, after at most N moves -/
def Good (T : Int) (N : Nat) (h0 nx0 : Int) (O0 : List (Int × Int)) (I0 : List Int) (Z0 : List (Int × Int)) (K0 : List Int) (h1 nx1 : Int) (O1 : List (Int × Int)) (I1 : List Int) (Z1 : List (Int × Int)) (K1 : List Int) : Prop :=
  vS h0 nx0 O0 I0 ∧ vS h1 nx1 O1 I1 ∧ Half nx0 O0 Z0 I1 K1 ∧ Half nx1 O1 Z1 I0 K0 ∧ h0 + h1 + way I1 O0 + way I0 O1 = T ∧ Z0.length + Z1.length + K0.length + K1.length ≤ N
/-- the pair in memory, and all that is kept -/
def PG (W : World) (p : Nat) (T : Int) (N : Nat) : Prop := ∃ h0 nx0 A0 n0 B0 m0 h1 nx1 A1 n1 B1 m1 s0 s1 k0 k1 O0 I0 Z0 K0 O1 I1 Z1 K1, PM W p h0 nx0 A0 n0 B0 m0 h1 nx1 A1 n1 B1 m1 s0 s1 k0 k1 O0 I0 Z0 K0 O1 I1 Z1 K1 ∧ Good T N h0 nx0 O0 I0 Z0 K0 h1 nx1 O1 I1 Z1 K1
theorem Good.more {T : Int} {N : Nat} {h0 nx0 : Int} {O0 : List (Int × Int)} {I0 : List Int} {Z0 : List (Int × Int)} {K0 : List Int} {h1 nx1 : Int} {O1 : List (Int × Int)} {I1 : List Int} {Z1 : List (Int × Int)} {K1 : List Int} (h : Good T N h0 nx0 O0 I0 Z0 K0 h1 nx1 O1 I1 Z1 K1) : Good T (N + 1) h0 nx0 O0 I0 Z0 K0 h1 nx1 O1 I1 Z1 K1 := ⟨h.1, h.2.1, h.2.2.1, h.2.2.2.1, h.2.2.2.2.1, by have := h.2.2.2.2.2; omega⟩
theorem Half.mem {nx : Int} {O S : List (Int × Int)} {I K : List Int} (h : Half nx O S I K) {q : Nat} {x y : Int} (hq : q < S.length) (e : at2 S q = (x, y)) : (x, y) ∈ S := mem2_at.2 ⟨q, hq, e⟩
theorem rE_cases {h nx x y : Int} {O : List (Int × Int)} {I : List Int} (e : rE h nx O I x y = 5) : x ∈ I := by
  unfold rE at e
  split at e
  · split at e
    · assumption
    · split at e
      · cases e
      · split at e <;> cases e
  · cases e
theorem aE_cases {h nx x : Int} {O : List (Int × Int)} {I : List Int} (hv : vS h nx O I) : aE h nx O I x = 0 ∨ aE h nx O I x = 4 := by
  unfold aE
  rw [if_pos (vB_iff.2 hv)]
  split
  · exact .inl rfl
  · exact .inr rfl
section
variable {T : Int} {N : Nat} {h0 nx0 : Int} {O0 : List (Int × Int)} {I0 : List Int} {Z0 : List (Int × Int)} {K0 : List Int} {h1 nx1 : Int} {O1 : List (Int × Int)} {I1 : List Int} {Z1 : List (Int × Int)} {K1 : List Int}
theorem Good.send0 {a : Int} (h : Good T N h0 nx0 O0 I0 Z0 K0 h1 nx1 O1 I1 Z1 K1) (e : sE h0 nx0 O0 I0 a = 0) : Good T (N + 1) (h0 - a) (nx0 + 1) (O0 ++ [(nx0, a)]) I0 (Z0 ++ [(nx0, a)]) K0 h1 nx1 O1 I1 Z1 K1 := by
  obtain ⟨g1, g2, g3, g4, g5, g6⟩ := h
  obtain ⟨q1, q2⟩ := g3.send (sE0 e).2.1
  exact ⟨sE_vS e, g2, q1, g4, by rw [q2]; omega, by simp; omega⟩
theorem Good.send1 {a : Int} (h : Good T N h0 nx0 O0 I0 Z0 K0 h1 nx1 O1 I1 Z1 K1) (e : sE h1 nx1 O1 I1 a = 0) : Good T (N + 1) h0 nx0 O0 I0 Z0 K0 (h1 - a) (nx1 + 1) (O1 ++ [(nx1, a)]) I1 (Z1 ++ [(nx1, a)]) K1 := by
  obtain ⟨g1, g2, g3, g4, g5, g6⟩ := h
  obtain ⟨q1, q2⟩ := g4.send (sE0 e).2.1
  exact ⟨g1, sE_vS e, g3, q1, by rw [q2]; omega, by simp; omega⟩
theorem Good.recv0 {x y : Int} (h : Good T N h0 nx0 O0 I0 Z0 K0 h1 nx1 O1 I1 Z1 K1) (hm : (x, y) ∈ Z1) (e : rE h0 nx0 O0 I0 x y = 0) : Good T (N + 1) (h0 + y) nx0 O0 (insO x I0) Z0 (K0 ++ [x]) h1 nx1 O1 I1 Z1 K1 := by
  obtain ⟨g1, g2, g3, g4, g5, g6⟩ := h
  obtain ⟨q1, q2⟩ := g4.recv (vS_iff.1 g2).2.2.2.2.1 hm (rE0 e).2.2.1
  exact ⟨rE_vS e, g2, g3, q1.ack (mem_insO.2 (.inl rfl)), by rw [q2]; omega, by simp; omega⟩
theorem Good.recv1 {x y : Int} (h : Good T N h0 nx0 O0 I0 Z0 K0 h1 nx1 O1 I1 Z1 K1) (hm : (x, y) ∈ Z0) (e : rE h1 nx1 O1 I1 x y = 0) : Good T (N + 1) h0 nx0 O0 I0 Z0 K0 (h1 + y) nx1 O1 (insO x I1) Z1 (K1 ++ [x]) := by
  obtain ⟨g1, g2, g3, g4, g5, g6⟩ := h
  obtain ⟨q1, q2⟩ := g3.recv (vS_iff.1 g1).2.2.2.2.1 hm (rE0 e).2.2.1
  exact ⟨g1, rE_vS e, q1.ack (mem_insO.2 (.inl rfl)), g4, by rw [q2]; omega, by simp; omega⟩
theorem Good.tw0 {x y : Int} (h : Good T N h0 nx0 O0 I0 Z0 K0 h1 nx1 O1 I1 Z1 K1) (e : rE h0 nx0 O0 I0 x y = 5) : Good T (N + 1) h0 nx0 O0 I0 Z0 (K0 ++ [x]) h1 nx1 O1 I1 Z1 K1 := by
  obtain ⟨g1, g2, g3, g4, g5, g6⟩ := h
  exact ⟨g1, g2, g3, g4.ack (rE_cases e), g5, by simp; omega⟩
theorem Good.tw1 {x y : Int} (h : Good T N h0 nx0 O0 I0 Z0 K0 h1 nx1 O1 I1 Z1 K1) (e : rE h1 nx1 O1 I1 x y = 5) : Good T (N + 1) h0 nx0 O0 I0 Z0 K0 h1 nx1 O1 I1 Z1 (K1 ++ [x]) := by
  obtain ⟨g1, g2, g3, g4, g5, g6⟩ := h
  exact ⟨g1, g2, g3.ack (rE_cases e), g4, g5, by simp; omega⟩
theorem Good.ack0 {x : Int} (h : Good T N h0 nx0 O0 I0 Z0 K0 h1 nx1 O1 I1 Z1 K1) (hm : x ∈ K1) : Good T (N + 1) h0 nx0 (wo x O0) I0 Z0 K0 h1 nx1 O1 I1 Z1 K1 := by
  obtain ⟨g1, g2, g3, g4, g5, g6⟩ := h
  obtain ⟨q1, q2⟩ := g3.acked (g3.2.2.2.2.2 x hm)
  exact ⟨vS_ack g1, g2, q1, g4, by rw [q2]; omega, by omega⟩
theorem Good.ack1 {x : Int} (h : Good T N h0 nx0 O0 I0 Z0 K0 h1 nx1 O1 I1 Z1 K1) (hm : x ∈ K0) : Good T (N + 1) h0 nx0 O0 I0 Z0 K0 h1 nx1 (wo x O1) I1 Z1 K1 := by
  obtain ⟨g1, g2, g3, g4, g5, g6⟩ := h
  obtain ⟨q1, q2⟩ := g4.acked (g4.2.2.2.2.2 x hm)
  exact ⟨g1, vS_ack g2, g3, q1, by rw [q2]; omega, by omega⟩
end
theorem pick_mod {k : Int} {n : Nat} (hk : 0 ≤ k) (hn : 0 < n) : ∃ q : Nat, k % (n : Int) = (q : Int) ∧ q < n := by
  have h1 := Int.emod_nonneg k (show (n : Int) ≠ 0 by omega)
  have h2 := Int.emod_lt_of_pos k (show (0 : Int) < n by omega)
  exact ⟨(k % (n : Int)).toNat, by omega, by omega⟩
theorem apply0 (p : Nat) (T : Int) (N : Nat) (d k : Int) (w : World) (hk : 0 ≤ k ∧ k ≤ 255) (hd : 0 ≤ d ∧ d ≤ 255) (hN : N ≤ 300) (hpg : PG w p T N) :
    Calls Try.prog 21 #[.pointer (some ⟨p, 0, none⟩), .agg #[.int .u8 d, .bool false, .int .u8 k]] w fun e w' => e = .returned (.bool true) ∧ PG w' p T (N + 1) ∧ Below p w w' := by
  obtain ⟨h0, nx0, A0, n0, B0, m0, h1, nx1, A1, n1, B1, m1, s0, s1, k0, k1, O0, I0, Z0, K0, O1, I1, Z1, K1, hpm, hg⟩ := hpg
  have hlen := hg.2.2.2.2.2
  have ht : d.tmod 3 = d % 3 := Int.tmod_eq_emod_of_nonneg hd.1
  obtain h3 | h3 | h3 : d.tmod 3 = 0 ∨ d.tmod 3 = 1 ∨ d.tmod 3 = 2 := by omega
  · by_cases hE : sE h0 nx0 O0 I0 (1 + k % 20) = 0
    · refine (ap_send_ok0 p h0 nx0 A0 n0 B0 m0 h1 nx1 A1 n1 B1 m1 s0 s1 k0 k1 O0 I0 Z0 K0 O1 I1 Z1 K1 d k w hk hpm h3 hE (by omega)).mono ?_
      rintro e w' ⟨rfl, ⟨_, _, _, _, _, hpm'⟩, hb⟩
      exact ⟨rfl, ⟨_, _, _, _, _, _, _, _, _, _, _, _, _, _, _, _, _, _, _, _, _, _, _, _, hpm', hg.send0 hE⟩, hb⟩
    · refine (ap_send_no0 p h0 nx0 A0 n0 B0 m0 h1 nx1 A1 n1 B1 m1 s0 s1 k0 k1 O0 I0 Z0 K0 O1 I1 Z1 K1 d k w hk hpm h3 _ rfl hE).mono ?_
      rintro e w' ⟨rfl, hpm', hb⟩
      exact ⟨rfl, ⟨_, _, _, _, _, _, _, _, _, _, _, _, _, _, _, _, _, _, _, _, _, _, _, _, hpm', hg.more⟩, hb⟩
  · by_cases hz : Z1.length = 0
    · refine (ap_recv_none0 p h0 nx0 A0 n0 B0 m0 h1 nx1 A1 n1 B1 m1 s0 s1 k0 k1 O0 I0 Z0 K0 O1 I1 Z1 K1 d k w hk hpm h3 hz).mono ?_
      rintro e w' ⟨rfl, hpm', hb⟩
      exact ⟨rfl, ⟨_, _, _, _, _, _, _, _, _, _, _, _, _, _, _, _, _, _, _, _, _, _, _, _, hpm', hg.more⟩, hb⟩
    · obtain ⟨q, hq, hq2⟩ := pick_mod hk.1 (show 0 < Z1.length by omega)
      obtain ⟨x, y, hxy⟩ : ∃ x y, at2 Z1 q = (x, y) := ⟨_, _, rfl⟩
      have hm : (x, y) ∈ Z1 := mem2_at.2 ⟨q, hq2, hxy⟩
      by_cases hE : rE h0 nx0 O0 I0 x y = 0
      · refine (ap_recv_ok0 p h0 nx0 A0 n0 B0 m0 h1 nx1 A1 n1 B1 m1 s0 s1 k0 k1 O0 I0 Z0 K0 O1 I1 Z1 K1 d k w hk hpm h3 q (by omega) hq x y hxy hE (by omega)).mono ?_
        rintro e w' ⟨rfl, ⟨_, _, _, _, _, hpm'⟩, hb⟩
        exact ⟨rfl, ⟨_, _, _, _, _, _, _, _, _, _, _, _, _, _, _, _, _, _, _, _, _, _, _, _, hpm', hg.recv0 hm hE⟩, hb⟩
      · by_cases h5 : rE h0 nx0 O0 I0 x y = 5
        · refine (ap_recv_tw0 p h0 nx0 A0 n0 B0 m0 h1 nx1 A1 n1 B1 m1 s0 s1 k0 k1 O0 I0 Z0 K0 O1 I1 Z1 K1 d k w hk hpm h3 q (by omega) hq x y hxy h5 (by omega)).mono ?_
          rintro e w' ⟨rfl, ⟨_, hpm'⟩, hb⟩
          exact ⟨rfl, ⟨_, _, _, _, _, _, _, _, _, _, _, _, _, _, _, _, _, _, _, _, _, _, _, _, hpm', hg.tw0 h5⟩, hb⟩
        · refine (ap_recv_no0 p h0 nx0 A0 n0 B0 m0 h1 nx1 A1 n1 B1 m1 s0 s1 k0 k1 O0 I0 Z0 K0 O1 I1 Z1 K1 d k w hk hpm h3 q (by omega) hq x y hxy _ rfl hE h5).mono ?_
          rintro e w' ⟨rfl, hpm', hb⟩
          exact ⟨rfl, ⟨_, _, _, _, _, _, _, _, _, _, _, _, _, _, _, _, _, _, _, _, _, _, _, _, hpm', hg.more⟩, hb⟩
  · by_cases hz : K1.length = 0
    · refine (ap_ack_none0 p h0 nx0 A0 n0 B0 m0 h1 nx1 A1 n1 B1 m1 s0 s1 k0 k1 O0 I0 Z0 K0 O1 I1 Z1 K1 d k w hk hpm h3 hz).mono ?_
      rintro e w' ⟨rfl, hpm', hb⟩
      exact ⟨rfl, ⟨_, _, _, _, _, _, _, _, _, _, _, _, _, _, _, _, _, _, _, _, _, _, _, _, hpm', hg.more⟩, hb⟩
    · obtain ⟨q, hq, hq2⟩ := pick_mod hk.1 (show 0 < K1.length by omega)
      obtain ⟨x, hx⟩ : ∃ x, at1 K1 q = x := ⟨_, rfl⟩
      have hm : x ∈ K1 := mem_at.2 ⟨q, hq2, hx⟩
      rcases aE_cases (x := x) hg.1 with hE | hE
      · refine (ap_ack_ok0 p h0 nx0 A0 n0 B0 m0 h1 nx1 A1 n1 B1 m1 s0 s1 k0 k1 O0 I0 Z0 K0 O1 I1 Z1 K1 d k w hk hpm h3 q (by omega) hq x hx hE).mono ?_
        rintro e w' ⟨rfl, ⟨_, _, _, _, hpm'⟩, hb⟩
        exact ⟨rfl, ⟨_, _, _, _, _, _, _, _, _, _, _, _, _, _, _, _, _, _, _, _, _, _, _, _, hpm', hg.ack0 hm⟩, hb⟩
      · refine (ap_ack_no0 p h0 nx0 A0 n0 B0 m0 h1 nx1 A1 n1 B1 m1 s0 s1 k0 k1 O0 I0 Z0 K0 O1 I1 Z1 K1 d k w hk hpm h3 q (by omega) hq x hx hE).mono ?_
        rintro e w' ⟨rfl, hpm', hb⟩
        exact ⟨rfl, ⟨_, _, _, _, _, _, _, _, _, _, _, _, _, _, _, _, _, _, _, _, _, _, _, _, hpm', hg.more⟩, hb⟩
theorem apply1 (p : Nat) (T : Int) (N : Nat) (d k : Int) (w : World) (hk : 0 ≤ k ∧ k ≤ 255) (hd : 0 ≤ d ∧ d ≤ 255) (hN : N ≤ 300) (hpg : PG w p T N) :
    Calls Try.prog 21 #[.pointer (some ⟨p, 0, none⟩), .agg #[.int .u8 d, .bool true, .int .u8 k]] w fun e w' => e = .returned (.bool true) ∧ PG w' p T (N + 1) ∧ Below p w w' := by
  obtain ⟨h0, nx0, A0, n0, B0, m0, h1, nx1, A1, n1, B1, m1, s0, s1, k0, k1, O0, I0, Z0, K0, O1, I1, Z1, K1, hpm, hg⟩ := hpg
  have hlen := hg.2.2.2.2.2
  have ht : d.tmod 3 = d % 3 := Int.tmod_eq_emod_of_nonneg hd.1
  obtain h3 | h3 | h3 : d.tmod 3 = 0 ∨ d.tmod 3 = 1 ∨ d.tmod 3 = 2 := by omega
  · by_cases hE : sE h1 nx1 O1 I1 (1 + k % 20) = 0
    · refine (ap_send_ok1 p h0 nx0 A0 n0 B0 m0 h1 nx1 A1 n1 B1 m1 s0 s1 k0 k1 O0 I0 Z0 K0 O1 I1 Z1 K1 d k w hk hpm h3 hE (by omega)).mono ?_
      rintro e w' ⟨rfl, ⟨_, _, _, _, _, hpm'⟩, hb⟩
      exact ⟨rfl, ⟨_, _, _, _, _, _, _, _, _, _, _, _, _, _, _, _, _, _, _, _, _, _, _, _, hpm', hg.send1 hE⟩, hb⟩
    · refine (ap_send_no1 p h0 nx0 A0 n0 B0 m0 h1 nx1 A1 n1 B1 m1 s0 s1 k0 k1 O0 I0 Z0 K0 O1 I1 Z1 K1 d k w hk hpm h3 _ rfl hE).mono ?_
      rintro e w' ⟨rfl, hpm', hb⟩
      exact ⟨rfl, ⟨_, _, _, _, _, _, _, _, _, _, _, _, _, _, _, _, _, _, _, _, _, _, _, _, hpm', hg.more⟩, hb⟩
  · by_cases hz : Z0.length = 0
    · refine (ap_recv_none1 p h0 nx0 A0 n0 B0 m0 h1 nx1 A1 n1 B1 m1 s0 s1 k0 k1 O0 I0 Z0 K0 O1 I1 Z1 K1 d k w hk hpm h3 hz).mono ?_
      rintro e w' ⟨rfl, hpm', hb⟩
      exact ⟨rfl, ⟨_, _, _, _, _, _, _, _, _, _, _, _, _, _, _, _, _, _, _, _, _, _, _, _, hpm', hg.more⟩, hb⟩
    · obtain ⟨q, hq, hq2⟩ := pick_mod hk.1 (show 0 < Z0.length by omega)
      obtain ⟨x, y, hxy⟩ : ∃ x y, at2 Z0 q = (x, y) := ⟨_, _, rfl⟩
      have hm : (x, y) ∈ Z0 := mem2_at.2 ⟨q, hq2, hxy⟩
      by_cases hE : rE h1 nx1 O1 I1 x y = 0
      · refine (ap_recv_ok1 p h0 nx0 A0 n0 B0 m0 h1 nx1 A1 n1 B1 m1 s0 s1 k0 k1 O0 I0 Z0 K0 O1 I1 Z1 K1 d k w hk hpm h3 q (by omega) hq x y hxy hE (by omega)).mono ?_
        rintro e w' ⟨rfl, ⟨_, _, _, _, _, hpm'⟩, hb⟩
        exact ⟨rfl, ⟨_, _, _, _, _, _, _, _, _, _, _, _, _, _, _, _, _, _, _, _, _, _, _, _, hpm', hg.recv1 hm hE⟩, hb⟩
      · by_cases h5 : rE h1 nx1 O1 I1 x y = 5
        · refine (ap_recv_tw1 p h0 nx0 A0 n0 B0 m0 h1 nx1 A1 n1 B1 m1 s0 s1 k0 k1 O0 I0 Z0 K0 O1 I1 Z1 K1 d k w hk hpm h3 q (by omega) hq x y hxy h5 (by omega)).mono ?_
          rintro e w' ⟨rfl, ⟨_, hpm'⟩, hb⟩
          exact ⟨rfl, ⟨_, _, _, _, _, _, _, _, _, _, _, _, _, _, _, _, _, _, _, _, _, _, _, _, hpm', hg.tw1 h5⟩, hb⟩
        · refine (ap_recv_no1 p h0 nx0 A0 n0 B0 m0 h1 nx1 A1 n1 B1 m1 s0 s1 k0 k1 O0 I0 Z0 K0 O1 I1 Z1 K1 d k w hk hpm h3 q (by omega) hq x y hxy _ rfl hE h5).mono ?_
          rintro e w' ⟨rfl, hpm', hb⟩
          exact ⟨rfl, ⟨_, _, _, _, _, _, _, _, _, _, _, _, _, _, _, _, _, _, _, _, _, _, _, _, hpm', hg.more⟩, hb⟩
  · by_cases hz : K0.length = 0
    · refine (ap_ack_none1 p h0 nx0 A0 n0 B0 m0 h1 nx1 A1 n1 B1 m1 s0 s1 k0 k1 O0 I0 Z0 K0 O1 I1 Z1 K1 d k w hk hpm h3 hz).mono ?_
      rintro e w' ⟨rfl, hpm', hb⟩
      exact ⟨rfl, ⟨_, _, _, _, _, _, _, _, _, _, _, _, _, _, _, _, _, _, _, _, _, _, _, _, hpm', hg.more⟩, hb⟩
    · obtain ⟨q, hq, hq2⟩ := pick_mod hk.1 (show 0 < K0.length by omega)
      obtain ⟨x, hx⟩ : ∃ x, at1 K0 q = x := ⟨_, rfl⟩
      have hm : x ∈ K0 := mem_at.2 ⟨q, hq2, hx⟩
      rcases aE_cases (x := x) hg.2.1 with hE | hE
      · refine (ap_ack_ok1 p h0 nx0 A0 n0 B0 m0 h1 nx1 A1 n1 B1 m1 s0 s1 k0 k1 O0 I0 Z0 K0 O1 I1 Z1 K1 d k w hk hpm h3 q (by omega) hq x hx hE).mono ?_
        rintro e w' ⟨rfl, ⟨_, _, _, _, hpm'⟩, hb⟩
        exact ⟨rfl, ⟨_, _, _, _, _, _, _, _, _, _, _, _, _, _, _, _, _, _, _, _, _, _, _, _, hpm', hg.ack1 hm⟩, hb⟩
      · refine (ap_ack_no1 p h0 nx0 A0 n0 B0 m0 h1 nx1 A1 n1 B1 m1 s0 s1 k0 k1 O0 I0 Z0 K0 O1 I1 Z1 K1 d k w hk hpm h3 q (by omega) hq x hx hE).mono ?_
        rintro e w' ⟨rfl, hpm', hb⟩
        exact ⟨rfl, ⟨_, _, _, _, _, _, _, _, _, _, _, _, _, _, _, _, _, _, _, _, _, _, _, _, hpm', hg.more⟩, hb⟩
/-- apply, whatever the move -/
theorem apply_any (p : Nat) (T : Int) (N : Nat) (d k : Int) (b : Bool) (w : World) (hk : 0 ≤ k ∧ k ≤ 255) (hd : 0 ≤ d ∧ d ≤ 255) (hN : N ≤ 300) (hpg : PG w p T N) :
    Calls Try.prog 21 #[.pointer (some ⟨p, 0, none⟩), .agg #[.int .u8 d, .bool b, .int .u8 k]] w fun e w' => e = .returned (.bool true) ∧ PG w' p T (N + 1) ∧ Below p w w' := by
  cases b
  · exact apply0 p T N d k w hk hd hN hpg
  · exact apply1 p T N d k w hk hd hN hpg
/-- two controllers at first -/
theorem start_any (x y : Int) (w : World) (hx : 0 ≤ x) (hy : 0 ≤ y) (hxy : x + y ≤ 1000) :
    Calls Try.prog 20 #[.int .i64 x, .int .i64 y] w fun e w' => e = .returned (.pointer (some ⟨w.heap.size, 0, none⟩)) ∧ PG w' w.heap.size (x + y) 0 ∧ Below w.heap.size w w' := by
  have HB := Lib.hid (fun o => bel_a w o)
  have HN : Hid (∀ W : World, PM (W.alloc (.cells #[.int .i64 x, .int .i64 1, .slice none 0 0, .slice none 0 0, .int .i64 y, .int .i64 1, .slice none 0 0, .slice none 0 0, .slice none 0 0, .slice none 0 0, .slice none 0 0, .slice none 0 0] 50)) W.heap.size x 1 none 0 none 0 y 1 none 0 none 0 (.slice none 0 0) (.slice none 0 0) (.slice none 0 0) (.slice none 0 0) [] [] [] [] [] [] [] []) := Lib.hid fun W => by
    have e0 : ∀ z : Option Nat, apart none z := apart_none
    exact ⟨OW.new W _ _, SN_lit _ _ _, SN_lit _ _ _, World.ownsRow_nil _ _ _ _, World.ownsRow_nil _ _ _ _, World.ownsRow_nil _ _ _ _, World.ownsRow_nil _ _ _ _, ⟨e0 _, e0 _, e0 _, e0 _, e0 _, e0 _⟩, ⟨e0 _, e0 _, e0 _, e0 _⟩, ⟨e0 _, e0 _, e0 _, e0 _⟩, ⟨e0 _, e0 _, e0 _, e0 _⟩, e0 _, e0 _, e0 _, e0 _⟩
  have HG : Hid (Good (x + y) 0 x 1 [] [] [] [] y 1 [] [] [] []) := Lib.hid ⟨vB_iff.1 (vB_nil (by omega) (by omega)), vB_iff.1 (vB_nil (by omega) (by omega)), Half.start, Half.start, by simp [way], by simp⟩
  go_enter Try.func20, Try.ntmps20
  go_wp2_with fail
  go_ret
  exact ⟨rfl, ⟨_, _, _, _, _, _, _, _, _, _, _, _, _, _, _, _, _, _, _, _, _, _, _, _, HN.out w, HG.out⟩, HB.out _⟩
end Go.Proofs.Yteeohndgkfilaaa
