/-
  THE LAW SettleMatchesReference, walked.
-/
import Derived.Test.YtflehgdhdfmacaaHeadc
namespace Go.Proofs.Ytflehgdhdfmacaa
open Go.RowKit
set_option linter.unusedVariables false
attribute [local go_sem ↓] Go.wp_at_zero Go.wp_at_succ

/-- what Net answers, whatever it is given -/
def NX (W : World) (v : Value) (er : Int) (X : Nat → Nat → Int) (n : Nat) (m : Int) : Prop :=
  (64 < n ∧ er = 2 ∧ v = .slice none 0 0) ∨ (n ≤ 64 ∧ (m < 1 ∨ 8 < m) ∧ er = 1 ∧ v = .slice none 0 0) ∨ (n ≤ 64 ∧ (1 ≤ m ∧ m ≤ 8) ∧ NetQ W v er X n m.toNat)
theorem net_all (A : Option Addr) (n c : Nat) (X : Nat → Nat → Int) (m : Int) (w : World) (hn : n ≤ 9223372036854775807) (hR : RR w A n X) (hw : ∀ i, i < n → (Lit.int .i64 (X i 0)).wf = true) :
    Calls Try.prog 10 #[.slice A n c, .int .i64 m] w fun e w' => ∃ v er, e = .returned (.tuple #[v, .int .i64 er]) ∧ NX w' v er X n m ∧ Below w.heap.size w w' := by
  by_cases h1 : 64 < n
  · refine (net_limit A n c m w ⟨h1, hn⟩).mono ?_
    rintro e w' ⟨rfl, rfl⟩
    exact ⟨_, _, rfl, .inl ⟨h1, rfl, rfl⟩, Below.refl _ _⟩
  · by_cases h2 : m < 1 ∨ 8 < m
    · refine (net_arg A n c m w (by omega) h2).mono ?_
      rintro e w' ⟨rfl, rfl⟩
      exact ⟨_, _, rfl, .inr (.inl ⟨by omega, h2, rfl, rfl⟩), Below.refl _ _⟩
    · have h := net_any A n c X m.toNat w (by omega) (by omega) hR hw
      rw [show ((m.toNat : Nat) : Int) = m by omega] at h
      refine h.mono ?_
      rintro e w' ⟨⟨v, er, rfl, h⟩, hb⟩
      exact ⟨v, er, rfl, .inr (.inr ⟨by omega, by omega, h.q⟩), hb⟩
theorem rnet_all (A : Option Addr) (n c : Nat) (X : Nat → Nat → Int) (m : Int) (w : World) (hn : n ≤ 9223372036854775807) (hR : RR w A n X) :
    Calls Try.prog 11 #[.slice A n c, .int .i64 m] w fun e w' => ∃ v er, e = .returned (.tuple #[v, .int .i64 er]) ∧ NX w' v er X n m ∧ Below w.heap.size w w' := by
  by_cases h1 : 64 < n
  · refine (rnet_limit A n c m w ⟨h1, hn⟩).mono ?_
    rintro e w' ⟨rfl, rfl⟩
    exact ⟨_, _, rfl, .inl ⟨h1, rfl, rfl⟩, Below.refl _ _⟩
  · by_cases h2 : m < 1 ∨ 8 < m
    · refine (rnet_arg A n c m w (by omega) h2).mono ?_
      rintro e w' ⟨rfl, rfl⟩
      exact ⟨_, _, rfl, .inr (.inl ⟨by omega, h2, rfl, rfl⟩), Below.refl _ _⟩
    · have h := rnet_any A n c X m.toNat w (by omega) (by omega) hR
      rw [show ((m.toNat : Nat) : Int) = m by omega] at h
      refine h.mono ?_
      rintro e w' ⟨⟨v, er, rfl, h⟩, hb⟩
      exact ⟨v, er, rfl, .inr (.inr ⟨by omega, by omega, h⟩), hb⟩
theorem nil_RZ {w : World} {z : Nat → Int} : RZ w none 0 z := fun i hi => by omega
theorem nil_RP {w : World} {X : Nat → Nat → Int} : RP w none 0 X := fun i hi => by omega
theorem NX.keep {W W' : World} {v : Value} {er : Int} {X : Nat → Nat → Int} {n : Nat} {m : Int} (h : NX W v er X n m) (hb : Below W.heap.size W W') : NX W' v er X n m := by
  rcases h with h | h | ⟨h1, h2, h | h | ⟨e1, e2, e3, A, c, e4, e5, e6⟩⟩
  · exact .inl h
  · exact .inr (.inl h)
  · exact .inr (.inr ⟨h1, h2, .inl h⟩)
  · exact .inr (.inr ⟨h1, h2, .inr (.inl h)⟩)
  · exact .inr (.inr ⟨h1, h2, .inr (.inr ⟨e1, e2, e3, A, c, e4, e5.keep hb, e6⟩)⟩)
theorem NX.pair {W : World} {v v' : Value} {er er' : Int} {X : Nat → Nat → Int} {n : Nat} {m : Int} (h : NX W v er X n m) (h' : NX W v' er' X n m) :
    er' = er ∧ ∃ A c A' c' k z, v = .slice A k c ∧ v' = .slice A' k c' ∧ k ≤ 8 ∧ RZ W A k z ∧ RZ W A' k z := by
  rcases h with ⟨a1, rfl, rfl⟩ | ⟨a1, a2, rfl, rfl⟩ | ⟨a1, a2, a3⟩ <;> rcases h' with ⟨b1, rfl, rfl⟩ | ⟨b1, b2, rfl, rfl⟩ | ⟨b1, b2, b3⟩ <;> (try (exfalso; omega))
  · exact ⟨rfl, none, 0, none, 0, 0, fun _ => 0, rfl, rfl, by omega, nil_RZ, nil_RZ⟩
  · exact ⟨rfl, none, 0, none, 0, 0, fun _ => 0, rfl, rfl, by omega, nil_RZ, nil_RZ⟩
  · rcases a3 with ⟨rfl, rfl, c1⟩ | ⟨rfl, rfl, c1, c2⟩ | ⟨rfl, c1, c2, A, c, rfl, c3, c4⟩ <;> rcases b3 with ⟨rfl, rfl, d1⟩ | ⟨rfl, rfl, d1, d2⟩ | ⟨rfl, d1, d2, A', c', rfl, d3, d4⟩
    · exact ⟨rfl, none, 0, none, 0, 0, fun _ => 0, rfl, rfl, by omega, nil_RZ, nil_RZ⟩
    · exact absurd d1 c1
    · exact absurd d1 c1
    · exact absurd c1 d1
    · exact ⟨rfl, none, 0, none, 0, 0, fun _ => 0, rfl, rfl, by omega, nil_RZ, nil_RZ⟩
    · exact absurd c2 d2
    · exact absurd c1 d1
    · exact absurd d2 c2
    · exact ⟨rfl, A, c, A', c', _, _, rfl, rfl, by omega, c3, d3⟩

/-- what Payments answers -/
def PX (W : World) (v : Value) (er : Int) (y : Nat → Int) (n : Nat) : Prop :=
  (balB y n = false ∧ er = 1 ∧ v = .slice none 0 0) ∨ (balB y n = true ∧ er = 0 ∧ ∃ T A c, v = .slice A T c ∧ Paid n y T ∧ am (Yt n y T) n ≤ 0 ∧ RP W A T (pym n y) ∧ (T ≤ c ∧ c ≤ 9223372036854775807))
theorem pay_all (A : Option Addr) (n c : Nat) (y : Nat → Int) (w : World) (hn : n ≤ 9223372036854775807) (hR : RZ w A n y) :
    Calls Try.prog 12 #[.slice A n c] w fun e w' => ∃ v er, e = .returned (.tuple #[v, .int .i64 er]) ∧ PX w' v er y n ∧ Below w.heap.size w w' := by
  cases hB : balB y n
  · refine (pay_no A n c y w hn hR hB).mono ?_
    rintro e w' ⟨rfl, rfl⟩
    exact ⟨_, _, rfl, .inl ⟨hB, rfl, rfl⟩, Below.refl _ _⟩
  · refine (pay_any A n c y w hR hB).mono ?_
    rintro e w' ⟨⟨T, A', c', rfl, h1, h2, h3, h4⟩, hb⟩
    exact ⟨_, _, rfl, .inr ⟨hB, rfl, T, A', c', rfl, h1, h2, h3, h4⟩, hb⟩
theorem rpay_all (A : Option Addr) (n c : Nat) (y : Nat → Int) (w : World) (hn : n ≤ 9223372036854775807) (hR : RZ w A n y) :
    Calls Try.prog 13 #[.slice A n c] w fun e w' => ∃ v er, e = .returned (.tuple #[v, .int .i64 er]) ∧ PX w' v er y n ∧ Below w.heap.size w w' := by
  cases hB : balB y n
  · refine (rpay_no A n c y w hn hR hB).mono ?_
    rintro e w' ⟨rfl, rfl⟩
    exact ⟨_, _, rfl, .inl ⟨hB, rfl, rfl⟩, Below.refl _ _⟩
  · refine (rpay_any A n c y w hR hB).mono ?_
    rintro e w' ⟨⟨T, A', c', rfl, h1, h2, h3, h4⟩, hb⟩
    exact ⟨_, _, rfl, .inr ⟨hB, rfl, T, A', c', rfl, h1, h2, h3, h4⟩, hb⟩
theorem PX.keep {W W' : World} {v : Value} {er : Int} {y : Nat → Int} {n : Nat} (h : PX W v er y n) (hb : Below W.heap.size W W') : PX W' v er y n := by
  rcases h with h | ⟨h1, h2, T, A, c, h3, h4, h5, h6, h7⟩
  · exact .inl h
  · exact .inr ⟨h1, h2, T, A, c, h3, h4, h5, h6.keep hb, h7⟩
theorem Paid.le {n : Nat} {y : Nat → Int} {t : Nat} (h : Paid n y t) : t ≤ n := by have := h.2.1; omega
theorem PX.pair {W : World} {v v' : Value} {er er' : Int} {y : Nat → Int} {n : Nat} (h : PX W v er y n) (h' : PX W v' er' y n) :
    er' = er ∧ ∃ A c A' c' k Z, v = .slice A k c ∧ v' = .slice A' k c' ∧ k ≤ 8 ∧ RP W A k Z ∧ RP W A' k Z := by
  rcases h with ⟨a1, rfl, rfl⟩ | ⟨a1, rfl, T, A, c, rfl, h4, h5, h6, h7⟩ <;> rcases h' with ⟨b1, rfl, rfl⟩ | ⟨b1, rfl, T', A', c', rfl, g4, g5, g6, g7⟩
  · exact ⟨rfl, none, 0, none, 0, 0, fun _ _ => 0, rfl, rfl, by omega, nil_RP, nil_RP⟩
  · rw [a1] at b1; cases b1
  · rw [a1] at b1; cases b1
  · obtain rfl := paid_one h4 h5 g4 g5
    have := h4.le
    have := (balB_iff.1 a1).1
    exact ⟨rfl, A, c, A', c', _, _, rfl, rfl, by omega, h6, g6⟩

/-- what Dispute answers -/
def dNx (X Y : Nat → Nat → Int) (n m : Nat) : Int := if 64 < n ∨ 64 < m then 0 else dN X Y n m
def dIx (X Y : Nat → Nat → Int) (n m : Nat) : Bool := if 64 < n ∨ 64 < m then false else dI X Y n m
def dEx (n m : Nat) : Int := if 64 < n ∨ 64 < m then 2 else 0
theorem disp_all (A B : Option Addr) (n m c d : Nat) (X Y : Nat → Nat → Int) (w : World) (hn : n ≤ 9223372036854775807) (hm : m ≤ 9223372036854775807) (hA : RG w A n X) (hB : RG w B m Y) :
    Calls Try.prog 14 #[.slice A n c, .slice B m d] w fun e w' => e = .returned (.tuple #[.int .i64 (dNx X Y n m), .bool (dIx X Y n m), .int .i64 (dEx n m)]) ∧ Below w.heap.size w w' := by
  by_cases h : 64 < n ∨ 64 < m
  · refine (disp_limit A B n m c d w hn hm h).mono ?_
    rintro e w' ⟨rfl, rfl⟩
    exact ⟨ret_three (if_pos h).symm (if_pos h).symm (if_pos h).symm, Below.refl _ _⟩
  · refine (disp_any A B n m c d X Y w (by omega) (by omega) hA hB).mono ?_
    rintro e w' ⟨rfl, hb⟩
    exact ⟨ret_three (if_neg h).symm (if_neg h).symm (if_neg h).symm, hb⟩
theorem rdisp_all (A B : Option Addr) (n m c d : Nat) (X Y : Nat → Nat → Int) (w : World) (hn : n ≤ 9223372036854775807) (hm : m ≤ 9223372036854775807) (hA : RG w A n X) (hB : RG w B m Y) :
    Calls Try.prog 15 #[.slice A n c, .slice B m d] w fun e w' => e = .returned (.tuple #[.int .i64 (dNx X Y n m), .bool (dIx X Y n m), .int .i64 (dEx n m)]) ∧ Below w.heap.size w w' := by
  by_cases h : 64 < n ∨ 64 < m
  · refine (rdisp_limit A B n m c d w hn hm h).mono ?_
    rintro e w' ⟨rfl, rfl⟩
    exact ⟨ret_three (if_pos h).symm (if_pos h).symm (if_pos h).symm, Below.refl _ _⟩
  · refine (rdisp_any A B n m c d X Y w (by omega) (by omega) hA hB).mono ?_
    rintro e w' ⟨rfl, hb⟩
    exact ⟨ret_three (if_neg h).symm (if_neg h).symm (if_neg h).symm, hb⟩

set_option maxRecDepth 100000 in
set_option maxHeartbeats 4000000 in
theorem walk_matches (A : Option Addr) (n c : Nat) (X : Nat → Nat → Int) (m : Int) (B : Option Addr) (p cB : Nat) (y : Nat → Int) (C : Option Addr) (q cC : Nat) (U : Nat → Nat → Int) (D : Option Addr) (r cD : Nat) (V : Nat → Nat → Int) (w : World)
    (hn : n ≤ 9223372036854775807) (hp : p ≤ 9223372036854775807) (hq : q ≤ 9223372036854775807) (hr : r ≤ 9223372036854775807)
    (hX : RR w A n X) (hw : ∀ i, i < n → (Lit.int .i64 (X i 0)).wf = true) (hy : RZ w B p y) (hU : RG w C q U) (hV : RG w D r V) :
    Calls Try.prog 3 #[.slice A n c, .int .i64 m, .slice B p cB, .slice C q cC, .slice D r cD] w fun e w' => e = .returned (.bool true) ∧ Below w.heap.size w w' := by
  have HX := Lib.hid hX
  have HW := Lib.hid hw
  have HY := Lib.hid hy
  have HU := Lib.hid hU
  have HV := Lib.hid hV
  clear hX hw hy hU hV
  by_cases hg : n ≤ 100 ∧ p ≤ 100 ∧ q ≤ 100 ∧ r ≤ 100
  · obtain ⟨g1, g2, g3, g4⟩ := hg
    have e2 : decide ((100 : Int) < (p : Int)) = false := decide_eq_false (by omega)
    have e3 : decide ((100 : Int) < (q : Int)) = false := decide_eq_false (by omega)
    have e4 : decide ((100 : Int) < (r : Int)) = false := decide_eq_false (by omega)
    go_enter Try.func3, Try.ntmps3
    go_upto_region 4 with (go_at_call 9; with_reducible refine (head_any _).mono ?_; rintro e w0 ⟨rfl, h0⟩)
    all_goals (try (exfalso; omega))
    have H0 := Lib.hid h0
    clear h0
    go_upto_region 6 with (first
      | (go_at_call 10; with_reducible refine (net_all _ _ _ X m _ hn (HX.out.keep H0.out) HW.out).mono ?_; rintro e w1 ⟨v1, er1, rfl, k1, h1⟩
         have H1 := Lib.hid (bel_step H0.out h1))
      | (go_at_call 11; with_reducible refine (rnet_all _ _ _ X m _ hn (HX.out.keep H1.out)).mono ?_; rintro e w2 ⟨v2, er2, rfl, k2, h2⟩))
    have H2 := Lib.hid (bel_step H1.out h2)
    obtain ⟨rfl, A1, c1, A2, c2, k, z, rfl, rfl, hk8, z1, z2⟩ := (k1.keep h2).pair k2
    have Z1 := Lib.hid z1
    have Z2 := Lib.hid z2
    clear k1 k2 z1 z2 h1 h2 H1 H0 HX HW
    go_upto_region 8 with (first
      | (go_at_call 12; with_reducible refine (pay_all _ _ _ y _ hp (HY.out.keep H2.out)).mono ?_; rintro e w3 ⟨v3, er3, rfl, k3, h3⟩
         have H3 := Lib.hid (bel_step H2.out h3))
      | (go_at_call 13; with_reducible refine (rpay_all _ _ _ y _ hp (HY.out.keep H3.out)).mono ?_; rintro e w4 ⟨v4, er4, rfl, k4, h4⟩))
    have H4 := Lib.hid (bel_step H3.out h4)
    obtain ⟨rfl, A3, c3, A4, c4, k', z', rfl, rfl, hk8', z3, z4⟩ := (k3.keep h4).pair k4
    have Z3 := Lib.hid z3
    have Z4 := Lib.hid z4
    have Z1' := Lib.hid (Z1.out.keep (bel_step h3 h4))
    have Z2' := Lib.hid (Z2.out.keep (bel_step h3 h4))
    clear k3 k4 z3 z4 h3 h4 H3 H2 HY Z1 Z2
    go_upto_region 10 with (first
      | (go_at_call 14; with_reducible refine (disp_all _ _ _ _ _ _ U V _ hq hr (HU.out.keep H4.out) (HV.out.keep H4.out)).mono ?_; rintro e w5 ⟨rfl, h5⟩
         have H5 := Lib.hid (bel_step H4.out h5))
      | (go_at_call 15; with_reducible refine (rdisp_all _ _ _ _ _ _ U V _ hq hr (HU.out.keep H5.out) (HV.out.keep H5.out)).mono ?_; rintro e w6 ⟨rfl, h6⟩))
    have H6 := Lib.hid (bel_step H5.out h6)
    have h56 := bel_step h5 h6
    have Z1a := Lib.hid (Z1'.out.keep h56)
    have Z2a := Lib.hid (Z2'.out.keep h56)
    have Z3a := Lib.hid (Z3.out.keep h56)
    have Z4a := Lib.hid (Z4.out.keep h56)
    clear h56 h5 h6 H5 H4 Z1' Z2' Z3 Z4 HU HV
    generalize dNx U V q r = dn
    generalize dIx U V q r = di
    generalize dEx q r = de
    go_wp2_with (first
      | (go_at_call 16; with_reducible refine (ints_yes _ _ _ _ _ z _ (by omega) Z1a.out Z2a.out).mono ?_; rintro e w7 ⟨rfl, h7⟩
         have Z3b := Lib.hid (Z3a.out.keep h7)
         have Z4b := Lib.hid (Z4a.out.keep h7))
      | (go_at_call 17; with_reducible refine (same_yes _ _ _ _ _ z' _ (by omega) Z3b.out Z4b.out).mono ?_; rintro e w8 ⟨rfl, h8⟩))
    go_ret
    exact ⟨rfl, bel_step (bel_step H6.out h7) h8⟩
  · have hd : 100 < n ∨ (n ≤ 100 ∧ 100 < p) ∨ (n ≤ 100 ∧ p ≤ 100 ∧ 100 < q) ∨ (n ≤ 100 ∧ p ≤ 100 ∧ q ≤ 100 ∧ 100 < r) := by omega
    clear hg
    rcases hd with g1 | ⟨g1, g2⟩ | ⟨g1, g2, g3⟩ | ⟨g1, g2, g3, g4⟩
    · go_enter Try.func3, Try.ntmps3
      go_wp2_with (go_at_call 9; with_reducible refine (head_any _).mono ?_; rintro e w0 ⟨rfl, h0⟩)
      all_goals (try (exfalso; omega))
      go_ret
      exact ⟨rfl, h0⟩
    · have e2 : decide ((100 : Int) < (p : Int)) = true := decide_eq_true (by omega)
      go_enter Try.func3, Try.ntmps3
      go_wp2_with (go_at_call 9; with_reducible refine (head_any _).mono ?_; rintro e w0 ⟨rfl, h0⟩)
      all_goals (try (exfalso; omega))
      go_ret
      exact ⟨rfl, h0⟩
    · have e2 : decide ((100 : Int) < (p : Int)) = false := decide_eq_false (by omega)
      have e3 : decide ((100 : Int) < (q : Int)) = true := decide_eq_true (by omega)
      go_enter Try.func3, Try.ntmps3
      go_wp2_with (go_at_call 9; with_reducible refine (head_any _).mono ?_; rintro e w0 ⟨rfl, h0⟩)
      all_goals (try (exfalso; omega))
      go_ret
      exact ⟨rfl, h0⟩
    · have e2 : decide ((100 : Int) < (p : Int)) = false := decide_eq_false (by omega)
      have e3 : decide ((100 : Int) < (q : Int)) = false := decide_eq_false (by omega)
      have e4 : decide ((100 : Int) < (r : Int)) = true := decide_eq_true (by omega)
      go_enter Try.func3, Try.ntmps3
      go_wp2_with (go_at_call 9; with_reducible refine (head_any _).mono ?_; rintro e w0 ⟨rfl, h0⟩)
      all_goals (try (exfalso; omega))
      go_ret
      exact ⟨rfl, h0⟩
end Go.Proofs.Ytflehgdhdfmacaa
