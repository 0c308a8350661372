/-
  ONE CONTRACT FOR BOTH ENDINGS of Send, Receive and Acked: the share handed back, whether or not it went well.
-/
import Derived.Test.YteeohndgkfilaaaHead
import Derived.Test.YteeohndgkfilaaaPlain
namespace Go.Proofs.Yteeohndgkfilaaa
open Go.RowKit
set_option linter.unusedVariables false

/-- four cells that are a share -/
def SC (W : World) (h nx : Int) (A : Option Addr) (n : Nat) (B : Option Addr) (m : Nat) (O : List (Int × Int)) (I : List Int) : Prop := SN W (.agg #[.int .i64 h, .int .i64 nx, .slice A n n, .slice B m m]) h nx O I
theorem SC.keep {W W' : World} {h nx : Int} {A : Option Addr} {n : Nat} {B : Option Addr} {m : Nat} {O : List (Int × Int)} {I : List Int} (x : SC W h nx A n B m O I) (hb : Below W.heap.size W W') : SC W' h nx A n B m O I := SN.keep x hb
theorem SN.sc {W : World} {v : Value} {h nx : Int} {O : List (Int × Int)} {I : List Int} (x : SN W v h nx O I) : ∃ A n B m, v = .agg #[.int .i64 h, .int .i64 nx, .slice A n n, .slice B m m] ∧ SC W h nx A n B m O I := by
  obtain ⟨A, B, n, m, rfl, r⟩ := x
  exact ⟨A, n, B, m, rfl, ⟨A, B, n, m, rfl, r⟩⟩
theorem SC.sv {W : World} {h nx : Int} {A : Option Addr} {n : Nat} {B : Option Addr} {m : Nat} {O : List (Int × Int)} {I : List Int} (x : SC W h nx A n B m O I) : SV W (.agg #[.int .i64 h, .int .i64 nx, .slice A n n, .slice B m m]) h nx O I := SN.sv x
theorem SC.far {W : World} {h nx : Int} {A : Option Addr} {n : Nat} {B : Option Addr} {m : Nat} {O : List (Int × Int)} {I : List Int} {u : TypeId} {ds : List Value} {b : Nat} (x : SC W h nx A n B m O I) (hb : OW W b u ds) (h1 : u ≠ 27) (h2 : u ≠ 3) (j : Nat) (z : Value) : SC (W.setCell ⟨b, j, none⟩ z) h nx A n B m O I := SN.far x hb h1 h2 j z
theorem SC.far4 {W : World} {h nx : Int} {A : Option Addr} {n : Nat} {B : Option Addr} {m : Nat} {O : List (Int × Int)} {I : List Int} {u : TypeId} {ds : List Value} {b : Nat} (x : SC W h nx A n B m O I) (hb : OW W b u ds) (h1 : u ≠ 27) (h2 : u ≠ 3) (j0 j1 j2 j3 : Nat) (z0 z1 z2 z3 : Value) : SC ((((W.setCell ⟨b, j0, none⟩ z0).setCell ⟨b, j1, none⟩ z1).setCell ⟨b, j2, none⟩ z2).setCell ⟨b, j3, none⟩ z3) h nx A n B m O I :=
  (((x.far hb h1 h2 j0 z0).far (hb.set j0 z0) h1 h2 j1 z1).far ((hb.set j0 z0).set j1 z1) h1 h2 j2 z2).far (((hb.set j0 z0).set j1 z1).set j2 z2) h1 h2 j3 z3
theorem OW.set4 {W : World} {b : Nat} {t : TypeId} {a0 a1 a2 a3 : Value} (h : OW W b t [a0, a1, a2, a3]) (z0 z1 z2 z3 : Value) : OW ((((W.setCell ⟨b, 0, none⟩ z0).setCell ⟨b, 1, none⟩ z1).setCell ⟨b, 2, none⟩ z2).setCell ⟨b, 3, none⟩ z3) b t [z0, z1, z2, z3] := (((h.set 0 z0).set 1 z1).set 2 z2).set 3 z3
theorem OW.far4 {W : World} {g : Nat} {t : TypeId} {cs : List Value} (h : OW W g t cs) {b : Nat} (hb : b ≠ g) (j0 j1 j2 j3 : Nat) (z0 z1 z2 z3 : Value) : OW ((((W.setCell ⟨b, j0, none⟩ z0).setCell ⟨b, j1, none⟩ z1).setCell ⟨b, j2, none⟩ z2).setCell ⟨b, j3, none⟩ z3) g t cs := (((h.far hb j0 z0).far hb j1 z1).far hb j2 z2).far hb j3 z3
theorem bel_set4 {B : Nat} {a w : World} (h : Below B a w) {b : Nat} (hb : B ≤ b) (j0 j1 j2 j3 : Nat) (z0 z1 z2 z3 : Value) : Below B a ((((w.setCell ⟨b, j0, none⟩ z0).setCell ⟨b, j1, none⟩ z1).setCell ⟨b, j2, none⟩ z2).setCell ⟨b, j3, none⟩ z3) := (((h.setCell hb z0).setCell hb z1).setCell hb z2).setCell hb z3

theorem recv_u (h nx : Int) (A : Option Addr) (n : Nat) (B : Option Addr) (m : Nat) (O : List (Int × Int)) (I : List Int) (x y : Int) (w : World) (hs : SC w h nx A n B m O I) :
    Calls Try.prog 13 #[.agg #[.int .i64 h, .int .i64 nx, .slice A n n, .slice B m m], .agg #[.int .i64 x, .int .i64 y]] w fun e w' => ∃ h' nx' A' n' B' m' er O' I', e = .returned (.tuple #[.agg #[.int .i64 h', .int .i64 nx', .slice A' n' n', .slice B' m' m'], .int .i64 er]) ∧ SC w' h' nx' A' n' B' m' O' I' ∧
      (rE h nx O I x y = er ∧ ((er = 0 ∧ h' = h + y ∧ nx' = nx ∧ O' = O ∧ I' = insO x I) ∨ (er ≠ 0 ∧ h' = 0 ∧ nx' = 0 ∧ O' = [] ∧ I' = []))) ∧ Below w.heap.size w w' := by
  refine (recv_all _ h nx O I x y w hs.sv).mono ?_
  rintro e w' ⟨⟨v', er, rfl, h1, h2⟩, hb⟩
  rcases h2 with ⟨h0, h3⟩ | ⟨h3, rfl⟩
  · obtain ⟨u0, u1, u2, u3, rfl, hs'⟩ := h3.sc
    exact ⟨_, _, u0, u1, u2, u3, er, _, _, rfl, hs', ⟨h1.symm, .inl ⟨h0, rfl, rfl, rfl, rfl⟩⟩, hb⟩
  · exact ⟨0, 0, none, 0, none, 0, er, [], [], rfl, SN_lit w' 0 0, ⟨h1.symm, .inr ⟨h3, rfl, rfl, rfl, rfl⟩⟩, hb⟩
theorem send_u (h nx : Int) (A : Option Addr) (n : Nat) (B : Option Addr) (m : Nat) (O : List (Int × Int)) (I : List Int) (a : Int) (w : World) (hs : SC w h nx A n B m O I) :
    Calls Try.prog 11 #[.agg #[.int .i64 h, .int .i64 nx, .slice A n n, .slice B m m], .int .i64 a] w fun e w' => ∃ h' nx' A' n' B' m' er O' I' t0 t1, e = .returned (.tuple #[.agg #[.int .i64 h', .int .i64 nx', .slice A' n' n', .slice B' m' m'], .agg #[.int .i64 t0, .int .i64 t1], .int .i64 er]) ∧ SC w' h' nx' A' n' B' m' O' I' ∧
      (sE h nx O I a = er ∧ ((er = 0 ∧ h' = h - a ∧ nx' = nx + 1 ∧ O' = O ++ [(nx, a)] ∧ I' = I ∧ t0 = nx ∧ t1 = a) ∨ (er ≠ 0 ∧ h' = 0 ∧ nx' = 0 ∧ O' = [] ∧ I' = [] ∧ t0 = 0 ∧ t1 = 0))) ∧ Below w.heap.size w w' := by
  refine (send_all _ h nx O I a w hs.sv).mono ?_
  rintro e w' ⟨⟨v', t, er, rfl, h1, h2⟩, hb⟩
  rcases h2 with ⟨h0, h3, rfl⟩ | ⟨h3, rfl, rfl⟩
  · obtain ⟨u0, u1, u2, u3, rfl, hs'⟩ := h3.sc
    exact ⟨_, _, u0, u1, u2, u3, er, _, _, nx, a, rfl, hs', ⟨h1.symm, .inl ⟨h0, rfl, rfl, rfl, rfl, rfl, rfl⟩⟩, hb⟩
  · exact ⟨0, 0, none, 0, none, 0, er, [], [], 0, 0, rfl, SN_lit w' 0 0, ⟨h1.symm, .inr ⟨h3, rfl, rfl, rfl, rfl, rfl, rfl⟩⟩, hb⟩
theorem ack_u (h nx : Int) (A : Option Addr) (n : Nat) (B : Option Addr) (m : Nat) (O : List (Int × Int)) (I : List Int) (x : Int) (w : World) (hs : SC w h nx A n B m O I) :
    Calls Try.prog 15 #[.agg #[.int .i64 h, .int .i64 nx, .slice A n n, .slice B m m], .int .i64 x] w fun e w' => ∃ h' nx' A' n' B' m' er O' I', e = .returned (.tuple #[.agg #[.int .i64 h', .int .i64 nx', .slice A' n' n', .slice B' m' m'], .int .i64 er]) ∧ SC w' h' nx' A' n' B' m' O' I' ∧
      (aE h nx O I x = er ∧ ((er = 0 ∧ h' = h ∧ nx' = nx ∧ O' = wo x O ∧ I' = I) ∨ (er ≠ 0 ∧ h' = 0 ∧ nx' = 0 ∧ O' = [] ∧ I' = []))) ∧ Below w.heap.size w w' := by
  refine (ack_all _ h nx O I x w hs.sv).mono ?_
  rintro e w' ⟨⟨v', er, rfl, h1, h2⟩, hb⟩
  rcases h2 with ⟨h0, h3⟩ | ⟨h3, rfl⟩
  · obtain ⟨u0, u1, u2, u3, rfl, hs'⟩ := h3.sc
    exact ⟨_, _, u0, u1, u2, u3, er, _, _, rfl, hs', ⟨h1.symm, .inl ⟨h0, rfl, rfl, rfl, rfl⟩⟩, hb⟩
  · exact ⟨0, 0, none, 0, none, 0, er, [], [], rfl, SN_lit w' 0 0, ⟨h1.symm, .inr ⟨h3, rfl, rfl, rfl, rfl⟩⟩, hb⟩
theorem recv_ok0 (v : Value) (h nx : Int) (O : List (Int × Int)) (I : List Int) (x y : Int) (w : World) (hs : SV w v h nx O I) (he : rE h nx O I x y = 0) :
    Calls Try.prog 13 #[v, .agg #[.int .i64 x, .int .i64 y]] w fun e w' => ∃ A' n' B' m', e = .returned (.tuple #[.agg #[.int .i64 (h + y), .int .i64 nx, .slice A' n' n', .slice B' m' m'], .int .i64 0]) ∧ SC w' (h + y) nx A' n' B' m' O (insO x I) ∧ Below w.heap.size w w' := by
  refine (recv_all v h nx O I x y w hs).mono ?_
  rintro e w' ⟨⟨v', er, rfl, h1, h2⟩, hb⟩
  rcases h2 with ⟨rfl, h3⟩ | ⟨h3, _⟩
  · obtain ⟨u0, u1, u2, u3, rfl, hs'⟩ := h3.sc
    exact ⟨u0, u1, u2, u3, rfl, hs', hb⟩
  · exact absurd (h1.trans he) h3
/-- what goes well -/
theorem sE0 {h nx a : Int} {O : List (Int × Int)} {I : List Int} (e : sE h nx O I a = 0) : vS h nx O I ∧ (1 ≤ a ∧ a ≤ 1000) ∧ a ≤ h ∧ O.length ≠ 64 ∧ nx ≤ 1000000 := by
  unfold sE at e
  split at e
  · rename_i hp
    split at e
    · cases e
    · split at e
      · cases e
      · split at e
        · cases e
        · exact ⟨vB_iff.1 hp.1, hp.2, by omega, by assumption, by omega⟩
  · cases e
theorem rE0 {h nx x y : Int} {O : List (Int × Int)} {I : List Int} (e : rE h nx O I x y = 0) : vS h nx O I ∧ vT (x, y) = true ∧ x ∉ I ∧ I.length ≠ 64 ∧ h + y ≤ 1000 := by
  unfold rE at e
  split at e
  · rename_i hp
    split at e
    · cases e
    · split at e
      · cases e
      · split at e
        · cases e
        · exact ⟨vB_iff.1 hp.1, hp.2, by assumption, by assumption, by omega⟩
  · cases e
theorem aE0 {h nx x : Int} {O : List (Int × Int)} {I : List Int} (e : aE h nx O I x = 0) : vS h nx O I ∧ hasT x O := by
  unfold aE at e
  split at e
  · rename_i hp
    split at e
    · exact ⟨vB_iff.1 hp, by assumption⟩
    · cases e
  · cases e
theorem sE_vS {h nx a : Int} {O : List (Int × Int)} {I : List Int} (e : sE h nx O I a = 0) : vS (h - a) (nx + 1) (O ++ [(nx, a)]) I := by
  obtain ⟨h1, h2, h3, h4, h5⟩ := sE0 e
  exact vS_send h1 h2 h3 h4 h5
theorem rE_vS {h nx x y : Int} {O : List (Int × Int)} {I : List Int} (e : rE h nx O I x y = 0) : vS (h + y) nx O (insO x I) := by
  obtain ⟨h1, h2, h3, h4, h5⟩ := rE0 e
  exact vS_recv h1 h2 h3 h4 h5
theorem rE_twice {h nx x y : Int} {O : List (Int × Int)} {I : List Int} (hv : vS h nx O I) (ht : vT (x, y) = true) (hx : x ∈ I) : rE h nx O I x y = 5 := by
  unfold rE; rw [if_pos ⟨vB_iff.2 hv, ht⟩, if_pos hx]
theorem rE_of {h nx x y : Int} {O : List (Int × Int)} {I : List Int} (hv : vS h nx O I) (ht : vT (x, y) = true) (hx : x ∉ I) (h64 : I.length ≠ 64) (hr : h + y ≤ 1000) : rE h nx O I x y = 0 := by
  unfold rE; rw [if_pos ⟨vB_iff.2 hv, ht⟩, if_neg hx, if_neg h64, if_neg (by omega)]
theorem sE_of {h nx a : Int} {O : List (Int × Int)} {I : List Int} (hv : vS h nx O I) (ha : 1 ≤ a ∧ a ≤ 1000) (hh : a ≤ h) (h64 : O.length ≠ 64) (hnx : nx ≤ 1000000) : sE h nx O I a = 0 := by
  unfold sE; rw [if_pos ⟨vB_iff.2 hv, ha⟩, if_neg (by omega), if_neg h64, if_neg (by omega)]
theorem aE_of {h nx x : Int} {O : List (Int × Int)} {I : List Int} (hv : vS h nx O I) (hx : hasT x O) : aE h nx O I x = 0 := by
  unfold aE; rw [if_pos (vB_iff.2 hv), if_pos hx]
theorem aE_no {h nx x : Int} {O : List (Int × Int)} {I : List Int} (hv : vS h nx O I) (hx : ¬ hasT x O) : aE h nx O I x = 4 := by
  unfold aE; rw [if_pos (vB_iff.2 hv), if_neg hx]
end Go.Proofs.Yteeohndgkfilaaa
