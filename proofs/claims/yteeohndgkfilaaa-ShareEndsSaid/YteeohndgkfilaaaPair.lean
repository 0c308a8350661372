/-
  TWO CONTROLLERS IN MEMORY: their shares, and rows of what they sent and acknowledged.
-/
import Derived.Test.YteeohndgkfilaaaRsend
import Derived.Test.YteeohndgkfilaaaHalf
namespace Go.Proofs.Yteeohndgkfilaaa
open Go.RowKit
set_option linter.unusedVariables false

/-- no block in common -/
def apart (x y : Option Nat) : Prop := ∀ g, x = some g → y = some g → False
def adr (A : Option Addr) : Option Nat := A.map (·.block)
/-- rows that may grow lie apart from each other and from the shares' lists -/
def Ap (r0 r1 r2 r3 z0 z1 z2 z3 : Option Nat) : Prop :=
  (apart r0 r1 ∧ apart r0 r2 ∧ apart r0 r3 ∧ apart r1 r2 ∧ apart r1 r3 ∧ apart r2 r3) ∧
  (apart r0 z0 ∧ apart r0 z1 ∧ apart r0 z2 ∧ apart r0 z3) ∧ (apart r1 z0 ∧ apart r1 z1 ∧ apart r1 z2 ∧ apart r1 z3) ∧ (apart r2 z0 ∧ apart r2 z1 ∧ apart r2 z2 ∧ apart r2 z3) ∧ (apart r3 z0 ∧ apart r3 z1 ∧ apart r3 z2 ∧ apart r3 z3)
theorem apart_sym {x y : Option Nat} (h : apart x y) : apart y x := fun g h1 h2 => h g h2 h1
theorem apart_none (y : Option Nat) : apart none y := fun g h1 h2 => by cases h1
/-- the same block as before, or a new one -/
def fresh (N : Nat) (r r' : Option Nat) : Prop := r' = r ∨ ∀ g, r' = some g → N ≤ g
def old (N : Nat) (r : Option Nat) : Prop := ∀ g, r = some g → g < N
theorem apart_fresh {N : Nat} {r r' y : Option Nat} (h : apart r y) (hf : fresh N r r') (ho : old N y) : apart r' y := by
  rcases hf with rfl | hf
  · exact h
  · intro g h1 h2
    have := hf g h1
    have := ho g h2
    omega
theorem apart_new {N : Nat} {r z : Option Nat} (ho : old N r) (hn : ∀ g, z = some g → N ≤ g) : apart r z := fun g h1 h2 => by
  have := ho g h1
  have := hn g h2
  omega
theorem Ap.row0 {N : Nat} {r0 r1 r2 r3 z0 z1 z2 z3 r0' : Option Nat} (h : Ap r0 r1 r2 r3 z0 z1 z2 z3) (hf : fresh N r0 r0') (or1 : old N r1) (or2 : old N r2) (or3 : old N r3) (oz0 : old N z0) (oz1 : old N z1) (oz2 : old N z2) (oz3 : old N z3) : Ap r0' r1 r2 r3 z0 z1 z2 z3 :=
  ⟨⟨apart_fresh (h.1.1) hf or1, apart_fresh (h.1.2.1) hf or2, apart_fresh (h.1.2.2.1) hf or3, h.1.2.2.2.1, h.1.2.2.2.2.1, h.1.2.2.2.2.2⟩, ⟨apart_fresh (h.2.1.1) hf oz0, apart_fresh (h.2.1.2.1) hf oz1, apart_fresh (h.2.1.2.2.1) hf oz2, apart_fresh (h.2.1.2.2.2) hf oz3⟩, ⟨h.2.2.1.1, h.2.2.1.2.1, h.2.2.1.2.2.1, h.2.2.1.2.2.2⟩, ⟨h.2.2.2.1.1, h.2.2.2.1.2.1, h.2.2.2.1.2.2.1, h.2.2.2.1.2.2.2⟩, ⟨h.2.2.2.2.1, h.2.2.2.2.2.1, h.2.2.2.2.2.2.1, h.2.2.2.2.2.2.2⟩⟩
theorem Ap.row1 {N : Nat} {r0 r1 r2 r3 z0 z1 z2 z3 r1' : Option Nat} (h : Ap r0 r1 r2 r3 z0 z1 z2 z3) (hf : fresh N r1 r1') (or0 : old N r0) (or2 : old N r2) (or3 : old N r3) (oz0 : old N z0) (oz1 : old N z1) (oz2 : old N z2) (oz3 : old N z3) : Ap r0 r1' r2 r3 z0 z1 z2 z3 :=
  ⟨⟨apart_sym (apart_fresh (apart_sym (h.1.1)) hf or0), h.1.2.1, h.1.2.2.1, apart_fresh (h.1.2.2.2.1) hf or2, apart_fresh (h.1.2.2.2.2.1) hf or3, h.1.2.2.2.2.2⟩, ⟨h.2.1.1, h.2.1.2.1, h.2.1.2.2.1, h.2.1.2.2.2⟩, ⟨apart_fresh (h.2.2.1.1) hf oz0, apart_fresh (h.2.2.1.2.1) hf oz1, apart_fresh (h.2.2.1.2.2.1) hf oz2, apart_fresh (h.2.2.1.2.2.2) hf oz3⟩, ⟨h.2.2.2.1.1, h.2.2.2.1.2.1, h.2.2.2.1.2.2.1, h.2.2.2.1.2.2.2⟩, ⟨h.2.2.2.2.1, h.2.2.2.2.2.1, h.2.2.2.2.2.2.1, h.2.2.2.2.2.2.2⟩⟩
theorem Ap.row2 {N : Nat} {r0 r1 r2 r3 z0 z1 z2 z3 r2' : Option Nat} (h : Ap r0 r1 r2 r3 z0 z1 z2 z3) (hf : fresh N r2 r2') (or0 : old N r0) (or1 : old N r1) (or3 : old N r3) (oz0 : old N z0) (oz1 : old N z1) (oz2 : old N z2) (oz3 : old N z3) : Ap r0 r1 r2' r3 z0 z1 z2 z3 :=
  ⟨⟨h.1.1, apart_sym (apart_fresh (apart_sym (h.1.2.1)) hf or0), h.1.2.2.1, apart_sym (apart_fresh (apart_sym (h.1.2.2.2.1)) hf or1), h.1.2.2.2.2.1, apart_fresh (h.1.2.2.2.2.2) hf or3⟩, ⟨h.2.1.1, h.2.1.2.1, h.2.1.2.2.1, h.2.1.2.2.2⟩, ⟨h.2.2.1.1, h.2.2.1.2.1, h.2.2.1.2.2.1, h.2.2.1.2.2.2⟩, ⟨apart_fresh (h.2.2.2.1.1) hf oz0, apart_fresh (h.2.2.2.1.2.1) hf oz1, apart_fresh (h.2.2.2.1.2.2.1) hf oz2, apart_fresh (h.2.2.2.1.2.2.2) hf oz3⟩, ⟨h.2.2.2.2.1, h.2.2.2.2.2.1, h.2.2.2.2.2.2.1, h.2.2.2.2.2.2.2⟩⟩
theorem Ap.row3 {N : Nat} {r0 r1 r2 r3 z0 z1 z2 z3 r3' : Option Nat} (h : Ap r0 r1 r2 r3 z0 z1 z2 z3) (hf : fresh N r3 r3') (or0 : old N r0) (or1 : old N r1) (or2 : old N r2) (oz0 : old N z0) (oz1 : old N z1) (oz2 : old N z2) (oz3 : old N z3) : Ap r0 r1 r2 r3' z0 z1 z2 z3 :=
  ⟨⟨h.1.1, h.1.2.1, apart_sym (apart_fresh (apart_sym (h.1.2.2.1)) hf or0), h.1.2.2.2.1, apart_sym (apart_fresh (apart_sym (h.1.2.2.2.2.1)) hf or1), apart_sym (apart_fresh (apart_sym (h.1.2.2.2.2.2)) hf or2)⟩, ⟨h.2.1.1, h.2.1.2.1, h.2.1.2.2.1, h.2.1.2.2.2⟩, ⟨h.2.2.1.1, h.2.2.1.2.1, h.2.2.1.2.2.1, h.2.2.1.2.2.2⟩, ⟨h.2.2.2.1.1, h.2.2.2.1.2.1, h.2.2.2.1.2.2.1, h.2.2.2.1.2.2.2⟩, ⟨apart_fresh (h.2.2.2.2.1) hf oz0, apart_fresh (h.2.2.2.2.2.1) hf oz1, apart_fresh (h.2.2.2.2.2.2.1) hf oz2, apart_fresh (h.2.2.2.2.2.2.2) hf oz3⟩⟩
theorem Ap.share0 {N : Nat} {r0 r1 r2 r3 z0 z1 z2 z3 z0' z2' : Option Nat} (h : Ap r0 r1 r2 r3 z0 z1 z2 z3) (or0 : old N r0) (or1 : old N r1) (or2 : old N r2) (or3 : old N r3) (hnz0 : ∀ g, z0' = some g → N ≤ g) (hnz2 : ∀ g, z2' = some g → N ≤ g) : Ap r0 r1 r2 r3 z0' z1 z2' z3 :=
  ⟨h.1, ⟨apart_new or0 hnz0, h.2.1.2.1, apart_new or0 hnz2, h.2.1.2.2.2⟩, ⟨apart_new or1 hnz0, h.2.2.1.2.1, apart_new or1 hnz2, h.2.2.1.2.2.2⟩, ⟨apart_new or2 hnz0, h.2.2.2.1.2.1, apart_new or2 hnz2, h.2.2.2.1.2.2.2⟩, ⟨apart_new or3 hnz0, h.2.2.2.2.2.1, apart_new or3 hnz2, h.2.2.2.2.2.2.2⟩⟩
theorem Ap.share1 {N : Nat} {r0 r1 r2 r3 z0 z1 z2 z3 z1' z3' : Option Nat} (h : Ap r0 r1 r2 r3 z0 z1 z2 z3) (or0 : old N r0) (or1 : old N r1) (or2 : old N r2) (or3 : old N r3) (hnz1 : ∀ g, z1' = some g → N ≤ g) (hnz3 : ∀ g, z3' = some g → N ≤ g) : Ap r0 r1 r2 r3 z0 z1' z2 z3' :=
  ⟨h.1, ⟨h.2.1.1, apart_new or0 hnz1, h.2.1.2.2.1, apart_new or0 hnz3⟩, ⟨h.2.2.1.1, apart_new or1 hnz1, h.2.2.1.2.2.1, apart_new or1 hnz3⟩, ⟨h.2.2.2.1.1, apart_new or2 hnz1, h.2.2.2.1.2.2.1, apart_new or2 hnz3⟩, ⟨h.2.2.2.2.1, apart_new or3 hnz1, h.2.2.2.2.2.2.1, apart_new or3 hnz3⟩⟩
/-- the pair at block p -/
def PM (W : World) (p : Nat) (h0 nx0 : Int) (A0 : Option Addr) (n0 : Nat) (B0 : Option Addr) (m0 : Nat) (h1 nx1 : Int) (A1 : Option Addr) (n1 : Nat) (B1 : Option Addr) (m1 : Nat) (s0 s1 k0 k1 : Value) (O0 : List (Int × Int)) (I0 : List Int) (Z0 : List (Int × Int)) (K0 : List Int) (O1 : List (Int × Int)) (I1 : List Int) (Z1 : List (Int × Int)) (K1 : List Int) : Prop :=
  OW W p 50 [.int .i64 h0, .int .i64 nx0, .slice A0 n0 n0, .slice B0 m0 m0, .int .i64 h1, .int .i64 nx1, .slice A1 n1 n1, .slice B1 m1 m1, s0, s1, k0, k1] ∧ SC W h0 nx0 A0 n0 B0 m0 O0 I0 ∧ SC W h1 nx1 A1 n1 B1 m1 O1 I1 ∧
  W.ownsRow (p + 1) 27 2 s0 Z0.length (cT Z0) ∧ W.ownsRow (p + 1) 27 2 s1 Z1.length (cT Z1) ∧ W.ownsRow (p + 1) 3 1 k0 K0.length (cI K0) ∧ W.ownsRow (p + 1) 3 1 k1 K1.length (cI K1) ∧ Ap s0.ownBlock s1.ownBlock k0.ownBlock k1.ownBlock (adr A0) (adr A1) (adr B0) (adr B1)
theorem PM.keep {W' : World} {W : World} {p : Nat} {h0 nx0 : Int} {A0 : Option Addr} {n0 : Nat} {B0 : Option Addr} {m0 : Nat} {h1 nx1 : Int} {A1 : Option Addr} {n1 : Nat} {B1 : Option Addr} {m1 : Nat} {s0 s1 k0 k1 : Value} {O0 : List (Int × Int)} {I0 : List Int} {Z0 : List (Int × Int)} {K0 : List Int} {O1 : List (Int × Int)} {I1 : List Int} {Z1 : List (Int × Int)} {K1 : List Int} (h : PM W p h0 nx0 A0 n0 B0 m0 h1 nx1 A1 n1 B1 m1 s0 s1 k0 k1 O0 I0 Z0 K0 O1 I1 Z1 K1) (hb : Below W.heap.size W W') : PM W' p h0 nx0 A0 n0 B0 m0 h1 nx1 A1 n1 B1 m1 s0 s1 k0 k1 O0 I0 Z0 K0 O1 I1 Z1 K1 :=
  ⟨h.1.keep hb, h.2.1.keep hb, h.2.2.1.keep hb, own_below h.2.2.2.1 hb, own_below h.2.2.2.2.1 hb, own_below h.2.2.2.2.2.1 hb, own_below h.2.2.2.2.2.2.1 hb, h.2.2.2.2.2.2.2⟩
theorem own_old {w : World} {base : Nat} {e : TypeId} {size : Nat} {v : Value} {n : Nat} {xs : List Value} (h : w.ownsRow base e size v n xs) : old w.heap.size v.ownBlock := fun g hg => (h.lt g hg).2
theorem RT.old {W : World} {A : Option Addr} {t : TypeId} {cs : List Value} (x : RT W A t cs) : old W.heap.size (adr A) := by
  rcases x with ⟨rfl, _⟩ | ⟨g, rfl, h⟩
  · intro g hg; cases hg
  · intro g' hg
    simp [adr] at hg
    subst hg
    exact h.lt
theorem SC.rt {W : World} {h nx : Int} {A : Option Addr} {n : Nat} {B : Option Addr} {m : Nat} {O : List (Int × Int)} {I : List Int} (x : SC W h nx A n B m O I) : RT W A 27 (cT O) ∧ RT W B 3 (cI I) := by
  obtain ⟨A', B', n', m', e, _, _, h3, h4⟩ := x
  injection e with e
  have e1 := congrArg (fun l : Array Value => l.toList) e
  simp at e1
  obtain ⟨⟨rfl, rfl⟩, rfl, rfl⟩ := e1
  exact ⟨h3, h4⟩
theorem RT.grow {W W' : World} {A : Option Addr} {t : TypeId} {cs : List Value} {r : Option Nat} (x : RT W A t cs) (hg : W.grownBy W' r) (ha : apart r (adr A)) : RT W' A t cs := by
  rcases x with h | ⟨g, rfl, h⟩
  · exact .inl h
  · exact .inr ⟨g, rfl, h.grow hg fun e => ha g e rfl⟩
theorem SC.grow {W W' : World} {h nx : Int} {A : Option Addr} {n : Nat} {B : Option Addr} {m : Nat} {O : List (Int × Int)} {I : List Int} {r : Option Nat} (x : SC W h nx A n B m O I) (hg : W.grownBy W' r) (ha : apart r (adr A)) (hb : apart r (adr B)) : SC W' h nx A n B m O I := by
  have hr := x.rt
  obtain ⟨A', B', n', m', e, e1, e2, h3, h4⟩ := x
  have e0 := e
  injection e with e
  have e5 := congrArg (fun l : Array Value => l.toList) e
  simp at e5
  obtain ⟨⟨rfl, rfl⟩, rfl, rfl⟩ := e5
  exact ⟨_, _, _, _, e0, e1, e2, hr.1.grow hg ha, hr.2.grow hg hb⟩
theorem own_grow {W W' : World} {B : Nat} {t : TypeId} {s n : Nat} {v : Value} {xs : List Value} {r : Option Nat} (h : W.ownsRow B t s v n xs) (hg : W.grownBy W' r) (ha : apart r v.ownBlock) : W'.ownsRow B t s v n xs := by
  refine ⟨h.1, ?_⟩
  rcases h.2 with h' | ⟨g, cap, cur, h1, h2, h3, h4⟩
  · exact .inl h'
  · refine .inr ⟨g, cap, cur, h1, h2, (hg.block g (Array.getElem?_eq_some_iff.1 h3).1 (fun e => ha g e.symm ?_)).trans h3, h4⟩
    rw [h1]; rfl
theorem PM.share0 {W : World} {p : Nat} {h0 nx0 : Int} {A0 : Option Addr} {n0 : Nat} {B0 : Option Addr} {m0 : Nat} {h1 nx1 : Int} {A1 : Option Addr} {n1 : Nat} {B1 : Option Addr} {m1 : Nat} {s0 s1 k0 k1 : Value} {O0 : List (Int × Int)} {I0 : List Int} {Z0 : List (Int × Int)} {K0 : List Int} {O1 : List (Int × Int)} {I1 : List Int} {Z1 : List (Int × Int)} {K1 : List Int} {h' nx' : Int} {A' : Option Addr} {n' : Nat} {B' : Option Addr} {m' : Nat} {O' : List (Int × Int)} {I' : List Int} (h : PM W p h0 nx0 A0 n0 B0 m0 h1 nx1 A1 n1 B1 m1 s0 s1 k0 k1 O0 I0 Z0 K0 O1 I1 Z1 K1) (hs : SC W h' nx' A' n' B' m' O' I')
    (ha : Ap s0.ownBlock s1.ownBlock k0.ownBlock k1.ownBlock (adr A') (adr A1) (adr B') (adr B1)) : PM ((((W.setCell ⟨p, 0, none⟩ (.int .i64 h')).setCell ⟨p, 1, none⟩ (.int .i64 nx')).setCell ⟨p, 2, none⟩ (.slice A' n' n')).setCell ⟨p, 3, none⟩ (.slice B' m' m')) p h' nx' A' n' B' m' h1 nx1 A1 n1 B1 m1 s0 s1 k0 k1 O' I' Z0 K0 O1 I1 Z1 K1 :=
  ⟨((((h.1.set 0 _).set 1 _).set 2 _).set 3 _), (hs.far4 h.1 (by decide) (by decide) 0 1 2 3 _ _ _ _), (h.2.2.1.far4 h.1 (by decide) (by decide) 0 1 2 3 _ _ _ _), (own_set (own_set (own_set (own_set h.2.2.2.1 (Nat.lt_succ_self p) 0 _) (Nat.lt_succ_self p) 1 _) (Nat.lt_succ_self p) 2 _) (Nat.lt_succ_self p) 3 _), (own_set (own_set (own_set (own_set h.2.2.2.2.1 (Nat.lt_succ_self p) 0 _) (Nat.lt_succ_self p) 1 _) (Nat.lt_succ_self p) 2 _) (Nat.lt_succ_self p) 3 _), (own_set (own_set (own_set (own_set h.2.2.2.2.2.1 (Nat.lt_succ_self p) 0 _) (Nat.lt_succ_self p) 1 _) (Nat.lt_succ_self p) 2 _) (Nat.lt_succ_self p) 3 _), (own_set (own_set (own_set (own_set h.2.2.2.2.2.2.1 (Nat.lt_succ_self p) 0 _) (Nat.lt_succ_self p) 1 _) (Nat.lt_succ_self p) 2 _) (Nat.lt_succ_self p) 3 _), ha⟩
theorem PM.new0 {W : World} {p : Nat} {h0 nx0 : Int} {A0 : Option Addr} {n0 : Nat} {B0 : Option Addr} {m0 : Nat} {h1 nx1 : Int} {A1 : Option Addr} {n1 : Nat} {B1 : Option Addr} {m1 : Nat} {s0 s1 k0 k1 : Value} {O0 : List (Int × Int)} {I0 : List Int} {Z0 : List (Int × Int)} {K0 : List Int} {O1 : List (Int × Int)} {I1 : List Int} {Z1 : List (Int × Int)} {K1 : List Int} {A' : Option Addr} {B' : Option Addr} (h : PM W p h0 nx0 A0 n0 B0 m0 h1 nx1 A1 n1 B1 m1 s0 s1 k0 k1 O0 I0 Z0 K0 O1 I1 Z1 K1) (hA : ∀ g, adr A' = some g → W.heap.size ≤ g) (hB : ∀ g, adr B' = some g → W.heap.size ≤ g) :
    Ap s0.ownBlock s1.ownBlock k0.ownBlock k1.ownBlock (adr A') (adr A1) (adr B') (adr B1) :=
  h.2.2.2.2.2.2.2.share0 (own_old h.2.2.2.1) (own_old h.2.2.2.2.1) (own_old h.2.2.2.2.2.1) (own_old h.2.2.2.2.2.2.1) hA hB
theorem PM.share1 {W : World} {p : Nat} {h0 nx0 : Int} {A0 : Option Addr} {n0 : Nat} {B0 : Option Addr} {m0 : Nat} {h1 nx1 : Int} {A1 : Option Addr} {n1 : Nat} {B1 : Option Addr} {m1 : Nat} {s0 s1 k0 k1 : Value} {O0 : List (Int × Int)} {I0 : List Int} {Z0 : List (Int × Int)} {K0 : List Int} {O1 : List (Int × Int)} {I1 : List Int} {Z1 : List (Int × Int)} {K1 : List Int} {h' nx' : Int} {A' : Option Addr} {n' : Nat} {B' : Option Addr} {m' : Nat} {O' : List (Int × Int)} {I' : List Int} (h : PM W p h0 nx0 A0 n0 B0 m0 h1 nx1 A1 n1 B1 m1 s0 s1 k0 k1 O0 I0 Z0 K0 O1 I1 Z1 K1) (hs : SC W h' nx' A' n' B' m' O' I')
    (ha : Ap s0.ownBlock s1.ownBlock k0.ownBlock k1.ownBlock (adr A0) (adr A') (adr B0) (adr B')) : PM ((((W.setCell ⟨p, 4, none⟩ (.int .i64 h')).setCell ⟨p, 5, none⟩ (.int .i64 nx')).setCell ⟨p, 6, none⟩ (.slice A' n' n')).setCell ⟨p, 7, none⟩ (.slice B' m' m')) p h0 nx0 A0 n0 B0 m0 h' nx' A' n' B' m' s0 s1 k0 k1 O0 I0 Z0 K0 O' I' Z1 K1 :=
  ⟨((((h.1.set 4 _).set 5 _).set 6 _).set 7 _), (h.2.1.far4 h.1 (by decide) (by decide) 4 5 6 7 _ _ _ _), (hs.far4 h.1 (by decide) (by decide) 4 5 6 7 _ _ _ _), (own_set (own_set (own_set (own_set h.2.2.2.1 (Nat.lt_succ_self p) 4 _) (Nat.lt_succ_self p) 5 _) (Nat.lt_succ_self p) 6 _) (Nat.lt_succ_self p) 7 _), (own_set (own_set (own_set (own_set h.2.2.2.2.1 (Nat.lt_succ_self p) 4 _) (Nat.lt_succ_self p) 5 _) (Nat.lt_succ_self p) 6 _) (Nat.lt_succ_self p) 7 _), (own_set (own_set (own_set (own_set h.2.2.2.2.2.1 (Nat.lt_succ_self p) 4 _) (Nat.lt_succ_self p) 5 _) (Nat.lt_succ_self p) 6 _) (Nat.lt_succ_self p) 7 _), (own_set (own_set (own_set (own_set h.2.2.2.2.2.2.1 (Nat.lt_succ_self p) 4 _) (Nat.lt_succ_self p) 5 _) (Nat.lt_succ_self p) 6 _) (Nat.lt_succ_self p) 7 _), ha⟩
theorem PM.new1 {W : World} {p : Nat} {h0 nx0 : Int} {A0 : Option Addr} {n0 : Nat} {B0 : Option Addr} {m0 : Nat} {h1 nx1 : Int} {A1 : Option Addr} {n1 : Nat} {B1 : Option Addr} {m1 : Nat} {s0 s1 k0 k1 : Value} {O0 : List (Int × Int)} {I0 : List Int} {Z0 : List (Int × Int)} {K0 : List Int} {O1 : List (Int × Int)} {I1 : List Int} {Z1 : List (Int × Int)} {K1 : List Int} {A' : Option Addr} {B' : Option Addr} (h : PM W p h0 nx0 A0 n0 B0 m0 h1 nx1 A1 n1 B1 m1 s0 s1 k0 k1 O0 I0 Z0 K0 O1 I1 Z1 K1) (hA : ∀ g, adr A' = some g → W.heap.size ≤ g) (hB : ∀ g, adr B' = some g → W.heap.size ≤ g) :
    Ap s0.ownBlock s1.ownBlock k0.ownBlock k1.ownBlock (adr A0) (adr A') (adr B0) (adr B') :=
  h.2.2.2.2.2.2.2.share1 (own_old h.2.2.2.1) (own_old h.2.2.2.2.1) (own_old h.2.2.2.2.2.1) (own_old h.2.2.2.2.2.2.1) hA hB
theorem PM.row0 {W' : World} {W : World} {p : Nat} {h0 nx0 : Int} {A0 : Option Addr} {n0 : Nat} {B0 : Option Addr} {m0 : Nat} {h1 nx1 : Int} {A1 : Option Addr} {n1 : Nat} {B1 : Option Addr} {m1 : Nat} {s0 s1 k0 k1 : Value} {O0 : List (Int × Int)} {I0 : List Int} {Z0 : List (Int × Int)} {K0 : List Int} {O1 : List (Int × Int)} {I1 : List Int} {Z1 : List (Int × Int)} {K1 : List Int} {s0' : Value} {Z0' : List (Int × Int)} (h : PM W p h0 nx0 A0 n0 B0 m0 h1 nx1 A1 n1 B1 m1 s0 s1 k0 k1 O0 I0 Z0 K0 O1 I1 Z1 K1) (hg : W.grownBy W' s0.ownBlock) (ho : W'.ownsRow (p + 1) 27 2 s0' Z0'.length (cT Z0')) (hf : s0'.ownBlock = s0.ownBlock ∨ s0'.ownBlock = some W.heap.size) : PM (W'.setCell ⟨p, 8, none⟩ s0') p h0 nx0 A0 n0 B0 m0 h1 nx1 A1 n1 B1 m1 s0' s1 k0 k1 O0 I0 Z0' K0 O1 I1 Z1 K1 := by
  have hf' : fresh W.heap.size s0.ownBlock s0'.ownBlock := by
    rcases hf with e | e
    · exact .inl e
    · exact .inr fun g hg => by rw [e] at hg; cases hg; exact Nat.le_refl _
  have z0 := h.2.1.rt
  have z1 := h.2.2.1.rt
  exact ⟨(h.1.grow hg (own_blk h.2.2.2.1 (Nat.lt_succ_self p))).set 8 _, ((h.2.1.grow hg (h.2.2.2.2.2.2.2.2.1.1) (h.2.2.2.2.2.2.2.2.1.2.2.1)).far (h.1.grow hg (own_blk h.2.2.2.1 (Nat.lt_succ_self p))) (by decide) (by decide) 8 _), ((h.2.2.1.grow hg (h.2.2.2.2.2.2.2.2.1.2.1) (h.2.2.2.2.2.2.2.2.1.2.2.2)).far (h.1.grow hg (own_blk h.2.2.2.1 (Nat.lt_succ_self p))) (by decide) (by decide) 8 _), own_set ho (Nat.lt_succ_self p) 8 _, own_set (own_grow h.2.2.2.2.1 hg (h.2.2.2.2.2.2.2.1.1)) (Nat.lt_succ_self p) 8 _, own_set (own_grow h.2.2.2.2.2.1 hg (h.2.2.2.2.2.2.2.1.2.1)) (Nat.lt_succ_self p) 8 _, own_set (own_grow h.2.2.2.2.2.2.1 hg (h.2.2.2.2.2.2.2.1.2.2.1)) (Nat.lt_succ_self p) 8 _, h.2.2.2.2.2.2.2.row0 hf' (own_old h.2.2.2.2.1) (own_old h.2.2.2.2.2.1) (own_old h.2.2.2.2.2.2.1) z0.1.old z1.1.old z0.2.old z1.2.old⟩
theorem PM.row1 {W' : World} {W : World} {p : Nat} {h0 nx0 : Int} {A0 : Option Addr} {n0 : Nat} {B0 : Option Addr} {m0 : Nat} {h1 nx1 : Int} {A1 : Option Addr} {n1 : Nat} {B1 : Option Addr} {m1 : Nat} {s0 s1 k0 k1 : Value} {O0 : List (Int × Int)} {I0 : List Int} {Z0 : List (Int × Int)} {K0 : List Int} {O1 : List (Int × Int)} {I1 : List Int} {Z1 : List (Int × Int)} {K1 : List Int} {s1' : Value} {Z1' : List (Int × Int)} (h : PM W p h0 nx0 A0 n0 B0 m0 h1 nx1 A1 n1 B1 m1 s0 s1 k0 k1 O0 I0 Z0 K0 O1 I1 Z1 K1) (hg : W.grownBy W' s1.ownBlock) (ho : W'.ownsRow (p + 1) 27 2 s1' Z1'.length (cT Z1')) (hf : s1'.ownBlock = s1.ownBlock ∨ s1'.ownBlock = some W.heap.size) : PM (W'.setCell ⟨p, 9, none⟩ s1') p h0 nx0 A0 n0 B0 m0 h1 nx1 A1 n1 B1 m1 s0 s1' k0 k1 O0 I0 Z0 K0 O1 I1 Z1' K1 := by
  have hf' : fresh W.heap.size s1.ownBlock s1'.ownBlock := by
    rcases hf with e | e
    · exact .inl e
    · exact .inr fun g hg => by rw [e] at hg; cases hg; exact Nat.le_refl _
  have z0 := h.2.1.rt
  have z1 := h.2.2.1.rt
  exact ⟨(h.1.grow hg (own_blk h.2.2.2.2.1 (Nat.lt_succ_self p))).set 9 _, ((h.2.1.grow hg (h.2.2.2.2.2.2.2.2.2.1.1) (h.2.2.2.2.2.2.2.2.2.1.2.2.1)).far (h.1.grow hg (own_blk h.2.2.2.2.1 (Nat.lt_succ_self p))) (by decide) (by decide) 9 _), ((h.2.2.1.grow hg (h.2.2.2.2.2.2.2.2.2.1.2.1) (h.2.2.2.2.2.2.2.2.2.1.2.2.2)).far (h.1.grow hg (own_blk h.2.2.2.2.1 (Nat.lt_succ_self p))) (by decide) (by decide) 9 _), own_set (own_grow h.2.2.2.1 hg (apart_sym (h.2.2.2.2.2.2.2.1.1))) (Nat.lt_succ_self p) 9 _, own_set ho (Nat.lt_succ_self p) 9 _, own_set (own_grow h.2.2.2.2.2.1 hg (h.2.2.2.2.2.2.2.1.2.2.2.1)) (Nat.lt_succ_self p) 9 _, own_set (own_grow h.2.2.2.2.2.2.1 hg (h.2.2.2.2.2.2.2.1.2.2.2.2.1)) (Nat.lt_succ_self p) 9 _, h.2.2.2.2.2.2.2.row1 hf' (own_old h.2.2.2.1) (own_old h.2.2.2.2.2.1) (own_old h.2.2.2.2.2.2.1) z0.1.old z1.1.old z0.2.old z1.2.old⟩
theorem PM.row2 {W' : World} {W : World} {p : Nat} {h0 nx0 : Int} {A0 : Option Addr} {n0 : Nat} {B0 : Option Addr} {m0 : Nat} {h1 nx1 : Int} {A1 : Option Addr} {n1 : Nat} {B1 : Option Addr} {m1 : Nat} {s0 s1 k0 k1 : Value} {O0 : List (Int × Int)} {I0 : List Int} {Z0 : List (Int × Int)} {K0 : List Int} {O1 : List (Int × Int)} {I1 : List Int} {Z1 : List (Int × Int)} {K1 : List Int} {k0' : Value} {K0' : List Int} (h : PM W p h0 nx0 A0 n0 B0 m0 h1 nx1 A1 n1 B1 m1 s0 s1 k0 k1 O0 I0 Z0 K0 O1 I1 Z1 K1) (hg : W.grownBy W' k0.ownBlock) (ho : W'.ownsRow (p + 1) 3 1 k0' K0'.length (cI K0')) (hf : k0'.ownBlock = k0.ownBlock ∨ k0'.ownBlock = some W.heap.size) : PM (W'.setCell ⟨p, 10, none⟩ k0') p h0 nx0 A0 n0 B0 m0 h1 nx1 A1 n1 B1 m1 s0 s1 k0' k1 O0 I0 Z0 K0' O1 I1 Z1 K1 := by
  have hf' : fresh W.heap.size k0.ownBlock k0'.ownBlock := by
    rcases hf with e | e
    · exact .inl e
    · exact .inr fun g hg => by rw [e] at hg; cases hg; exact Nat.le_refl _
  have z0 := h.2.1.rt
  have z1 := h.2.2.1.rt
  exact ⟨(h.1.grow hg (own_blk h.2.2.2.2.2.1 (Nat.lt_succ_self p))).set 10 _, ((h.2.1.grow hg (h.2.2.2.2.2.2.2.2.2.2.1.1) (h.2.2.2.2.2.2.2.2.2.2.1.2.2.1)).far (h.1.grow hg (own_blk h.2.2.2.2.2.1 (Nat.lt_succ_self p))) (by decide) (by decide) 10 _), ((h.2.2.1.grow hg (h.2.2.2.2.2.2.2.2.2.2.1.2.1) (h.2.2.2.2.2.2.2.2.2.2.1.2.2.2)).far (h.1.grow hg (own_blk h.2.2.2.2.2.1 (Nat.lt_succ_self p))) (by decide) (by decide) 10 _), own_set (own_grow h.2.2.2.1 hg (apart_sym (h.2.2.2.2.2.2.2.1.2.1))) (Nat.lt_succ_self p) 10 _, own_set (own_grow h.2.2.2.2.1 hg (apart_sym (h.2.2.2.2.2.2.2.1.2.2.2.1))) (Nat.lt_succ_self p) 10 _, own_set ho (Nat.lt_succ_self p) 10 _, own_set (own_grow h.2.2.2.2.2.2.1 hg (h.2.2.2.2.2.2.2.1.2.2.2.2.2)) (Nat.lt_succ_self p) 10 _, h.2.2.2.2.2.2.2.row2 hf' (own_old h.2.2.2.1) (own_old h.2.2.2.2.1) (own_old h.2.2.2.2.2.2.1) z0.1.old z1.1.old z0.2.old z1.2.old⟩
theorem PM.row3 {W' : World} {W : World} {p : Nat} {h0 nx0 : Int} {A0 : Option Addr} {n0 : Nat} {B0 : Option Addr} {m0 : Nat} {h1 nx1 : Int} {A1 : Option Addr} {n1 : Nat} {B1 : Option Addr} {m1 : Nat} {s0 s1 k0 k1 : Value} {O0 : List (Int × Int)} {I0 : List Int} {Z0 : List (Int × Int)} {K0 : List Int} {O1 : List (Int × Int)} {I1 : List Int} {Z1 : List (Int × Int)} {K1 : List Int} {k1' : Value} {K1' : List Int} (h : PM W p h0 nx0 A0 n0 B0 m0 h1 nx1 A1 n1 B1 m1 s0 s1 k0 k1 O0 I0 Z0 K0 O1 I1 Z1 K1) (hg : W.grownBy W' k1.ownBlock) (ho : W'.ownsRow (p + 1) 3 1 k1' K1'.length (cI K1')) (hf : k1'.ownBlock = k1.ownBlock ∨ k1'.ownBlock = some W.heap.size) : PM (W'.setCell ⟨p, 11, none⟩ k1') p h0 nx0 A0 n0 B0 m0 h1 nx1 A1 n1 B1 m1 s0 s1 k0 k1' O0 I0 Z0 K0 O1 I1 Z1 K1' := by
  have hf' : fresh W.heap.size k1.ownBlock k1'.ownBlock := by
    rcases hf with e | e
    · exact .inl e
    · exact .inr fun g hg => by rw [e] at hg; cases hg; exact Nat.le_refl _
  have z0 := h.2.1.rt
  have z1 := h.2.2.1.rt
  exact ⟨(h.1.grow hg (own_blk h.2.2.2.2.2.2.1 (Nat.lt_succ_self p))).set 11 _, ((h.2.1.grow hg (h.2.2.2.2.2.2.2.2.2.2.2.1) (h.2.2.2.2.2.2.2.2.2.2.2.2.2.1)).far (h.1.grow hg (own_blk h.2.2.2.2.2.2.1 (Nat.lt_succ_self p))) (by decide) (by decide) 11 _), ((h.2.2.1.grow hg (h.2.2.2.2.2.2.2.2.2.2.2.2.1) (h.2.2.2.2.2.2.2.2.2.2.2.2.2.2)).far (h.1.grow hg (own_blk h.2.2.2.2.2.2.1 (Nat.lt_succ_self p))) (by decide) (by decide) 11 _), own_set (own_grow h.2.2.2.1 hg (apart_sym (h.2.2.2.2.2.2.2.1.2.2.1))) (Nat.lt_succ_self p) 11 _, own_set (own_grow h.2.2.2.2.1 hg (apart_sym (h.2.2.2.2.2.2.2.1.2.2.2.2.1))) (Nat.lt_succ_self p) 11 _, own_set (own_grow h.2.2.2.2.2.1 hg (apart_sym (h.2.2.2.2.2.2.2.1.2.2.2.2.2))) (Nat.lt_succ_self p) 11 _, own_set ho (Nat.lt_succ_self p) 11 _, h.2.2.2.2.2.2.2.row3 hf' (own_old h.2.2.2.1) (own_old h.2.2.2.2.1) (own_old h.2.2.2.2.2.1) z0.1.old z1.1.old z0.2.old z1.2.old⟩
section
variable {P : Program}
/-- append onto a row of one's own, at a step of a region that draws; where the row then lies -/
theorem step_rlf (w : World) {ops : Array Oper} {o : Oper} {a : Act} {K : Act → World → Prop} {Q : Exit → Act → World → Prop} {E : Prop} (hgd : o.guard = none) (s x : Operand) (t : TypeId)
    (ho : o.op = .call { callee := .builtin .append, args := #[s, x], argTypes := #[t, t] })
    (base : Nat) (e : TypeId) (i : TypeInfo) (z : Value) (size bytes : Nat) (ht : P.underlying t = some (.slice e)) (hi : P.info? e = some i) (hz : i.zero = some z)
    (hsize : i.size = size) (hby : i.bytes = bytes) (hzs : z.cells.size = size) (hsz : 0 < size)
    (v : Value) (n : Nat) (xs : List Value) (hs : a.eval s = v) (hown : w.ownsRow base e size v n xs)
    (g : Nat) (m c : Nat) (news : List Value) (hx : a.eval x = .slice (some ⟨g, 0, none⟩) m c) (hl : news.length = m * size) (hR : OW w g e news) (h1 : ∀ u ∈ news, u.oneCell' = true)
    (h63 : n + m ≤ maxLen) (hbytes : (n + m) * bytes ≤ 140737488355328) (hbase : base ≤ w.heap.size)
    (h : ∀ v' w', w'.ownsRow base e size v' (n + m) (xs ++ news) → w.grownBy w' v.ownBlock → (v'.ownBlock = v.ownBlock ∨ v'.ownBlock = some w.heap.size) → K (a.put o.dst v') w') :
    if Region.wanted o (yielded ops a.tmps) = true then Oper.wp P o a w K Q else E := by
  have hw : Region.wanted o (yielded ops a.tmps) = true := by simp [Region.wanted, hgd]
  rw [if_pos hw]
  have hn : ∀ j u, news[j]? = some u → w.cell? ((⟨g, 0, none⟩ : Addr).add j) = some u := by
    intro j u hu
    rw [Addr.add_lit, Nat.zero_add]
    exact hR.at hu
  obtain ⟨v', w', hr, h2, h3, _, h5⟩ := run_append_own_at (P := P) w base t o.type e i z size bytes ht hi hz hsize hby hzs hsz v n xs hown ⟨g, 0, none⟩ m c news hl hn h1 h63 hbytes hbase
  unfold Oper.wp execOp
  simp only [ho, resolve, invoke, builtin, Sem.run_bind, Sem.run_pure, Result.andThen_ok, List.map_toArray, List.map_cons, List.map_nil, hs, hx, hr]
  exact h v' w' h2 h3 h5
end
end Go.Proofs.Yteeohndgkfilaaa
