/-
  THE WALKS over apply: rows beside other blocks.
-/
import Derived.Test.YteeohndgkfilaaaApply
namespace Go.Proofs.Yteeohndgkfilaaa
open Go.RowKit
set_option linter.unusedVariables false
attribute [local go_sem ↓] Go.wp_at_zero Go.wp_at_succ

theorem OW_ne {W : World} {g b : Nat} {t u : TypeId} {cs ds : List Value} (h : OW W g t cs) (h' : OW W b u ds) (hne : u ≠ t) : b ≠ g := by
  rintro rfl
  have q3 := (h' : W.heap[b]? = _).symm.trans h
  injection q3 with q4
  injection q4 with _ q5
  exact hne q5
theorem own_far {W : World} {B : Nat} {t u : TypeId} {s n : Nat} {v : Value} {xs ds : List Value} (h : W.ownsRow B t s v n xs) {b : Nat} (h' : OW W b u ds) (hne : u ≠ t) (j : Nat) (z : Value) : (W.setCell ⟨b, j, none⟩ z).ownsRow B t s v n xs := by
  refine ⟨h.1, ?_⟩
  rcases h.2 with h1 | ⟨g, cap, cur, h1, h2, h3, h4⟩
  · exact .inl h1
  · refine .inr ⟨g, cap, cur, h1, h2, (Below.heap_setCell W ⟨b, j, none⟩ z g (fun e => ?_)).trans h3, h4⟩
    simp at e
    subst e
    have q3 := (h' : W.heap[g]? = _).symm.trans h3
    injection q3 with q4
    injection q4 with _ q5
    exact hne q5
theorem own_far4 {W : World} {B : Nat} {t u : TypeId} {s n : Nat} {v : Value} {xs ds : List Value} (h : W.ownsRow B t s v n xs) {b : Nat} (h' : OW W b u ds) (hne : u ≠ t) (j0 j1 j2 j3 : Nat) (z0 z1 z2 z3 : Value) : ((((W.setCell ⟨b, j0, none⟩ z0).setCell ⟨b, j1, none⟩ z1).setCell ⟨b, j2, none⟩ z2).setCell ⟨b, j3, none⟩ z3).ownsRow B t s v n xs :=
  own_far (own_far (own_far (own_far h h' hne j0 z0) (h'.set j0 z0) hne j1 z1) ((h'.set j0 z0).set j1 z1) hne j2 z2) (((h'.set j0 z0).set j1 z1).set j2 z2) hne j3 z3
theorem PM.far4 {W : World} {p : Nat} {h0 nx0 : Int} {A0 : Option Addr} {n0 : Nat} {B0 : Option Addr} {m0 : Nat} {h1 nx1 : Int} {A1 : Option Addr} {n1 : Nat} {B1 : Option Addr} {m1 : Nat} {s0 s1 k0 k1 : Value} {O0 : List (Int × Int)} {I0 : List Int} {Z0 : List (Int × Int)} {K0 : List Int} {O1 : List (Int × Int)} {I1 : List Int} {Z1 : List (Int × Int)} {K1 : List Int} {b : Nat} {ds : List Value} (h : PM W p h0 nx0 A0 n0 B0 m0 h1 nx1 A1 n1 B1 m1 s0 s1 k0 k1 O0 I0 Z0 K0 O1 I1 Z1 K1) (hb : OW W b 25 ds) (j0 j1 j2 j3 : Nat) (z0 z1 z2 z3 : Value) : PM ((((W.setCell ⟨b, j0, none⟩ z0).setCell ⟨b, j1, none⟩ z1).setCell ⟨b, j2, none⟩ z2).setCell ⟨b, j3, none⟩ z3) p h0 nx0 A0 n0 B0 m0 h1 nx1 A1 n1 B1 m1 s0 s1 k0 k1 O0 I0 Z0 K0 O1 I1 Z1 K1 :=
  ⟨h.1.far4 (OW_ne h.1 hb (by decide)) j0 j1 j2 j3 _ _ _ _, h.2.1.far4 hb (by decide) (by decide) j0 j1 j2 j3 _ _ _ _, h.2.2.1.far4 hb (by decide) (by decide) j0 j1 j2 j3 _ _ _ _, own_far4 h.2.2.2.1 hb (by decide) j0 j1 j2 j3 _ _ _ _, own_far4 h.2.2.2.2.1 hb (by decide) j0 j1 j2 j3 _ _ _ _, own_far4 h.2.2.2.2.2.1 hb (by decide) j0 j1 j2 j3 _ _ _ _, own_far4 h.2.2.2.2.2.2.1 hb (by decide) j0 j1 j2 j3 _ _ _ _, h.2.2.2.2.2.2.2⟩
end Go.Proofs.Yteeohndgkfilaaa
