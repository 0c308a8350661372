/-
  ARGUMENTS OPENED: a fuse by value, slices of numbers and of bytes.
-/
import Derived.Test.YthjclpfddfjfhaaLawsd
import Derived.Test.YthjclpfddfjfhaaOpenInts
import Derived.Test.YthjclpfddfjfhaaPost
namespace Go.Proofs.Ythjclpfddfjfhaa
open Go.Joins Go.ChangeShapes Go.WideShapes Go.ChangeAt Go.RowKit Go.Deep

theorem cellsFuse : Try.prog.cellsOf 23 = 2 := by kernel_rfl
theorem cellsInt : Try.prog.cellsOf 3 = 1 := by kernel_rfl
theorem cellsByte : Try.prog.cellsOf 5 = 1 := by kernel_rfl
theorem RN.rz {w : World} {A : Option Addr} {n : Nat} {z : Nat → Int} (x : RN .i64 w A n z) : RZ w A n z := fun i hi => by
  obtain ⟨b, o, e, hb, hc, _⟩ := x i hi
  exact ⟨b, o, e, hb, hc⟩
theorem RN.rb {w : World} {A : Option Addr} {n : Nat} {z : Nat → Int} (x : RN .u8 w A n z) : RB w A n z := fun i hi => by
  obtain ⟨b, o, e, hb, hc, hw⟩ := x i hi
  exact ⟨b, o, e, hb, hc, by simpa [Lit.wf, IntKind.min, IntKind.max, IntKind.signed, IntKind.bits] using hw⟩
section
variable {H : Type} {enc : TypeId × Value → H} {W : World} {base : Nat} {sp : Nat → Bool} {held : Bool}
theorem open_fuse {r : Reach} {b0 : Nat} {v : Value} {d : DataW H} {p : List MemPlace} (hv : Value.okWide Try.prog W r b0 23 v) (h : DataW.Trod enc Try.prog W base sp held 23 v d p) :
    ∃ (s t : Int), v = .agg #[.int .i64 s, .int .i64 t] := by
  obtain ⟨c0, c1, y0, y1, n, rfl, _, _, h0, h1⟩ := open_agg2 Try.underlying23 (by kernel_rfl) cellsFuse hv h
  obtain ⟨s, e0, _, _⟩ := DataW.trod_int Try.underlying3 h0
  obtain ⟨t, e1, _, _⟩ := DataW.trod_int Try.underlying3 h1
  simp at e0 e1
  subst e0 e1
  exact ⟨s, t, rfl⟩
end
end Go.Proofs.Ythjclpfddfjfhaa
