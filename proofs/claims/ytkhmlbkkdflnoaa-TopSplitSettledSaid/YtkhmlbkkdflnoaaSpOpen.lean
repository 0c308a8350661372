/-
  AN ARGUMENT OPENED: a slice of numbers.
-/
import Derived.Test.YtkhmlbkkdflnoaaMem
import Derived.Test.YtkhmlbkkdflnoaaOpenInts
import Derived.Test.YtkhmlbkkdflnoaaPost
namespace Go.Proofs.Ytkhmlbkkdflnoaa.Sp
open Go.Joins Go.ChangeShapes Go.WideShapes Go.ChangeAt Go.RowKit Go.Deep
theorem cellsInt : Try.prog.cellsOf 3 = 1 := by kernel_rfl
theorem rn_rz {w : World} {A : Option Addr} {n : Nat} {z : Nat → Int} (x : RN .i64 w A n z) : RZ w A n z := fun i hi => by
  obtain ⟨b, o, e, hb, hc, _⟩ := x i hi
  exact ⟨b, o, e, hb, hc⟩
end Go.Proofs.Ytkhmlbkkdflnoaa.Sp
