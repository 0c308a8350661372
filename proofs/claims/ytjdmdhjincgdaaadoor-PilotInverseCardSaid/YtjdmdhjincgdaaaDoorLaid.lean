/-
  WHAT THE ROW's LIST OF VARIABLES GIVES: the sixteen cells of the table of parts; and a world that holds them, for the witness.
-/
import Derived.Test.YtjdmdhjincgdaaaDoorLaws
import Derived.Test.YtjdmdhjincgdaaaDoorPost
import Derived.Deep.DeepHandedRow
import Derived.Lib.LaidTab
namespace Go.Proofs.YtjdmdhjincgdaaaDoor
open Go.ChangeShapes Go.WideShapes Go.ChangeAt Go.RowKit

theorem gTab : Tryd.prog.globalNamed "chargepark/pilot.parts" = some 0 := by kernel_rfl
theorem gTabType : (Tryd.prog.globals[0]?).map (·.type) = some 39 := by kernel_rfl
theorem cellsPart : Tryd.prog.cellsOf 37 = 4 := by kernel_rfl
theorem cellsInt : Tryd.prog.cellsOf 3 = 1 := by kernel_rfl

/-- a part that reads as four numbers holds them -/
theorem part_cells {H : Type} {enc : TypeId × Value → H} {W : World} {base : Nat} {sp : Nat → Bool} {held : Bool} {fuel : Nat} {cs : List Value} {x : DataW H × List MemPlace} {a b c d : Int}
    (h : DataW.trod enc Tryd.prog W base sp held fuel 37 cs = some x) (hx : x.1 = .agg [.lit (.int .i64 a), .lit (.int .i64 b), .lit (.int .i64 c), .lit (.int .i64 d)]) :
    cs = [.int .i64 a, .int .i64 b, .int .i64 c, .int .i64 d] := by
  obtain ⟨xs, n, _, rfl, hl, hlen, hf⟩ := DataW.trod_struct Tryd.underlying37 h
  rw [cellsPart] at hl
  match cs, hl with
  | [c0, c1, c2, c3], _ =>
    match xs, hlen with
    | [y0, y1, y2, y3], _ =>
      have f0 := hf 0 _ rfl
      have f1 := hf 1 _ rfl
      have f2 := hf 2 _ rfl
      have f3 := hf 3 _ rfl
      obtain ⟨z0, e0, rfl, _⟩ := DataW.trod_int Tryd.underlying3 f0
      obtain ⟨z1, e1, rfl, _⟩ := DataW.trod_int Tryd.underlying3 f1
      obtain ⟨z2, e2, rfl, _⟩ := DataW.trod_int Tryd.underlying3 f2
      obtain ⟨z3, e3, rfl, _⟩ := DataW.trod_int Tryd.underlying3 f3
      simp at hx
      obtain ⟨rfl, rfl, rfl, rfl⟩ := hx
      simp [cellsInt] at e0 e1 e2 e3
      subst e0 e1 e2 e3
      rfl

theorem tab_of {W : World} (h : laidMetH Tryd.prog [("chargepark/pilot.parts", Rows.laid_chargepark_pilot_parts)] W) : Tab W := by
  have h' : laidMet Tryd.prog [("chargepark/pilot.parts", Rows.laid_chargepark_pilot_parts)] W := h
  obtain ⟨ps, ⟨g', t', cs, fuel, p, q, hg', ht', hvar, hd, _, _⟩, _⟩ := h'
  obtain rfl := Option.some.inj (gTab.symm.trans hg')
  obtain rfl := Option.some.inj (gTabType.symm.trans ht')
  obtain ⟨xs, n, _, hx, hl, hlen, hf⟩ := DataW.trod_array Tryd.underlying39 hd
  rw [cellsPart] at hf
  match xs, hlen with
  | [y0, y1, y2, y3], _ =>
    have hx' := congrArg Prod.fst hx
    simp only [Rows.laid_chargepark_pilot_parts, List.map_cons, List.map_nil, DataW.agg.injEq, List.cons.injEq, and_true] at hx'
    obtain ⟨x0, x1, x2, x3⟩ := hx'
    have q0 := part_cells (hf 0 (by omega)) x0.symm
    have q1 := part_cells (hf 1 (by omega)) x1.symm
    have q2 := part_cells (hf 2 (by omega)) x2.symm
    have q3 := part_cells (hf 3 (by omega)) x3.symm
    have hcell : ∀ i, W.cell? ⟨0, i, none⟩ = cs.toList[i]? := fun i => by rw [World.var?_cell gTab hvar i]; simp
    have key : ∀ (k j : Nat) (l : List Value), (cs.toList.drop (k * 4)).take 4 = l → j < 4 → cs.toList[k * 4 + j]? = l[j]? := by
      intro k j l e hj
      rw [← e, List.getElem?_take_of_lt hj, List.getElem?_drop]
    refine ⟨?_, ?_⟩
    · have := hcell 0
      rw [show (0 : Nat) = 0 * 4 + 0 from rfl, key 0 0 _ q0 (by omega)] at this
      rcases Nat.eq_zero_or_pos W.heap.size with hz | hz
      · exfalso
        have hn : W.heap[0]? = none := by simp [hz]
        simp [World.cell?, hn] at this
      · exact hz
    · intro i hi
      rw [hcell i]
      match i, hi with
      | 0, _ => exact key 0 0 _ q0 (by omega)
      | 1, _ => exact key 0 1 _ q0 (by omega)
      | 2, _ => exact key 0 2 _ q0 (by omega)
      | 3, _ => exact key 0 3 _ q0 (by omega)
      | 4, _ => exact key 1 0 _ q1 (by omega)
      | 5, _ => exact key 1 1 _ q1 (by omega)
      | 6, _ => exact key 1 2 _ q1 (by omega)
      | 7, _ => exact key 1 3 _ q1 (by omega)
      | 8, _ => exact key 2 0 _ q2 (by omega)
      | 9, _ => exact key 2 1 _ q2 (by omega)
      | 10, _ => exact key 2 2 _ q2 (by omega)
      | 11, _ => exact key 2 3 _ q2 (by omega)
      | 12, _ => exact key 3 0 _ q3 (by omega)
      | 13, _ => exact key 3 1 _ q3 (by omega)
      | 14, _ => exact key 3 2 _ q3 (by omega)
      | 15, _ => exact key 3 3 _ q3 (by omega)
      | m + 16, hm => exact absurd hm (by omega)

/-- the settled world, the table laid in it -/
noncomputable def laidWorld (os : Os) : World :=
  { World.holding Tryd.prog os ⟨#[], #[], []⟩ with heap := (World.holding Tryd.prog os ⟨#[], #[], []⟩).heap.modify 0 fun
      | .cells _ t frozen => .cells #[.int .i64 0, .int .i64 0, .int .i64 1000, .int .i64 1000, .int .i64 6, .int .i64 51, .int .i64 100, .int .i64 850, .int .i64 52, .int .i64 52, .int .i64 851, .int .i64 851, .int .i64 53, .int .i64 80, .int .i64 852, .int .i64 960] t frozen
      | o => o }
end Go.Proofs.YtjdmdhjincgdaaaDoor
