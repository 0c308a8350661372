/-
  ROWS OF NUMBERS of one's own, that grow by append.
-/
import Derived.Test.YtkhmlbkkdflnoaaTre2
namespace Go.Proofs.Ytkhmlbkkdflnoaa.Nm
open Go.RowKit Go.Proofs.Ytkhmlbkkdflnoaa Go Go.Maps Go.WideMaps
set_option linter.unusedVariables false

theorem infoInt : (Try.prog.info? 3).map (fun i => (i.zero, i.size, i.bytes)) = some (some (.int .i64 0), 1, 8) := by kernel_rfl
theorem own_below {W W' : World} {B : Nat} {t : TypeId} {s n : Nat} {v : Value} {xs : List Value} (h : W.ownsRow B t s v n xs) (hb : Below W.heap.size W W') : W'.ownsRow B t s v n xs := by
  refine ⟨h.1, ?_⟩
  rcases h.2 with h' | ⟨g, cap, cur, h1, h2, h3, h4⟩
  · exact .inl h'
  · exact .inr ⟨g, cap, cur, h1, h2, (hb.block g (Array.getElem?_eq_some_iff.1 h3).1).trans h3, h4⟩
/-- a row of numbers of one's own -/
def IR (B : Nat) (W0 : World) (L : List Nat) (v : Value) (w : World) : Prop := w.ownsRow B 3 1 v L.length (L.map fun (n : Nat) => Value.int .i64 (n : Int)) ∧ Below B W0 w
theorem IR.alloc {B : Nat} {W0 w : World} {L : List Nat} {v : Value} (h : IR B W0 L v w) (hB : B ≤ w.heap.size) (o : Obj) : IR B W0 L v (w.alloc o) := ⟨h.1.alloc o, h.2.alloc hB o⟩
theorem IR.keep {B : Nat} {W0 w w' : World} {L : List Nat} {v : Value} (h : IR B W0 L v w) (hB : B ≤ w.heap.size) (hb : Below w.heap.size w w') : IR B W0 L v w' := ⟨own_below h.1 hb, h.2.trans (hb.mono hB)⟩
theorem IR.nil (W0 : World) (B : Nat) : IR B W0 [] (.slice none 0 0) W0 := ⟨⟨rfl, .inl ⟨rfl, rfl⟩⟩, Below.refl _ _⟩
theorem IR.step {B g cap : Nat} {W0 w w3 : World} {o : Obj} {L : List Nat} {v : Value} {s : Nat} (h : IR B W0 L v w) (hB : B ≤ w.heap.size)
    (hown : w3.ownsRow B 3 1 (.slice (some ⟨g, 0, none⟩) (L.length + 1) cap) (L.length + 1) ((L.map fun (n : Nat) => Value.int .i64 (n : Int)) ++ [Value.int .i64 (s : Int)])) (hgrow : (w.alloc o).grownBy w3 v.ownBlock) :
    IR B W0 (L ++ [s]) (.slice (some ⟨g, 0, none⟩) (L.length + 1) cap) w3 := by
  refine ⟨?_, (h.2.alloc hB o).grown hgrow (by rw [World.size_alloc]; omega) (fun k e => ?_)⟩
  · rw [List.length_append, List.map_append]; exact hown
  · exact (h.1.lt k e).1
theorem IR.rz {B : Nat} {W0 w : World} {L : List Nat} {v : Value} (h : IR B W0 L v w) : ∃ A c, v = .slice A L.length c ∧ (L.length ≤ c ∧ c ≤ 9223372036854775807) ∧ RZ w A L.length (fun i => ((L.getD i 0 : Nat) : Int)) := by
  obtain ⟨A, c, rfl, hc, hn, hs⟩ := own_form h.1
  refine ⟨A, c, rfl, hc, fun i hi => ?_⟩
  cases A with
  | none => have := (hn rfl).1; omega
  | some a =>
    obtain ⟨g, rfl⟩ := hs a rfl
    refine ⟨g, 0, rfl, (h.1.lt g rfl).2, ?_⟩
    rw [Nat.zero_add, h.1.cellAt i (by omega)]
    simp [List.getD, hi]
theorem filter_snoc (p : Nat → Bool) (q : Nat) : (List.range (q + 1)).filter p = (List.range q).filter p ++ (if p q = true then [q] else []) := by
  rw [List.range_succ, List.filter_append]
  cases h : p q <;> simp [h]
theorem filter_len (p : Nat → Bool) (q : Nat) : ((List.range q).filter p).length ≤ q := by
  have := List.length_filter_le p (List.range q)
  simpa using this
end Go.Proofs.Ytkhmlbkkdflnoaa.Nm
