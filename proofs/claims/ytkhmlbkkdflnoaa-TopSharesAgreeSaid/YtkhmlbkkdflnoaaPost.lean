/-
  THE LAST STEP OF EVERY LAW: a call that returns true and leaves alone all that was there meets the row's specification 'true; the input reads as it did', whatever the arguments' types.
-/
import Derived.Test.YtkhmlbkkdflnoaaRows
import Derived.WalkKit
import Derived.ProofKit
import Derived.OpenShut
import Derived.OpenVars
namespace Go.Proofs.Ytkhmlbkkdflnoaa
open Go.ChangeShapes Go.WideShapes Go.ChangeAt Go.RowKit

theorem own : ownKnob Try.prog.godebug = none := by kernel_rfl
theorem laidOut : laidOutB Try.prog = true := by kernel_rfl

section
variable {H : Type} {enc : TypeId × Value → H} {P : Program}

/-- every type of a list can be read again -/
def rowed (P : Program) (ts : List TypeId) : Bool := ts.all fun t => P.readableRec t && decide (t < P.types.size)

/-- what was read ahead of the call reads the same behind it -/
theorem args_again (hl : laidOutB P = true) {W W' : World} (hb : Below W.heap.size W W') :
    ∀ {ts : List TypeId} {vs : List Value} {ds : List (DataW H)} {ps : List MemPlace}, rowed P ts = true → DataW.TrodAll enc P W 0 (fun _ => true) true ts vs ds ps → (∀ x ∈ ps, x.block < W.heap.size) →
      DataW.TrodAll enc P W' 0 (fun b => decide (b < W.heap.size)) true ts vs ds ps
  | [], [], [], _, _, h, _ => h
  | [], [], _ :: _, _, _, h, _ => h.elim
  | [], _ :: _, _, _, _, h, _ => by cases h
  | _ :: _, [], _, _, _, h, _ => by cases h
  | _ :: _, _ :: _, [], _, _, h, _ => h.elim
  | t :: ts, v :: vs, d :: ds, _, hr, ⟨p, q, h1, h2, e⟩, hlt => by
    subst e
    simp only [rowed, List.all_cons, Bool.and_eq_true, decide_eq_true_eq] at hr
    exact ⟨p, q, Below.trod hl hr.1.1 hr.1.2 h1 hb fun x hx => hlt x (List.mem_append_left _ hx), args_again hl hb hr.2 h2 fun x hx => hlt x (List.mem_append_right _ hx), rfl⟩

theorem post_true (hl : laidOutB P = true) {f : Func} {s : ChangeSpec} {apart fresh handsOn : Bool} {W W' : World} {args : Array Value} {ds gs : List (DataW H)} {before : List MemPlace} {b : TypeId}
    (hW : DataW.Whole enc P f.params.toList s.vars apart W args.toList ds gs before) (hr : rowed P f.params.toList = true) (hv : s.vars = [])
    (hres : f.resultTypes.toList = [b]) (hbool : P.underlying b = some .bool) (hfn : (s.fn H (ds ++ gs)).results = [.lit (.bool true)]) (hfa : (s.fn H (ds ++ gs)).args = ds) (hfv : (s.fn H (ds ++ gs)).vars = [])
    (hb : Below W.heap.size W W') : s.post enc P f apart fresh handsOn false W args (.bool true) W' := by
  have hlt : ∀ p ∈ before, p.block < W.heap.size := fun p hp => hW.lt p hp
  have hW' := hW
  obtain ⟨p, q, hA, hV, rfl, _, _⟩ := hW
  have hsz : f.resultTypes.size = 1 := by rw [← Array.length_toList, hres]; rfl
  refine ⟨ds, gs, p ++ q, [], p, [], hW', ?_, ?_, ?_, World.keptBut_mono ?_ (hb.frame fun _ => False), fun h => by cases h⟩
  · rw [hres, hsz, hfn]
    exact trodAll_cons_mk (shut_bool hbool _) trodAll_mk0
  · rw [hfa]
    exact args_again hl hb hr hA fun x hx => hlt x (List.mem_append_left _ hx)
  · rw [hv, hfv]
    exact rfl
  · exact fun _ h => h.elim
end
end Go.Proofs.Ytkhmlbkkdflnoaa
