/-
  fair.Share and steps.Share share alike.
-/
import Derived.Test.YtkhmlbkkdflnoaaSsh
import Derived.Test.YtkhmlbkkdflnoaaLrw
namespace Go.Proofs.Ytkhmlbkkdflnoaa.Nm
open Go.RowKit Go.Proofs.Ytkhmlbkkdflnoaa Go
set_option linter.unusedVariables false

theorem agree (S : Sit) (hP : SitP S) (lim z : Nat → Int) (hO : OrP (S.n 3) (S.n 3) z) (hl : ∀ m, m < S.n 3 → 0 ≤ lim m) : fairX (rowsL S) (S.n 3) lim z = stepX (rowsL S) (S.n 3) lim z := by
  obtain ⟨h1, h2, h3⟩ := rowsL_all S hP
  obtain ⟨z1, z2, z3, _⟩ := natL_all hO
  have h := run_eq (R := (rowsL S).length) (n := S.n 3) (P := prs (rowsL S) (rowsL S).length) (top := lim) (cap := capL (rowsL S)) (zs := natL z (S.n 3)) (fun m _ => (h3 m).1) (fun m _ => (h3 m).2) z2 z3 (pot (S.n 3) lim (fun _ => 0) + 1) 1 (fun i => ((rowsL S).getD i (0, [])).1) (fun _ => 0) (fun _ => 0) ⟨fun i hi => (h2 i hi).cap, fun m hm => ⟨by omega, hl m hm⟩⟩ (fun i => by unfold capL; omega) (fun m _ => by omega)
  have e : (natL z (S.n 3)).filter (fun m => decide ((0 : Int) = 1 - 1)) = natL z (S.n 3) := by
    rw [List.filter_eq_self]
    intro a _
    rfl
  rw [e] at h
  exact h
/-- steps.Share of a valid site whose chargers have steps of one ampere -/
theorem ssh_all (S : Sit) (AA : Option Addr) (ca : Nat) (BM : Option Addr) (cm : Nat) (mo : Nat → Int) (C : Option Addr) (cz : Nat) (z : Nat → Int) (w : World) (hM : SM5 w S) (hP : SitP S) (hz3 : ∀ i, i < S.n 3 → S.Z 3 i 3 = 1 ∧ S.Z 3 i 5 = 1)
    (hA : RZ w AA (S.n 3) (fun _ => 0)) (hB : RZ w BM (S.n 3) mo) (hmo : ∀ i, i < S.n 3 → 0 ≤ mo i ∧ mo i ≤ 80) (hC : RZ w C (S.n 3) z) (hO : OrP (S.n 3) (S.n 3) z) :
    Calls Try.prog 31 #[.agg #[.slice (S.A 0) (S.n 0) (S.c 0), .slice (S.A 1) (S.n 1) (S.c 1), .slice (S.A 2) (S.n 2) (S.c 2), .slice (S.A 3) (S.n 3) (S.c 3), .slice (S.A 4) (S.n 4) (S.c 4)], .slice AA (S.n 3) ca, .slice BM (S.n 3) cm, .slice C (S.n 3) cz] w fun e w' => OkN (S.n 3) (stepX (rowsL S) (S.n 3) (fun m => min (mo m) (S.Z 3 m 4)) z) e w' ∧ Below w.heap.size w w' :=
  ssh_any S AA ca BM cm mo C cz z w hM hP hz3 (fun W hW => rows_any S W hW hP) hA hB hmo hC hO
/-- fair.Share of the rows of a valid site -/
theorem fair_all (S : Sit) (A : Option Addr) (c : Nat) (B : Option Addr) (d : Nat) (top : Nat → Int) (C : Option Addr) (e : Nat) (z : Nat → Int) (w : World) (hP : SitP S) (hR : RW w A (rowsL S)) (hz : RZ w B (S.n 3) top) (hb : ∀ i, i < S.n 3 → 0 ≤ top i ∧ top i ≤ 80) (hd : S.n 3 ≤ d ∧ d ≤ 9223372036854775807) (ho : RZ w C (S.n 3) z) (hO : OrP (S.n 3) (S.n 3) z) :
    Calls Try.prog 30 #[.slice A (rowsL S).length c, .slice B (S.n 3) d, .slice C (S.n 3) e] w fun e' w' => OkN (S.n 3) (stepX (rowsL S) (S.n 3) top z) e' w' ∧ Below w.heap.size w w' := by
  obtain ⟨h1, h2, h3⟩ := rowsL_all S hP
  have h := fair_any (S.n 3) A c (rowsL S) B d top C e z w hP.sizes.2.2.2.1 h1 h2 hR hz hb hd ho hO (fun m _ => (h3 m).1) (fun m _ => (h3 m).2)
  rw [agree S hP top z hO (fun m hm => (hb m hm).1)] at h
  exact h
theorem okN_open {n : Nat} {x : Nat → Int} {e : Ending} {w : World} (h : OkN n x e w) : ∃ g, e = .returned (.tuple #[.slice (some ⟨g, 0, none⟩) n n, .int .i64 0]) ∧ w.rowIs g 3 n (fun i => .int .i64 (x i)) := h
theorem rowIs_rz {w : World} {g n : Nat} {x : Nat → Int} (h : w.rowIs g 3 n (fun i => .int .i64 (x i))) : RZ w (some ⟨g, 0, none⟩) n x := fun i hi => ⟨g, 0, rfl, h.lt, by rw [Nat.zero_add]; exact h.cell hi⟩
end Go.Proofs.Ytkhmlbkkdflnoaa.Nm
