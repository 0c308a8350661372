/-
  Each row of a member once; what a conductor may carry lies in bounds.
-/
import Derived.Test.YtkhmlbkkdflnoaaOf
import Derived.Test.YtkhmlbkkdflnoaaLro
namespace Go.Proofs.Ytkhmlbkkdflnoaa.Nm
open Go.RowKit Go.Proofs.Ytkhmlbkkdflnoaa Go
set_option linter.unusedVariables false
set_option linter.unusedSimpArgs false

theorem inL_append (P Q : List (Nat × Nat)) (m : Nat) : inL (P ++ Q) m = inL P m ++ inL Q m := by simp [inL]
theorem inL_prs_lt (L : List (Int × List Nat)) (m : Nat) : ∀ i, ∀ a ∈ inL (prs L i) m, a < i := by
  intro i
  induction i with
  | zero => intro a ha; simp [prs, inL] at ha
  | succ i ih =>
    intro a ha
    rw [prs_succ, inL_append, List.mem_append] at ha
    rcases ha with ha | ha
    · have := ih a ha; omega
    · unfold inL rowP at ha
      rw [List.mem_filterMap] at ha
      obtain ⟨q, hq, hq2⟩ := ha
      rw [List.mem_map] at hq
      obtain ⟨x, _, rfl⟩ := hq
      by_cases h : x = m
      · simp [h] at hq2; omega
      · simp [h] at hq2
theorem inL_row (i m : Nat) : ∀ l : List Nat, l.Nodup → inL (l.map fun x => (i, x)) m = [] ∨ inL (l.map fun x => (i, x)) m = [i] := by
  intro l
  induction l with
  | nil => intro _; left; rfl
  | cons x l ih =>
    intro h
    rw [List.nodup_cons] at h
    obtain ⟨h1, h2⟩ := h
    by_cases e : x = m
    · subst e
      right
      have h3 : inL (l.map fun y => (i, y)) x = [] := by
        unfold inL
        rw [List.filterMap_eq_nil_iff]
        intro q hq
        rw [List.mem_map] at hq
        obtain ⟨y, hy, rfl⟩ := hq
        have : ¬ y = x := fun e => h1 (e ▸ hy)
        simp [this]
      unfold inL at h3 ⊢
      rw [List.map_cons, List.filterMap_cons]
      simp [h3]
    · have h3 := ih h2
      unfold inL at h3 ⊢
      rw [List.map_cons, List.filterMap_cons]
      simpa [e] using h3
theorem inL_nodup (L : List (Int × List Nat)) (h : ∀ i, i < L.length → ((L.getD i (0, [])).2).Nodup) (m : Nat) : ∀ i, i ≤ L.length → (inL (prs L i) m).Nodup := by
  intro i
  induction i with
  | zero => intro _; simp [prs, inL]
  | succ i ih =>
    intro hi
    rw [prs_succ, inL_append]
    have h1 := ih (by omega)
    have h2 := inL_row i m _ (h i (by omega))
    have e : rowP L i ((L.getD i (0, [])).2).length = ((L.getD i (0, [])).2).map fun x => (i, x) := by unfold rowP; rw [List.take_length]
    rw [e]
    rcases h2 with h2 | h2
    · rw [h2, List.append_nil]; exact h1
    · rw [h2, List.nodup_append]
      refine ⟨h1, by simp, fun a ha b hb => ?_⟩
      have := inL_prs_lt L m i a ha
      simp at hb
      omega
theorem rowsL_nodup (S : Sit) : ∀ i, i < (rowsL S).length → (((rowsL S).getD i (0, [])).2).Nodup := by
  intro i hi
  have e : (rowsL S).getD i (0, []) = (rowsL S)[i] := by simp [List.getD, hi]
  have hm : (rowsL S)[i] ∈ (sts S (List.range (3 * S.n 0))).1 := List.getElem_mem hi
  rw [e]
  have := ((sts_asb S (List.range (3 * S.n 0))).2 _ hm).1
  exact this.imp (fun h => by omega)
theorem bis_bd (P : Int → Bool) : ∀ (f : Nat) (lo hi : Int), lo ≤ hi → lo ≤ bis P f lo hi ∧ bis P f lo hi ≤ hi := by
  intro f
  induction f with
  | zero => intro lo hi h; simp [bis]; exact h
  | succ f ih =>
    intro lo hi h
    unfold bis
    split
    · split
      · have := ih (lo + (hi - lo + 1) / 2) hi (by omega); omega
      · have := ih lo (lo + (hi - lo + 1) / 2 - 1) (by omega); omega
    · omega
theorem pmt_bd (a m g o d : Int) : 0 ≤ pmt a m g o d ∧ pmt a m g o d ≤ 1000 := by
  unfold pmt
  split
  · omega
  · exact bis_bd _ _ _ _ (by omega)
theorem capZ_bd {j : Int} {z : Nat → Int} (hz : CoP j z) : 0 ≤ capZ z ∧ capZ z ≤ 1000 := by
  obtain ⟨⟨h1, h2⟩, ⟨h3, h4⟩, _, _, h5, _⟩ := hz
  have hp := pmt_bd (z 6) (z 7) (z 8) (z 9) (z 10)
  unfold capZ
  split
  · simp [lst, two]; omega
  · simp [lst, tre]; omega
/-- rows, and no error -/
def OkW (L : List (Int × List Nat)) (e : Ending) (w : World) : Prop := ∃ A c, e = .returned (.tuple #[.slice A L.length c, .int .i64 0]) ∧ RW w A L
theorem okW_open {L : List (Int × List Nat)} {e : Ending} {w : World} (h : OkW L e w) : ∃ A c, e = .returned (.tuple #[.slice A L.length c, .int .i64 0]) ∧ RW w A L := h
/-- the rows of a valid site -/
theorem rowsL_all (S : Sit) (hP : SitP S) : (rowsL S).length ≤ 48 ∧ (∀ i, i < (rowsL S).length → RowP (S.n 3) ((rowsL S).getD i (0, []))) ∧ ∀ m, (inL (prs (rowsL S) (rowsL S).length) m).Nodup ∧ ∀ i ∈ inL (prs (rowsL S) (rowsL S).length) m, i < (rowsL S).length := by
  obtain ⟨⟨p0, p1⟩, _, _, p4, _⟩ := hP.sizes
  obtain ⟨h1, h2⟩ := rowsL_ok S (fun k hk => capZ_bd (hP.con k hk)) p0 p1 p4
  exact ⟨h1, h2, fun m => ⟨inL_nodup _ (rowsL_nodup S) m _ (Nat.le_refl _), inL_prs_lt _ m _⟩⟩
end Go.Proofs.Ytkhmlbkkdflnoaa.Nm
