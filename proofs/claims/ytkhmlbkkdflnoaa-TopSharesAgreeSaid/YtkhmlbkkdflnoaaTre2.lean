/-
  package tree: Below.
-/
import Derived.Test.YtkhmlbkkdflnoaaTre1
namespace Go.Proofs.Ytkhmlbkkdflnoaa.Nm
open Go.RowKit Go.Shelf Go.Proofs.Ytkhmlbkkdflnoaa Go
set_option linter.unusedVariables false
attribute [local go_sem ↓] Go.wp_at_zero Go.wp_at_succ

/-- is charger i below conductor k? -/
def blw (S : Sit) (k i : Nat) : Bool := decide (k ∈ pt (fun x => S.Z 0 x 1) 17 (S.Z 3 i 1))
theorem up_lt {S : Sit} (hP : SitP S) : ∀ x, x < S.n 0 → S.Z 0 x 1 < (x : Int) := fun x hx => by
  obtain ⟨_, _, h1, h2, _⟩ := hP.con x hx
  rcases Nat.eq_zero_or_pos x with h | h
  · have := h1 (by omega); omega
  · have := h2 (by omega); omega
theorem has_way (S : Sit) (k : Nat) (c : Int) (w : World) (hM : SM5 w S) (hP : SitP S) (hk : k ≤ 40) (hc : c ≤ (S.n 0 : Int) - 1) (w2 : World)
    (h2 : w2 = (w.alloc (.cells #[.slice (S.A 0) (S.n 0) (S.c 0), .slice (S.A 1) (S.n 1) (S.c 1), .slice (S.A 2) (S.n 2) (S.c 2), .slice (S.A 3) (S.n 3) (S.c 3), .slice (S.A 4) (S.n 4) (S.c 4)] 80)).alloc (.cells #[.int .i64 c] 3)) :
    Calls Try.prog 116 #[.func (.func 139) #[] #[.pointer (some ⟨w.heap.size + 1, 0, none⟩), .pointer (some ⟨w.heap.size, 0, none⟩)], .int .i64 (k : Int)] w2
      fun e w' => e = .returned (.bool (decide (k ∈ pt (fun x => S.Z 0 x 1) 17 c))) ∧ Below w2.heap.size w2 w' := by
  have hs := hP.sizes
  obtain ⟨q1, q2⟩ := pt_path (up_lt hP) 17 c (by omega) (by omega)
  refine has_path _ _ k w2 hk (fun x hx => by have := q2 x hx; omega) fun W0 hW => ?_
  have hsz : w2.heap.size = w.heap.size + 2 := by rw [h2]; simp
  have hb2 : Below w.heap.size w w2 := by rw [h2]; exact bel_alloc (bel_alloc (Below.refl _ _) _) _
  refine path_seq 8 (by omega) w2.heap.size (w.heap.size + 1) w.heap.size (S.A 0) (S.n 0) (S.c 0) _ c _ (by omega) (by omega) (by omega) (up_lt hP) q1 q2 W0 hW.size ⟨?_, ?_, fun i hi => ?_⟩
  · exact old_at (by rw [h2]; refine (newest ?_).trans ?_ <;> simp) hW
  · exact old_at (by rw [h2]; refine (under ?_).trans ((newest ?_).trans ?_) <;> simp) hW
  · obtain ⟨b, o, e, hl, _, hz⟩ := hM.rows 0 (by decide) i hi
    exact ⟨b, o, e, by omega, old_at (old_at (hz 1 (by decide) (by decide)) hb2) hW⟩
set_option maxRecDepth 100000 in
set_option maxHeartbeats 4000000 in
theorem below1_any (S : Sit) (k : Nat) (s : ByteArray) (z : Nat → Int) (Bs Bc : Nat) (w : World) (hM : SM5 w S) (hP : SitP S) (hk : k ≤ 40) (hz : z 1 ≤ (S.n 0 : Int) - 1)
    (hd : w.cell? ⟨Bs, 0, none⟩ = some (.slice (S.A 0) (S.n 0) (S.c 0)) ∧ w.cell? ⟨Bs, 1, none⟩ = some (.slice (S.A 1) (S.n 1) (S.c 1)) ∧ w.cell? ⟨Bs, 2, none⟩ = some (.slice (S.A 2) (S.n 2) (S.c 2)) ∧ w.cell? ⟨Bs, 3, none⟩ = some (.slice (S.A 3) (S.n 3) (S.c 3)) ∧ w.cell? ⟨Bs, 4, none⟩ = some (.slice (S.A 4) (S.n 4) (S.c 4)))
    (hc : w.cell? ⟨Bc, 0, none⟩ = some (.int .i64 (k : Int))) :
    Calls Try.prog 115 #[.agg #[.string s, .int .i64 (z 1), .int .i64 (z 2), .int .i64 (z 3), .int .i64 (z 4), .int .i64 (z 5), .int .i64 (z 6), .int .i64 (z 7)], .pointer (some ⟨Bs, 0, none⟩), .pointer (some ⟨Bc, 0, none⟩)] w
      fun e w' => e = .returned (.bool (decide (k ∈ pt (fun x => S.Z 0 x 1) 17 (z 1)))) ∧ Below w.heap.size w w' := by
  have HM := Lib.hid hM
  have HP := Lib.hid hP
  have HDD := Lib.hid hd
  have HCC := Lib.hid hc
  clear hM hP hd hc
  go_enter Try.func115, Try.ntmps115
  go_upto_region 1 with fail
  refine nameW ?_
  intro W0 hW0
  have HB0 : Hid (Below w.heap.size w W0) := Lib.hid (by rw [← hW0]; exact (Below.refl _ _).alloc (Nat.le_refl _) _)
  have c1 : W0.cell? ⟨w.heap.size, 1, none⟩ = some (.int .i64 (z 1)) := by rw [← hW0]; simp
  clear hW0
  obtain ⟨g0, g1, g2, g3, g4⟩ := HDD.out
  have d0 := old_at g0 HB0.out
  have d1 := old_at g1 HB0.out
  have d2 := old_at g2 HB0.out
  have d3 := old_at g3 HB0.out
  have d4 := old_at g4 HB0.out
  have dc := old_at HCC.out HB0.out
  have HDC : Hid (∀ W, W = (W0.drew.alloc (.cells #[.slice (S.A 0) (S.n 0) (S.c 0), .slice (S.A 1) (S.n 1) (S.c 1), .slice (S.A 2) (S.n 2) (S.c 2), .slice (S.A 3) (S.n 3) (S.c 3), .slice (S.A 4) (S.n 4) (S.c 4)] 80)).alloc (.cells #[.int .i64 (z 1)] 3) → W.cell? ⟨Bc, 0, none⟩ = some (.int .i64 (k : Int))) := Lib.hid fun W hW => by
    rw [hW]
    exact old_at dc (bel_alloc (bel_alloc (Below.refl _ _).drew _) _)
  clear g0 g1 g2 g3 g4
  go_region_with (first
    | (go_at_call 117; with_reducible refine (path_any S (z 1) W0.drew).mono ?_; rintro e w2 ⟨rfl, h2⟩; have dc2 := HDC.out w2 h2; have H2 := Lib.hid h2; clear h2)
    | (go_at_call 116; refine (has_way S k (z 1) W0.drew (HM.out.keep HB0.out.drew) HP.out hk hz _ H2.out).mono ?_; rintro e w3 ⟨rfl, hb3⟩))
  all_goals (
    go_wp2_with fail
    go_ret
    have h4 : Below w.heap.size w w2 := by rw [H2.out]; exact bel_alloc (bel_alloc HB0.out.drew _) _
    exact ⟨rfl, h4.trans (hb3.mono h4.size)⟩)
end Go.Proofs.Ytkhmlbkkdflnoaa.Nm
