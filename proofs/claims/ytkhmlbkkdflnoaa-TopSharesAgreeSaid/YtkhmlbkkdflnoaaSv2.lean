/-
  package site: validCharger, true of what the reference takes for valid.
-/
import Derived.Test.YtkhmlbkkdflnoaaSv1
namespace Go.Proofs.Ytkhmlbkkdflnoaa.Nm
open Go.RowKit Go.Proofs.Ytkhmlbkkdflnoaa Go
set_option linter.unusedVariables false
attribute [local go_sem ↓] Go.wp_at_zero Go.wp_at_succ

theorem under {V : World} {o : Obj} {b k : Nat} (h : b < V.heap.size) : (V.alloc o).cell? ⟨b, k, none⟩ = V.cell? ⟨b, k, none⟩ := ((Below.refl V.heap.size V).alloc (Nat.le_refl _) o).cell (by simpa using h)
theorem newest {V : World} {a : Array Value} {t : TypeId} {b k : Nat} (h : b = V.heap.size) : (V.alloc (.cells a t)).cell? ⟨b, k, none⟩ = a[k]? := by
  subst h
  simp
set_option maxHeartbeats 4000000 in
theorem vchr_yes (S : Sit) (s : ByteArray) (z : Nat → Int) (w : World) (hz : ChP z) (n0 : S.n 0 ≤ 40) (n1 : S.n 1 ≤ 40) (a0 : 0 ≤ z 1) (a1 : z 1 ≤ (S.n 0 : Int) - 1) (b0 : 0 ≤ z 7) (b1 : z 7 ≤ (S.n 1 : Int) - 1) :
    Calls Try.prog 138 #[.agg #[.slice (S.A 0) (S.n 0) (S.c 0), .slice (S.A 1) (S.n 1) (S.c 1), .slice (S.A 2) (S.n 2) (S.c 2), .slice (S.A 3) (S.n 3) (S.c 3), .slice (S.A 4) (S.n 4) (S.c 4)], .agg #[.string s, .int .i64 (z 1), .int .i64 (z 2), .int .i64 (z 3), .int .i64 (z 4), .int .i64 (z 5), .int .i64 (z 6), .int .i64 (z 7)]] w fun e w' => e = .returned (.bool true) ∧ Below w.heap.size w w' := by
  have HCH := Lib.hid hz
  obtain ⟨⟨h1, h2⟩, ⟨h3, h4⟩, ⟨h5, h6⟩, ⟨h7, h8⟩, h9⟩ := hz
  have hw0 : IntKind.i64.wrap ((S.n 0 : Int) - 1) = (S.n 0 : Int) - 1 := IntWalk.i64_in _ (by omega)
  have hw1 : IntKind.i64.wrap ((S.n 1 : Int) - 1) = (S.n 1 : Int) - 1 := IntWalk.i64_in _ (by omega)
  go_enter Try.func138, Try.ntmps138
  go_upto_region 2 with fail
  refine nameW ?_
  intro wz hwz
  have HZ : Hid (Below w.heap.size w wz) := Lib.hid (by rw [← hwz]; exact bel_alloc (bel_alloc (bel_alloc (Below.refl _ _) _) _) _)
  have HK : Hid (∀ W, Below wz.heap.size wz W → W.cell? ⟨w.heap.size, 0, none⟩ = some (.slice (S.A 0) (S.n 0) (S.c 0)) ∧ W.cell? ⟨w.heap.size, 1, none⟩ = some (.slice (S.A 1) (S.n 1) (S.c 1)) ∧ W.cell? ⟨(w.heap.size + 1), 0, none⟩ = some (.string s) ∧ W.cell? ⟨(w.heap.size + 1), 1, none⟩ = some (.int .i64 (z 1)) ∧ W.cell? ⟨(w.heap.size + 1), 2, none⟩ = some (.int .i64 (z 2)) ∧ W.cell? ⟨(w.heap.size + 1), 3, none⟩ = some (.int .i64 (z 3)) ∧ W.cell? ⟨(w.heap.size + 1), 4, none⟩ = some (.int .i64 (z 4)) ∧ W.cell? ⟨(w.heap.size + 1), 5, none⟩ = some (.int .i64 (z 5)) ∧ W.cell? ⟨(w.heap.size + 1), 6, none⟩ = some (.int .i64 (z 6)) ∧ W.cell? ⟨(w.heap.size + 1), 7, none⟩ = some (.int .i64 (z 7)) ∧ W.cell? ⟨(w.heap.size + 2), 0, none⟩ = some (.int .i64 1) ∧ W.cell? ⟨(w.heap.size + 2), 1, none⟩ = some (.int .i64 80)) := Lib.hid fun W hW => by
    refine ⟨?_, ?_, ?_, ?_, ?_, ?_, ?_, ?_, ?_, ?_, ?_, ?_⟩ <;> (refine old_at ?_ hW; rw [← hwz]; repeat (first | rfl | (refine (newest ?_).trans ?_; focus (simp; done)) | (refine (newest ?_).trans ?_; focus (simp; omega)) | (refine (under ?_).trans ?_; focus (simp; done)) | (refine (under ?_).trans ?_; focus (simp; omega))))
  have HT : Hid (∀ W W', Below wz.heap.size wz W → Below W.heap.size W W' → Below wz.heap.size wz W') := Lib.hid fun W W' a b => a.trans (b.mono a.size)
  have HB0 : Hid (Below wz.heap.size wz wz) := Lib.hid (Below.refl _ _)
  clear hwz
  obtain ⟨d0, d1, c0, c1, c2, c3, c4, c5, c6, c7, y0, y1⟩ := HK.out wz HB0.out
  go_wp2_with (first | (go_at_call 137; refine (holds_yes _ _ _ _ (by omega) (by omega)).mono ?_; rintro e w3 ⟨rfl, hb1⟩; have HB3 := Lib.hid (HT.out _ _ (by with_reducible exact Hid.out (by assumption)) hb1); clear hb1 d0 d1 c0 c1 c2 c3 c4 c5 c6 c7 y0 y1; obtain ⟨d0, d1, c0, c1, c2, c3, c4, c5, c6, c7, y0, y1⟩ := HK.out w3 HB3.out) | (go_at_call 149; refine (goodAmps_yes _ z _ HCH.out).mono ?_; rintro e w6 ⟨rfl, hb6⟩))
  all_goals (try (exfalso; omega))
  go_ret
  exact ⟨rfl, HZ.out.trans ((HT.out _ _ HB3.out hb6).mono HZ.out.size)⟩
end Go.Proofs.Ytkhmlbkkdflnoaa.Nm
