/-
  package steps: whether a charger rises (rise).
-/
import Derived.Test.YtkhmlbkkdflnoaaNt
import Derived.Test.YtkhmlbkkdflnoaaFpl
import Derived.Deep.RegionHeld3
import Derived.Deep.DeepCutAuto
namespace Go.Proofs.Ytkhmlbkkdflnoaa.Nm
open Go.RowKit Go.Proofs.Ytkhmlbkkdflnoaa Go
set_option linter.unusedVariables false
set_option linter.unusedSimpArgs false
attribute [local go_sem ↓] Go.wp_at_zero Go.wp_at_succ

/-- one more, at each place of a list -/
def inc (l : List Nat) (f : Nat → Int) : Nat → Int := l.foldl (fun g i j => if j = i then g i + 1 else g j) f
theorem inc_snoc (l : List Nat) (i : Nat) (f : Nat → Int) : inc (l ++ [i]) f = fun j => if j = i then inc l f i + 1 else inc l f j := by
  unfold inc
  rw [List.foldl_append]
  rfl
theorem inc_bd (l : List Nat) (f : Nat → Int) : ∀ j, f j ≤ inc l f j ∧ inc l f j ≤ f j + l.length := by
  induction l using rev_ind with
  | h0 => intro j; simp [inc]
  | h1 pre x ih =>
    intro j
    have h1 := ih j
    rw [inc_snoc]
    simp only [List.length_append, List.length_cons, List.length_nil]
    by_cases h : j = x
    · subst h; simp; omega
    · simp [h]; omega
structure TP where
  S : Sit
  L : List (Int × List Nat)
  RA : Option Addr
  rc : Nat
  AA : Option Addr
  ca : Nat
  T : Nat
  bs : Nat
  bl : Nat
  w0 : World
def TP.W (p : TP) (k : Nat) : Prop := k = p.bs ∨ k = p.bl
def TP.P (p : TP) : List (Nat × Nat) := prs p.L p.L.length
structure TP.Sep (p : TP) : Prop where
  t : ¬ p.W p.T
  ne : p.bs ≠ p.bl
  low : p.w0.heap.size ≤ p.bs ∧ p.w0.heap.size ≤ p.bl
  sm : SM5 p.w0 p.S
  rw : RW p.w0 p.RA p.L
  al : RZ p.w0 p.AA (p.S.n 3) (fun _ => 0)
  n : p.S.n 3 ≤ 16 ∧ p.L.length ≤ 48
  lt : ∀ m, m < p.S.n 3 → (∀ i ∈ inL p.P m, i < p.L.length) ∧ (inL p.P m).length ≤ 1000
  z : ∀ i, i < p.S.n 3 → p.S.Z 3 i 3 = 1 ∧ p.S.Z 3 i 5 = 1 ∧ 1 ≤ p.S.Z 3 i 4 ∧ p.S.Z 3 i 4 ≤ 80
  cap : ∀ i, i < p.L.length → 0 ≤ (p.L.getD i (0, [])).1 ∧ (p.L.getD i (0, [])).1 ≤ 1000
structure TS (p : TP) (su lv : Nat → Int) (w : World) : Prop where
  c3 : w.cell? ⟨p.T, 3, none⟩ = some (.slice (p.S.A 3) (p.S.n 3) (p.S.c 3))
  c5 : w.cell? ⟨p.T, 5, none⟩ = some (.slice p.RA p.L.length p.rc)
  c22 : w.cell? ⟨p.T, 22, none⟩ = some (.slice (some ⟨p.bs, 0, none⟩) p.L.length p.L.length)
  c23 : w.cell? ⟨p.T, 23, none⟩ = some (.slice p.AA (p.S.n 3) p.ca)
  c24 : w.cell? ⟨p.T, 24, none⟩ = some (.slice (some ⟨p.bl, 0, none⟩) (p.S.n 3) (p.S.n 3))
  rows : ∀ m, m < p.S.n 3 → LW w p.W ⟨p.T, 6 + m, none⟩ (inL p.P m)
  rs : w.rowIs p.bs 3 p.L.length (fun i => .int .i64 (su i))
  rv : w.rowIs p.bl 3 (p.S.n 3) (fun i => .int .i64 (lv i))
  bel : Below p.w0.heap.size p.w0 w
theorem TS.exc {p : TP} {su lv su' lv' : Nat → Int} {w w' : World} (h : TS p su lv w) (hs : p.Sep) (he : Exc p.W w w') (rs : w'.rowIs p.bs 3 p.L.length (fun i => .int .i64 (su' i))) (rv : w'.rowIs p.bl 3 (p.S.n 3) (fun i => .int .i64 (lv' i))) : TS p su' lv' w' :=
  ⟨he.cell h.c3 hs.t, he.cell h.c5 hs.t, he.cell h.c22 hs.t, he.cell h.c23 hs.t, he.cell h.c24 hs.t, fun m hm => (h.rows m hm).exc he hs.t, rs, rv, he.to_below h.bel h.bel.size (fun k hk => hk.elim (fun e => e ▸ hs.low.1) (fun e => e ▸ hs.low.2))⟩
theorem TS.keep {p : TP} {su lv : Nat → Int} {w w' : World} (h : TS p su lv w) (hs : p.Sep) (hb : Below w.heap.size w w') : TS p su lv w' := h.exc hs (Exc.of_below hb) (rowIs_below h.rs hb) (rowIs_below h.rv hb)
/-- there is room in row i -/
def fitB (p : TP) (su : Nat → Int) (i : Nat) : Bool := decide (su i + 1 ≤ (p.L.getD i (0, [])).1)
theorem fits1 (p : TP) (su lv : Nat → Int) (i B1 B2 : Nat) (w : World) (hs : p.Sep) (h : TS p su lv w) (hi : i < p.L.length) (hsu : 0 ≤ su i ∧ su i ≤ 1000) (h1 : w.cell? ⟨B1, 0, none⟩ = some (.pointer (some ⟨p.T, 0, none⟩))) (h2 : w.cell? ⟨B2, 0, none⟩ = some (.int .i64 1)) :
    Calls Try.prog 122 #[.int .i64 (i : Int), .pointer (some ⟨B1, 0, none⟩), .pointer (some ⟨B2, 0, none⟩)] w fun e w' => e = .returned (.bool (fitB p su i)) ∧ Below w.heap.size w w' := by
  obtain ⟨b, o, hA, hl, h0, _⟩ := (hs.rw.keep h.bel) i hi
  have c5 := h.c5
  have c22 := h.c22
  have cs := h.rs.cell hi
  have hr : Hid (decide (su i + 1 ≤ (p.L.getD i (0, [])).1) = fitB p su i) := Lib.hid rfl
  obtain ⟨cp, hcp⟩ : ∃ x, (p.L.getD i (0, [])).1 = x := ⟨_, rfl⟩
  rw [hcp] at h0 hr
  rw [hA] at c5
  have hw : IntKind.i64.wrap (su i + 1) = su i + 1 := IntWalk.i64_in _ (by omega)
  obtain ⟨R, hR⟩ : ∃ R, p.L.length = R := ⟨_, rfl⟩
  rw [hR] at c5 c22 hi
  have hiR : (i : Int) < (R : Int) := by omega
  obtain ⟨T, hT⟩ : ∃ T, p.T = T := ⟨_, rfl⟩
  rw [hT] at c5 c22 h1
  obtain ⟨B, hB⟩ : ∃ B, fitB p su i = B := ⟨_, rfl⟩
  rw [hB] at hr ⊢
  clear hcp hA h hs hR hT hB
  go_enter Try.func122, Try.ntmps122
  go_wp2_with fail
  go_quiet (fail)
  go_wp2_with fail
  go_ret
  exact ⟨ret_bool (by have hx := hr.out; first | exact hx | simpa using hx), bel_drewN _⟩
set_option maxRecDepth 100000 in
set_option maxHeartbeats 8000000 in
theorem rise_any (p : TP) (su lv : Nat → Int) (m : Nat) (w : World) (hs : p.Sep) (h : TS p su lv w) (hm : m < p.S.n 3) (hb : ∀ i, i < p.L.length → 0 ≤ su i ∧ su i ≤ 1000) (hlv : 0 ≤ lv m ∧ lv m ≤ 80) (r : Bool) (hr : (inL p.P m).all (fitB p su) = r) :
    Calls Try.prog 88 #[.pointer (some ⟨p.T, 0, none⟩), .int .i64 (m : Int)] w
      fun e w' => e = .returned (.bool r) ∧ Exc p.W w w' ∧ (r = false → TS p su lv w') ∧ (r = true → TS p (inc (inL p.P m) su) (fun j => if j = m then lv m + 1 else lv j) w') := by
  have HS := Lib.hid hs
  have HTS := Lib.hid h
  have HBD := Lib.hid hb
  obtain ⟨b, o, hA, hl, hst, hz⟩ := (hs.sm.keep h.bel).rows 3 (by decide) m hm
  obtain ⟨z3, z5, z4, z4'⟩ := hs.z m hm
  obtain ⟨ba, oa, hAA, hla, hca⟩ := (hs.al.keep h.bel) m hm
  have c3 := h.c3
  have c24 := h.c24
  have c23 := h.c23
  rw [hA] at c3
  rw [hAA] at c23
  have cl := h.rv.cell hm
  obtain ⟨k, hk⟩ : ∃ k, lv m = k := ⟨_, rfl⟩
  simp only [hk] at cl
  rw [hk] at hlv ⊢
  have HK := Lib.hid hk
  obtain ⟨n, hn⟩ : ∃ n, p.S.n 3 = n := ⟨_, rfl⟩
  have HN := Lib.hid hn
  obtain ⟨T, hT⟩ : ∃ T, p.T = T := ⟨_, rfl⟩
  have HT := Lib.hid hT
  have HM := Lib.hid hm
  have HRR := Lib.hid hr
  rw [hn] at c3 c23 c24 hm
  rw [hT] at c3 c23 c24 ⊢
  have q0 : w.cell? ⟨b, o + m * 8, none⟩ = some (.string (p.S.N 3 m)) := hst
  have q1 : w.cell? ⟨b, o + m * 8 + 1, none⟩ = some (.int .i64 (p.S.Z 3 m 1)) := hz 1 (by decide) (by decide)
  have q2 : w.cell? ⟨b, o + m * 8 + 2, none⟩ = some (.int .i64 (p.S.Z 3 m 2)) := hz 2 (by decide) (by decide)
  have q3 : w.cell? ⟨b, o + m * 8 + 3, none⟩ = some (.int .i64 (p.S.Z 3 m 3)) := hz 3 (by decide) (by decide)
  have q4 : w.cell? ⟨b, o + m * 8 + 4, none⟩ = some (.int .i64 (p.S.Z 3 m 4)) := hz 4 (by decide) (by decide)
  have q5 : w.cell? ⟨b, o + m * 8 + 5, none⟩ = some (.int .i64 (p.S.Z 3 m 5)) := hz 5 (by decide) (by decide)
  have q6 : w.cell? ⟨b, o + m * 8 + 6, none⟩ = some (.int .i64 (p.S.Z 3 m 6)) := hz 6 (by decide) (by decide)
  have q7 : w.cell? ⟨b, o + m * 8 + 7, none⟩ = some (.int .i64 (p.S.Z 3 m 7)) := hz 7 (by decide) (by decide)
  obtain ⟨z, hzz⟩ : ∃ z, p.S.Z 3 m = z := ⟨_, rfl⟩
  obtain ⟨s, hss⟩ : ∃ s, p.S.N 3 m = s := ⟨_, rfl⟩
  rw [hzz] at q1 q2 q3 q4 q5 q6 q7 z3 z5
  rw [hss] at q0
  have HAM : Hid (∀ W u, 0 ≤ u → u ≤ 1000 → Calls Try.prog 89 #[.agg #[.string s, .int .i64 (z 1), .int .i64 (z 2), .int .i64 (z 3), .int .i64 (z 4), .int .i64 (z 5), .int .i64 (z 6), .int .i64 (z 7)], .int .i64 u] W fun e w' => e = .returned (.int .i64 u) ∧ w' = W.alloc (.cells #[.string s, .int .i64 (z 1), .int .i64 (z 2), .int .i64 (z 3), .int .i64 (z 4), .int .i64 (z 5), .int .i64 (z 6), .int .i64 (z 7)] 83)) := Lib.hid fun W u h0 h1 => amps_ex s z u W z3 z5 h0 h1
  have hw1 : IntKind.i64.wrap (k + 1) = k + 1 := IntWalk.i64_in _ (by omega)
  have hw2 : IntKind.i64.wrap (k + 1 - 1) = k := by rw [show k + 1 - 1 = k by omega]; exact IntWalk.i64_in _ (by omega)
  have hw3 : IntKind.i64.wrap (k + 1 - k) = 1 := by rw [show k + 1 - k = 1 by omega]; exact IntWalk.i64_in _ (by omega)
  have hw4 : IntKind.i64.wrap k = k := IntWalk.i64_in _ (by omega)
  have hw5 : IntKind.i64.wrap 1 = 1 := IntWalk.i64_in _ (by omega)
  have hmf : ∀ (fn : Fn) (first cap : Array Value) (w : World), (Instr.makeFunc fn first cap).run Try.prog w = .ok (.func fn first cap) w := fun _ _ _ _ => rfl
  have HD : Hid (∀ W, Below w.heap.size w W → (W.cell? ⟨T, 3, none⟩ = some (.slice (some ⟨b, o, none⟩) n (p.S.c 3)) ∧ W.cell? ⟨T, 24, none⟩ = some (.slice (some ⟨p.bl, 0, none⟩) n n) ∧ W.cell? ⟨T, 23, none⟩ = some (.slice (some ⟨ba, oa, none⟩) n p.ca) ∧ W.cell? ⟨p.bl, m, none⟩ = some (.int .i64 k) ∧ W.cell? ⟨ba, oa + m, none⟩ = some (.int .i64 0)) ∧
      W.cell? ⟨b, o + m * 8, none⟩ = some (.string s) ∧ W.cell? ⟨b, o + m * 8 + 1, none⟩ = some (.int .i64 (z 1)) ∧ W.cell? ⟨b, o + m * 8 + 2, none⟩ = some (.int .i64 (z 2)) ∧ W.cell? ⟨b, o + m * 8 + 3, none⟩ = some (.int .i64 (z 3)) ∧ W.cell? ⟨b, o + m * 8 + 4, none⟩ = some (.int .i64 (z 4)) ∧ W.cell? ⟨b, o + m * 8 + 5, none⟩ = some (.int .i64 (z 5)) ∧ W.cell? ⟨b, o + m * 8 + 6, none⟩ = some (.int .i64 (z 6)) ∧ W.cell? ⟨b, o + m * 8 + 7, none⟩ = some (.int .i64 (z 7))) := Lib.hid fun W hW =>
    ⟨⟨old_at c3 hW, old_at c24 hW, old_at c23 hW, old_at cl hW, old_at hca hW⟩, old_at q0 hW, old_at q1 hW, old_at q2 hW, old_at q3 hW, old_at q4 hW, old_at q5 hW, old_at q6 hW, old_at q7 hW⟩
  clear hz hst hzz hss hk hn hT hr h hs hb hA hAA z3 z5 z4 z4' c3 c24 c23 cl hca q0 q1 q2 q3 q4 q5 q6 q7
  go_enter Try.func88, Try.ntmps88
  go_upto_region 1 with fail
  refine nameW ?_
  intro W0 hW0
  have hb0 : Below w.heap.size w W0 := by rw [← hW0]; exact bel_alloc (Below.refl _ _) _
  have hs0 : W0.heap.size = w.heap.size + 1 := by rw [← hW0, World.size_alloc]
  have e0 : W0.cell? ⟨w.heap.size, 0, none⟩ = some (.pointer (some ⟨T, 0, none⟩)) := by rw [← hW0]; simp
  obtain ⟨⟨c3, c24, c23, cl, hca⟩, q0, q1, q2, q3, q4, q5, q6, q7⟩ := HD.out W0 hb0
  have HB0 := Lib.hid hb0
  have HE0 := Lib.hid e0
  have HS0 := Lib.hid hs0
  clear hW0 hb0 hs0
  go_upto_region 2 with fail
  all_goals (try (exfalso; omega))
  refine nameW ?_
  intro W1 hW1
  have hb01 : Below W0.heap.size W0 W1 := by rw [← hW1]; exact bel_alloc (Below.refl _ _) _
  have HB1 : Hid (Below w.heap.size w W1) := Lib.hid (HB0.out.trans (hb01.mono HB0.out.size))
  have HS1 : Hid (∀ W, Below W1.heap.size W1 W → W.cell? ⟨w.heap.size, 0, none⟩ = some (.pointer (some ⟨T, 0, none⟩)) ∧ W.cell? ⟨T, 23, none⟩ = some (.slice (some ⟨ba, oa, none⟩) n p.ca) ∧ W.cell? ⟨ba, oa + m, none⟩ = some (.int .i64 0) ∧
      W.cell? ⟨W0.heap.size, 0, none⟩ = some (.string s) ∧ W.cell? ⟨W0.heap.size, 1, none⟩ = some (.int .i64 (z 1)) ∧ W.cell? ⟨W0.heap.size, 2, none⟩ = some (.int .i64 (z 2)) ∧ W.cell? ⟨W0.heap.size, 3, none⟩ = some (.int .i64 (z 3)) ∧ W.cell? ⟨W0.heap.size, 4, none⟩ = some (.int .i64 (z 4)) ∧ W.cell? ⟨W0.heap.size, 5, none⟩ = some (.int .i64 (z 5)) ∧ W.cell? ⟨W0.heap.size, 6, none⟩ = some (.int .i64 (z 6)) ∧ W.cell? ⟨W0.heap.size, 7, none⟩ = some (.int .i64 (z 7))) := Lib.hid fun W hW => by
    obtain ⟨⟨_, _, a23, _, aca⟩, _⟩ := HD.out W1 HB1.out
    refine ⟨old_at (old_at HE0.out hb01) hW, old_at a23 hW, old_at aca hW, ?_, ?_, ?_, ?_, ?_, ?_, ?_, ?_⟩ <;> (refine old_at ?_ hW; rw [← hW1]; simp)
  have e1 := old_at HE0.out hb01
  clear hW1 c3 c24 c23 cl hca q0 q1 q2 q3 q4 q5 q6 q7 hb01 e0
  obtain ⟨⟨c3, c24, c23, cl, hca⟩, _⟩ := HD.out W1 HB1.out
  go_upto_region 3 with fail
  all_goals (try (exfalso; omega))
  clear c3 c24 c23 cl hca e1
  go_cut [7] from 8 (fun u wc => ∃ b7, u = .pointer (some ⟨b7, 0, none⟩) ∧ wc.cell? ⟨b7, 0, none⟩ = some (.int .i64 1) ∧ w.heap.size ≤ b7 ∧ Below W1.heap.size W1 wc)
  case first =>
    obtain ⟨f0, f23, fa, g0, g1, g2, g3, g4, g5, g6, g7⟩ := HS1.out W1 (Below.refl _ _)
    have HR1 : Hid (Below W1.heap.size W1 W1) := Lib.hid (Below.refl _ _)
    have HTR : Hid (∀ W W', Below W1.heap.size W1 W → Below W.heap.size W W' → Below W1.heap.size W1 W') := Lib.hid fun W W' h h' => h.trans (h'.mono h.size)
    have hk1 : 0 < k + 1 := by omega
    have HDR : Hid (∀ (W : World) q, W.drew.cell? q = W.cell? q) := Lib.hid fun _ _ => rfl
    by_cases hk0 : 0 < k
    · go_region_held3 (fun W => W.cell? ⟨w.heap.size, 0, none⟩ = some (.pointer (some ⟨T, 0, none⟩)) ∧ W.cell? ⟨T, 23, none⟩ = some (.slice (some ⟨ba, oa, none⟩) n p.ca) ∧ W.cell? ⟨ba, oa + m, none⟩ = some (.int .i64 0) ∧
      W.cell? ⟨W0.heap.size, 0, none⟩ = some (.string s) ∧ W.cell? ⟨W0.heap.size, 1, none⟩ = some (.int .i64 (z 1)) ∧ W.cell? ⟨W0.heap.size, 2, none⟩ = some (.int .i64 (z 2)) ∧ W.cell? ⟨W0.heap.size, 3, none⟩ = some (.int .i64 (z 3)) ∧ W.cell? ⟨W0.heap.size, 4, none⟩ = some (.int .i64 (z 4)) ∧ W.cell? ⟨W0.heap.size, 5, none⟩ = some (.int .i64 (z 5)) ∧ W.cell? ⟨W0.heap.size, 6, none⟩ = some (.int .i64 (z 6)) ∧ W.cell? ⟨W0.heap.size, 7, none⟩ = some (.int .i64 (z 7)))
        ((refine HS1.out _ ?_; repeat (first | with_reducible exact Below.refl _ _ | with_reducible exact Hid.out (by with_reducible assumption) | with_reducible apply Below.drew | with_reducible apply bel_alloc)))
        (first | (go_at_call 89; with_reducible refine (HAM.out _ _ (by omega) (by omega)).mono ?_; rintro e w3 ⟨rfl, rfl⟩))
      all_goals
        go_wp2_with fail
        go_meet
        refine ⟨_, rfl, ?_, by (have h9 := HB1.out.size; simp <;> omega), by repeat (first | with_reducible exact Below.refl _ _ | with_reducible apply Below.drew | with_reducible apply bel_alloc)⟩
        rw [HDR.out]
        first
          | (simp; done)
          | exact newest (by simp <;> omega)
          | exact (under (by simp <;> omega)).trans (newest (by simp <;> omega))
          | exact (under (by simp <;> omega)).trans ((under (by simp <;> omega)).trans (newest (by simp <;> omega)))
    · obtain rfl : k = 0 := by omega
      have hw6 : IntKind.i64.wrap 0 = 0 := IntWalk.i64_in _ (by omega)
      simp only [Int.zero_add] at hw1 hw2 hk1
      go_region_held3 (fun W => W.cell? ⟨w.heap.size, 0, none⟩ = some (.pointer (some ⟨T, 0, none⟩)) ∧ W.cell? ⟨T, 23, none⟩ = some (.slice (some ⟨ba, oa, none⟩) n p.ca) ∧ W.cell? ⟨ba, oa + m, none⟩ = some (.int .i64 0) ∧
      W.cell? ⟨W0.heap.size, 0, none⟩ = some (.string s) ∧ W.cell? ⟨W0.heap.size, 1, none⟩ = some (.int .i64 (z 1)) ∧ W.cell? ⟨W0.heap.size, 2, none⟩ = some (.int .i64 (z 2)) ∧ W.cell? ⟨W0.heap.size, 3, none⟩ = some (.int .i64 (z 3)) ∧ W.cell? ⟨W0.heap.size, 4, none⟩ = some (.int .i64 (z 4)) ∧ W.cell? ⟨W0.heap.size, 5, none⟩ = some (.int .i64 (z 5)) ∧ W.cell? ⟨W0.heap.size, 6, none⟩ = some (.int .i64 (z 6)) ∧ W.cell? ⟨W0.heap.size, 7, none⟩ = some (.int .i64 (z 7)))
        ((refine HS1.out _ ?_; repeat (first | with_reducible exact Below.refl _ _ | with_reducible exact Hid.out (by with_reducible assumption) | with_reducible apply Below.drew | with_reducible apply bel_alloc)))
        (first | (go_at_call 89; with_reducible refine (HAM.out _ _ (by decide) (by decide)).mono ?_; rintro e w3 ⟨rfl, rfl⟩))
      all_goals
        go_wp2_with fail
        go_meet
        refine ⟨_, rfl, ?_, by (have h9 := HB1.out.size; simp <;> omega), by repeat (first | with_reducible exact Below.refl _ _ | with_reducible apply Below.drew | with_reducible apply bel_alloc)⟩
        rw [HDR.out]
        first
          | (simp; done)
          | exact newest (by simp <;> omega)
          | exact (under (by simp <;> omega)).trans (newest (by simp <;> omega))
          | exact (under (by simp <;> omega)).trans ((under (by simp <;> omega)).trans (newest (by simp <;> omega)))
  case rest =>
    obtain ⟨b7, rfl, h7, hb79, hb7⟩ := hcut
    obtain ⟨Wc, hWc⟩ : ∃ x, x = wc := ⟨_, rfl⟩
    subst hWc
    have HBc : Hid (Below w.heap.size w Wc) := Lib.hid (HB1.out.trans (hb7.mono HB1.out.size))
    have HTSc := Lib.hid (HTS.out.keep HS.out HBc.out)
    have f0 := (HS1.out Wc hb7).1
    have f0' : Wc.cell? ⟨w.heap.size, 0, none⟩ = some (.pointer (some ⟨p.T, 0, none⟩)) := by rw [HT.out]; exact f0
    have hbsl : p.bs < w.heap.size ∧ p.bl < w.heap.size := ⟨HTS.out.rs.lt, HTS.out.rv.lt⟩
    obtain ⟨A, c, hcr, hlc, hrz, hW⟩ := HTSc.out.rows m HM.out
    have HEV : Hid (Calls Try.prog 84 #[.slice A (inL p.P m).length c, .func (.func 122) #[] #[.pointer (some ⟨w.heap.size, 0, none⟩), .pointer (some ⟨b7, 0, none⟩)]] Wc fun e w' => e = .returned (.bool r) ∧ Below Wc.heap.size Wc w') := Lib.hid (by
      have := every_fits A (inL p.P m) c (fitB p su) w.heap.size b7 Wc (HS.out.lt m HM.out).2 hrz (fun W i hWW hi => by
        have hiR := (HS.out.lt m HM.out).1 i hi
        exact fits1 p su lv i _ _ W HS.out (HTSc.out.keep HS.out hWW) hiR (HBD.out i hiR) (old_at f0' hWW) (old_at h7 hWW))
      rwa [HRR.out] at this)
    have hof := HTSc.out.c24
    have hzz : lv m = k := HK.out
    have HRZ : Hid (∀ W, Exc p.W Wc W → RZ W A (inL p.P m).length (fun i => (((inL p.P m).getD i 0 : Nat) : Int))) := Lib.hid fun W hE => hE.rz hrz hW
    have HCR : Hid (∀ W, Exc p.W Wc W → W.cell? ⟨T, 6 + m, none⟩ = some (.slice A (inL p.P m).length c)) := Lib.hid fun W hE => by
      have := hE.cell hcr HS.out.t
      rwa [HT.out] at this
    have HBC2 : Hid (∀ W, Exc p.W Wc W → W.cell? ⟨w.heap.size, 0, none⟩ = some (.pointer (some ⟨T, 0, none⟩)) ∧ W.cell? ⟨b7, 0, none⟩ = some (.int .i64 1)) := Lib.hid fun W hE => ⟨hE.cell f0 (fun hv => by rcases hv with hv | hv <;> (simp only at hv; omega)), hE.cell h7 (fun hv => by rcases hv with hv | hv <;> (simp only at hv; omega))⟩
    have HSTP : Hid (∀ W q i, q < (inL p.P m).length → (inL p.P m).getD q 0 = i → TS p (inc ((inL p.P m).take q) su) lv W → TS p (inc ((inL p.P m).take (q + 1)) su) lv (W.setCell ⟨p.bs, i, none⟩ (.int .i64 (inc ((inL p.P m).take q) su i + 1))).drew ∧ Exc p.W W (W.setCell ⟨p.bs, i, none⟩ (.int .i64 (inc ((inL p.P m).take q) su i + 1))).drew) := Lib.hid fun W q i hq hi hF => by
      have hE0 : Exc p.W W (W.setCell ⟨p.bs, i, none⟩ (.int .i64 (inc ((inL p.P m).take q) su i + 1))) := (Exc.refl _).set (p := ⟨p.bs, i, none⟩) (.inl rfl) _
      have hE1 : Exc p.W W (W.setCell ⟨p.bs, i, none⟩ (.int .i64 (inc ((inL p.P m).take q) su i + 1))).drew := ⟨hE0.os, hE0.tape, hE0.output, hE0.size, hE0.block⟩
      refine ⟨hF.exc HS.out hE1 ((hF.rs.set i _).congr fun j hj => ?_) (hF.rv.setOther (a := ⟨p.bs, i, none⟩) (fun e => HS.out.ne e.symm) _), hE1⟩
      rw [take_one _ q hq, hi, inc_snoc]
      by_cases e : j = i
      · simp [e]
      · simp [e]
    have HUB : Hid (∀ q i, q < (inL p.P m).length → (inL p.P m).getD q 0 = i → i < p.L.length ∧ 0 ≤ inc ((inL p.P m).take q) su i ∧ inc ((inL p.P m).take q) su i ≤ 2000) := Lib.hid fun q i hq hi => by
      have hmem : (inL p.P m).getD q 0 ∈ inL p.P m := by simp [List.getD, hq]
      rw [hi] at hmem
      have h1 := (HS.out.lt m HM.out).1 i hmem
      have h2 := HBD.out i h1
      have h3 := inc_bd ((inL p.P m).take q) su i
      have h4 := List.length_take_le' q (inL p.P m)
      have h5 := (HS.out.lt m HM.out).2
      exact ⟨h1, by omega, by omega⟩
    have HCC : Hid (∀ W su', TS p su' lv W → W.cell? ⟨T, 22, none⟩ = some (.slice (some ⟨p.bs, 0, none⟩) p.L.length p.L.length) ∧ W.cell? ⟨T, 24, none⟩ = some (.slice (some ⟨p.bl, 0, none⟩) n n) ∧ (W.cell? ⟨p.bl, m, none⟩ = some (.int .i64 k) ∧ W.frozen? ⟨p.bl, m, none⟩ = false) ∧ ∀ i, i < p.L.length → W.cell? ⟨p.bs, i, none⟩ = some (.int .i64 (su' i)) ∧ W.frozen? ⟨p.bs, i, none⟩ = false) := Lib.hid fun W su' hF => by
      have a1 := hF.c22
      have a2 := hF.c24
      have a3 := hF.rv.cell HM.out
      simp only [HK.out] at a3
      rw [HT.out] at a1 a2
      rw [HN.out] at a2
      exact ⟨a1, a2, ⟨a3, hF.rv.frozen m⟩, fun i hi => ⟨hF.rs.cell hi, hF.rs.frozen i⟩⟩
    have HFIN : Hid (∀ W, Exc p.W Wc W → TS p (inc (inL p.P m) su) lv W → Exc p.W w (W.setCell ⟨p.bl, m, none⟩ (.int .i64 (k + 1))) ∧ TS p (inc (inL p.P m) su) (fun j => if j = m then k + 1 else lv j) (W.setCell ⟨p.bl, m, none⟩ (.int .i64 (k + 1)))) := Lib.hid fun W hE hF => by
      have hE1 : Exc p.W W (W.setCell ⟨p.bl, m, none⟩ (.int .i64 (k + 1))) := (Exc.refl _).set (p := ⟨p.bl, m, none⟩) (.inr rfl) _
      refine ⟨(Exc.of_below HBc.out).trans (hE.trans hE1), hF.exc HS.out hE1 (hF.rs.setOther (a := ⟨p.bl, m, none⟩) HS.out.ne _) ((hF.rv.set m _).congr fun j hj => ?_)⟩
      by_cases e : j = m
      · simp [e]
      · simp [e]
    have HTS0 : Hid (∀ W, Below Wc.heap.size Wc W → TS p (inc ((inL p.P m).take 0) su) lv W) := Lib.hid fun W hW => by
      have := HTSc.out.keep HS.out hW
      simpa [inc] using this
    have HEND : Hid (inc ((inL p.P m).take (inL p.P m).length) su = inc (inL p.P m) su) := Lib.hid (by rw [List.take_length])
    have HNO : Hid (∀ W, Below Wc.heap.size Wc W → Exc p.W w W ∧ TS p su lv W) := Lib.hid fun W hW => ⟨Exc.of_below (HBc.out.trans (hW.mono HBc.out.size)), HTSc.out.keep HS.out hW⟩
    have HUN : Hid (∀ W, TS p (inc (inL p.P m) su) (fun j => if j = m then k + 1 else lv j) W → TS p (inc (inL p.P m) su) (fun j => if j = m then lv m + 1 else lv j) W) := Lib.hid fun W h => by rw [HK.out]; exact h
    obtain ⟨l, hl⟩ : ∃ l, inL p.P m = l := ⟨_, rfl⟩
    obtain ⟨ln, hln⟩ : ∃ ln, l.length = ln := ⟨_, rfl⟩
    obtain ⟨R, hRe⟩ : ∃ R, p.L.length = R := ⟨_, rfl⟩
    have hl1000 : ln ≤ 1000 := by rw [← hln, ← hl]; exact (HS.out.lt m HM.out).2
    have hR48 : R ≤ 48 := by rw [← hRe]; exact HS.out.n.2
    have hn16 : n ≤ 16 := by rw [← HN.out]; exact HS.out.n.1
    rw [hl] at HUB HSTP HRZ HCR HEV HFIN HTS0 HEND hcr
    have HUN' : Hid (∀ W, TS p (inc l su) (fun j => if j = m then k + 1 else lv j) W → TS p (inc (inL p.P m) su) (fun j => if j = m then k + 1 else lv j) W) := Lib.hid fun W h => by rw [hl]; exact h
    clear HUN
    rw [hln] at HUB HSTP HRZ HCR HEV HEND hcr
    rw [hRe] at HUB HCC
    have hcr' := HCR.out Wc (Exc.refl _)
    have hm16i : (m : Int) < 16 := by omega
    clear hcr hof hzz hrz hW hlc hb7 HAM HD HS1 HTS HBD hl hln hRe HS0 HE0 HB0 HB1
    have HV1 : Hid (∀ W, Exc p.W w W ∧ TS p su lv W → Exc p.W w W) := Lib.hid fun W h => h.1
    cases r
    · go_wp2_with (go_at_call 84; with_reducible refine (HEV.out).mono ?_; rintro e W5 ⟨rfl, hb5⟩)
      all_goals (try (exfalso; omega))
      go_ret
      first
        | exact ⟨rfl, (HNO.out _ hb5).1, (HNO.out _ hb5).2⟩
        | exact ⟨rfl, (HNO.out _ hb5).1, fun _ => (HNO.out _ hb5).2, fun h => by cases h⟩
    · go_upto_region 7 with (go_at_call 84; with_reducible refine (HEV.out).mono ?_; rintro e W5 ⟨rfl, hb5⟩)
      all_goals (try (exfalso; omega))
      have HB5 := Lib.hid hb5
      have HE5 : Hid (Exc p.W Wc W5) := Lib.hid (Exc.of_below hb5)
      have HF5 := Lib.hid (HTS0.out W5 hb5)
      clear hcr' f0 f0' hb5 h7
      obtain ⟨v0, v1⟩ := HBC2.out W5 HE5.out
      have vcr := HCR.out W5 HE5.out
      go_wp2_with fail
      all_goals (try (exfalso; omega))
      clear v0 v1 vcr
      go_loopw [68] (fun i wr => ∃ q : Nat, q ≤ ln ∧ i = .int .i64 q ∧ Exc p.W Wc wr ∧ TS p (inc (l.take q) su) lv wr) (fun i _ => ln - (intOf i).toNat)
      case atStart => exact ⟨0, by omega, rfl, HE5.out, HF5.out⟩
      case round =>
        obtain ⟨q, hq, rfl, hE, hF⟩ := hrel
        obtain ⟨wb, hwb⟩ : ∃ x, x = wr := ⟨_, rfl⟩
        subst hwb
        have HEb := Lib.hid hE
        have HFb := Lib.hid hF
        clear hE hF
        obtain ⟨v0, v1⟩ := HBC2.out wb HEb.out
        obtain ⟨c22, c24, ⟨xm, xf⟩, ck⟩ := HCC.out _ _ HFb.out
        by_cases hlq : q < ln
        · obtain ⟨b', o', rfl, hl', hc⟩ := (HRZ.out _ HEb.out) q hlq
          obtain ⟨i, hi⟩ : ∃ x, l.getD q 0 = x := ⟨_, rfl⟩
          have hc' : wb.cell? ⟨b', o' + q, none⟩ = some (.int .i64 ((i : Nat) : Int)) := by rw [hc, ← hi]
          obtain ⟨hiR, u1, u2⟩ := HUB.out q i hlq hi
          obtain ⟨cg, fg⟩ := ck i hiR
          obtain ⟨hd1, hd2⟩ := HSTP.out wb q i hlq hi HFb.out
          have HD1 := Lib.hid hd1
          have HD2 := Lib.hid hd2
          obtain ⟨u, hu⟩ : ∃ u, inc (l.take q) su i = u := ⟨_, rfl⟩
          rw [hu] at cg u1 u2 HD1 HD2
          have hwu : IntKind.i64.wrap (u + 1) = u + 1 := IntWalk.i64_in _ (by omega)
          have hiR' : (i : Int) < (R : Int) := by omega
          clear hc hi ck xm xf hd1 hd2 hu c24
          go_upto_region 10 with fail
          all_goals (try (exfalso; omega))
          go_still_tail 10, (by kernel_rfl)
          (try change wpList _ _ _ _ _ (World.drew wb))
          go_wp2_with fail
          all_goals (try (exfalso; omega))
          go_roundw
          case rel => exact ⟨q + 1, by omega, by go_num, HEb.out.trans HD2.out, HD1.out⟩
          case measure => simp [intOf] <;> omega
        · obtain rfl : q = ln := by omega
          have hF := HFb.out
          rw [HEND.out] at hF
          obtain ⟨hf1, hf2⟩ := HFIN.out wb HEb.out hF
          have HF1 := Lib.hid hf1
          have HF2 := Lib.hid (HUN'.out _ hf2)
          clear ck hf1 hf2 hF v1 c22
          go_wp2_with fail
          all_goals (try (exfalso; omega))
          go_ret
          first
            | exact ⟨rfl, HF1.out, HF2.out⟩
            | exact ⟨rfl, HF1.out, fun h => by cases h, fun _ => HF2.out⟩
end Go.Proofs.Ytkhmlbkkdflnoaa.Nm
