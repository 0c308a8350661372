/-
  THE LAW SettleTwice, walked.
-/
import Derived.Test.YtflehgdhdfmacaaLawsb
import Derived.Test.YtflehgdhdfmacaaLawsd
namespace Go.Proofs.Ytflehgdhdfmacaa
open Go.RowKit
set_option linter.unusedVariables false
attribute [local go_sem ↓] Go.wp_at_zero Go.wp_at_succ

theorem RR.take {w : World} {A : Option Addr} {n k : Nat} {X : Nat → Nat → Int} (x : RR w A n X) (h : k ≤ n) : RR w A k X := fun i hi => x i (by omega)
theorem RR.congr {w : World} {A : Option Addr} {n : Nat} {X Y : Nat → Nat → Int} (x : RR w A n X) (h : ∀ i, i < n → X i = Y i) : RR w A n Y := fun i hi => by rw [← h i hi]; exact x i hi
/-- one more record -/
def more (X : Nat → Nat → Int) (n : Nat) (x : Nat → Int) : Nat → Nat → Int := fun i => if i = n then x else X i
theorem more_old (X : Nat → Nat → Int) (n : Nat) (x : Nat → Int) : ∀ i, i < n → more X n x i = X i := fun i hi => if_neg (by omega)
theorem more_new (X : Nat → Nat → Int) (n : Nat) (x : Nat → Int) : more X n x n = x := if_pos rfl
theorem more_recs (X : Nat → Nat → Int) (n : Nat) (x : Nat → Int) : recs X n ++ rcL x = recs (more X n x) (n + 1) := by
  simp only [recs]
  rw [recs_congr n (more_old X n x), more_new]
theorem more_all {X : Nat → Nat → Int} {n : Nat} {x : Nat → Int} {m : Int} (h : allR m X n) (hx : okR m x = true) : allR m (more X n x) (n + 1) := fun i hi => by
  by_cases e : i = n
  · subst e; rw [more_new]; exact hx
  · rw [more_old X n x i (by omega)]; exact h i (by omega)
theorem more_wf {X : Nat → Nat → Int} {n : Nat} {x : Nat → Int} (h : ∀ i, i < n → (Lit.int .i64 (X i 0)).wf = true) (hx : (Lit.int .i64 (x 0)).wf = true) : ∀ i, i < n + 1 → (Lit.int .i64 (more X n x i 0)).wf = true := fun i hi => by
  by_cases e : i = n
  · subst e; rw [more_new]; exact hx
  · rw [more_old X n x i (by omega)]; exact h i (by omega)
theorem more_dup {X : Nat → Nat → Int} {n j : Nat} {x : Nat → Int} (hj : j < n) (h4 : x 4 = X j 4) (h0 : x 0 = X j 0) : dup (more X n x) (n + 1) := ⟨n, by omega, j, hj, by rw [more_new, more_old X n x j hj]; exact h4, by rw [more_new, more_old X n x j hj]; exact h0⟩
/-- a record's box -/
def RB (W : World) (b : Nat) (x : Nat → Int) : Prop := W.heap[b]? = some (.cells (rcL x).toArray 40 (0, 0))
theorem RB.lt {W : World} {b : Nat} {x : Nat → Int} (h : RB W b x) : b < W.heap.size := (Array.getElem?_eq_some_iff.1 h).1
theorem RB.keep {W W' : World} {b : Nat} {x : Nat → Int} (h : RB W b x) (hb : Below W.heap.size W W') : RB W' b x := (hb.block _ h.lt).trans h
theorem RB.grown {W W' : World} {b : Nat} {x : Nat → Int} {g : Option Nat} (h : RB W b x) (hg : W.grownBy W' g) (hne : some b ≠ g) : RB W' b x := (hg.block _ h.lt hne).trans h
theorem RB.new (W : World) (x : Nat → Int) : RB (W.alloc (.cells (rcL x).toArray 40)) W.heap.size x := heap_alloc_new _ _
theorem RB.get {W : World} {b : Nat} {x : Nat → Int} (h : RB W b x) :
    W.cell? ⟨b, 0, none⟩ = some (.int .i64 (x 0)) ∧ W.cell? ⟨b, 1, none⟩ = some (.int .i64 (x 1)) ∧ W.cell? ⟨b, 2, none⟩ = some (.int .i64 (x 2)) ∧ W.cell? ⟨b, 3, none⟩ = some (.int .i64 (x 3)) ∧ W.cell? ⟨b, 4, none⟩ = some (.int .i64 (x 4)) ∧ W.cell? ⟨b, 5, none⟩ = some (.int .i64 (x 5)) ∧ W.cell? ⟨b, 6, none⟩ = some (.int .i64 (x 6)) ∧ W.cell? ⟨b, 7, none⟩ = some (.int .i64 (x 7)) ∧ W.cell? ⟨b, 8, none⟩ = some (.int .i64 (x 8)) ∧ W.cell? ⟨b, 9, none⟩ = some (.int .u64 (x 9)) ∧ W.cell? ⟨b, 10, none⟩ = some (.int .u64 (x 10)) ∧ W.cell? ⟨b, 11, none⟩ = some (.int .u64 (x 11)) ∧ W.cell? ⟨b, 12, none⟩ = some (.int .u64 (x 12)) := by
  refine ⟨?_, ?_, ?_, ?_, ?_, ?_, ?_, ?_, ?_, ?_, ?_, ?_, ?_⟩ <;> rw [cell_of_row W b _ _ _ (0, 0) h] <;> rfl
theorem settles_lit (a b c d : Int) (m : Int) (w : World) :
    Calls Try.prog 20 #[.agg #[.int .i64 a, .int .i64 0, .int .i64 0, .int .i64 b, .int .i64 c, .int .i64 0, .int .i64 0, .int .i64 0, .int .i64 d, .int .u64 0, .int .u64 0, .int .u64 0, .int .u64 0], .int .i64 m] w
      fun e w' => e = .returned (.bool (okR m (rcX a b c d))) ∧ Below w.heap.size w w' := settles_any (rcX a b c d) m w

set_option maxRecDepth 100000 in
set_option maxHeartbeats 4000000 in
theorem twice_bad (b o n c : Nat) (X : Nat → Nat → Int) (m u home amount : Int) (j : Nat) (w : World) (hn : 1 ≤ n ∧ n ≤ 63) (hu : 0 ≤ u) (hj : u.tmod (n : Int) = (j : Int)) (hjn : j < n) (hX : RR w (some ⟨b, o, none⟩) n X) (hw : ∀ i, i < n → (Lit.int .i64 (X i 0)).wf = true) (hbad : ¬ OkN X n m) :
    Calls Try.prog 7 #[.slice (some ⟨b, o, none⟩) n c, .int .i64 m, .int .i64 u, .int .i64 home, .int .i64 amount] w fun e w' => e = .returned (.bool true) ∧ Below w.heap.size w w' := by
  have HX := Lib.hid hX
  have HW := Lib.hid hw
  have HBAD := Lib.hid hbad
  clear hX hw hbad
  have z1 : ((n : Int) == 0) = false := by simp; omega
  have z2 : ¬ (n : Int) = 0 := by omega
  have z3 : decide ((63 : Int) < (n : Int)) = false := decide_eq_false (by omega)
  have z4 : decide (u < 0) = false := decide_eq_false (by omega)
  have j1 : (0 : Int) ≤ (j : Int) := by omega
  have j2 : (j : Int) < (n : Int) := by omega
  go_enter Try.func7, Try.ntmps7
  go_upto_region 5 with (first
    | (go_at_call 9; with_reducible refine (head_any _).mono ?_; rintro e w0 ⟨rfl, h0⟩)
    | (go_at_call 10; with_reducible refine (net_bad _ _ _ X m _ (by omega) (HX.out.keep h0) HW.out HBAD.out).mono ?_; rintro e w1 ⟨er, rfl, her, h1⟩))
  all_goals (try (exfalso; omega))
  have H1 := Lib.hid (bel_step h0 h1)
  obtain ⟨b', o', e', hb, c0, c1, c2, c3, c4, c5, c6, c7, c8, c9, c10, c11, c12⟩ := (HX.out.keep H1.out).cells hjn
  cases e'
  rcases her with rfl | rfl
  all_goals
    go_wp2_with (first
      | (go_at_call 19; with_reducible refine (rec_lit _ _ _ _ _).mono ?_; rintro e w2 ⟨rfl, h2⟩)
      | (go_at_call 20; with_reducible refine (settles_lit _ _ _ _ m _).mono ?_; rintro e w3 ⟨rfl, h3⟩))
    go_ret
    exact ⟨rfl, bel_step (bel_alloc (bel_step (bel_alloc H1.out _) h2) _) h3⟩

theorem RB.alloc {W : World} {b : Nat} {x : Nat → Int} (h : RB W b x) (o : Obj) : RB (W.alloc o) b x := h.keep (bel_a W o)
theorem RB.drew {W : World} {b : Nat} {x : Nat → Int} (h : RB W b x) : RB W.drew b x := h
theorem RB.news {W : World} {b : Nat} {x : Nat → Int} (h : RB W b x) : ∀ j u, (rcL x)[j]? = some u → W.cell? ((⟨b, 0, none⟩ : Addr).add j) = some u := World.news_of_block h
theorem heap_second (w : World) (X Y : Obj) : ((w.alloc X).alloc Y).heap[w.heap.size + 1]? = some Y := by
  have q := heap_alloc_new (w.alloc X) Y
  simpa using q
theorem RB.second (w : World) (o : Obj) (x : Nat → Int) : RB ((w.alloc o).alloc (.cells (rcL x).toArray 40)) (w.heap.size + 1) x := heap_second _ _ _
theorem own_at0 {W : World} {B g : Nat} {t : TypeId} {s cap : Nat} {cs : Array Value} (h : W.heap[g]? = some (.cells cs t (0, 0))) (hB : B ≤ g) (hc : cap ≤ maxLen) (hl : cs.size = cap * s) : W.ownsRow B t s (.slice (some ⟨g, 0, none⟩) 0 cap) 0 [] :=
  ⟨by simp, .inr ⟨g, cap, cs, rfl, hB, h, Nat.zero_le _, hc, hl, by simp⟩⟩
theorem grow_h {w W wA : World} {row : Option Nat} (h : Below w.heap.size w W) (hg : W.grownBy wA row) (hr : ∀ x, row = some x → w.heap.size ≤ x) : Below w.heap.size w wA := h.grown hg h.size hr
theorem row_ge {g n cap B : Nat} (h : B ≤ g) : ∀ x, (Value.slice (some ⟨g, 0, none⟩) n cap).ownBlock = some x → B ≤ x := by
  intro x e
  have : g = x := by simpa [Value.ownBlock] using e
  omega
theorem row_ne {g n cap B : Nat} (h : B ≠ g) : some B ≠ (Value.slice (some ⟨g, 0, none⟩) n cap).ownBlock := by
  simp [Value.ownBlock]; exact h
end Go.Proofs.Ytflehgdhdfmacaa
