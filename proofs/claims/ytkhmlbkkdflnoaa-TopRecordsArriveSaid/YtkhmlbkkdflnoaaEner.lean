/-
  THE WALKS over package chain, fourth part: Energy.
-/
import Derived.Test.YtkhmlbkkdflnoaaIter
namespace Go.Proofs.Ytkhmlbkkdflnoaa.Ch
open Go.RowKit Go.Shelf
attribute [local go_sem] Oper.semAt_some
set_option linter.unusedVariables false
set_option linter.unusedSimpArgs false

/-- what two neighbours count -/
def cnt (x y : Nat → Int) : Int := if y 0 = x 0 then y 3 - x 3 else 0
/-- the energy from reading a to reading b (numbers from 1 on) -/
def eSum (X : Nat → Nat → Int) (a : Nat) : Nat → Int
  | 0 => 0
  | k + 1 => eSum X a k + cnt (X (a + k - 1)) (X (a + k))
/-- the energy of the k neighbours behind reading a is a number of moderate size -/
theorem fi_all {e : Nat → Bool} {m : Nat} (h : fi e m = m) : ∀ j, j < m → e j = true := fun j hj => fi_lt e m j (by omega)
theorem okB_bd {X : Nat → Nat → Int} {i : Nat} (h : okB X i = true) : (1 ≤ X i 0 ∧ X i 0 ≤ 1000000) ∧ X i 1 = (i : Int) + 1 ∧ (0 ≤ X i 2 ∧ X i 2 ≤ 52560000) ∧ (0 ≤ X i 3 ∧ X i 3 ≤ 1000000000) := by
  unfold okB vR at h
  simp only [Bool.and_eq_true, decide_eq_true_eq] at h
  exact ⟨inB_iff.1 h.1.1.1, h.1.2, inB_iff.1 h.1.1.2.2.1, inB_iff.1 h.1.1.2.2.2⟩
set_option maxHeartbeats 2000000 in
theorem cnt_any (a b c d l a' b' c' d' l' s : Int) (B : Nat) (w : World) (hb : Boxed w B 3 (.int .i64 s))
    (hd : 0 ≤ d ∧ d ≤ 1000000000) (hd' : 0 ≤ d' ∧ d' ≤ 1000000000) (hs : -1000000000000 ≤ s ∧ s ≤ 1000000000000) :
    Calls Try.prog 36 #[.agg #[.int .i64 a, .int .i64 b, .int .i64 c, .int .i64 d, .int .u64 l], .agg #[.int .i64 a', .int .i64 b', .int .i64 c', .int .i64 d', .int .u64 l'], .pointer (some ⟨B, 0, none⟩)] w
      fun e w' => (∃ v, e = .returned v) ∧ Boxed w' B 3 (.int .i64 (s + (if a' = a then d' - d else 0))) ∧ w.grownBy w' (some B) := by
  have HG : Hid (∀ o o', w.grownBy ((w.alloc o).alloc o') (some B)) := Lib.hid fun o o' => World.grownBy.trans (World.grownBy_alloc w o (some B)) (World.grownBy_alloc _ o' (some B))
  have HB : Hid (∀ o o', Boxed ((w.alloc o).alloc o') B 3 (.int .i64 s)) := Lib.hid fun o o' => (hb.alloc o).alloc o'
  have HB2 : Hid (∀ v o o', Boxed (((w.setCell ⟨B, 0, none⟩ v).alloc o).alloc o') B 3 v) := Lib.hid fun v o o' => ((hb.set v).alloc o).alloc o'
  have HG2 : Hid (∀ v o o', w.grownBy (((w.setCell ⟨B, 0, none⟩ v).alloc o).alloc o') (some B)) := Lib.hid fun v o o' => World.grownBy.trans (World.grownBy.trans (grownBy_setCell' w B v) (World.grownBy_alloc _ o (some B))) (World.grownBy_alloc _ o' (some B))
  have hc := hb.cell
  have hf := hb.frozen
  have hl := hb.lt
  by_cases h : a' = a
  · subst h
    rw [if_pos rfl]
    go_enter Try.func36, Try.ntmps36
    go_wp2
    all_goals (try (exfalso; omega))
    go_end0
    exact ⟨⟨_, rfl⟩, HB2.out _ _ _, HG2.out _ _ _⟩
  · have e1 : (a' == a) = false := by simpa using h
    rw [if_neg h]
    go_enter Try.func36, Try.ntmps36
    go_wp2
    all_goals (try (exfalso; omega))
    go_end0
    exact ⟨⟨_, rfl⟩, by rw [Int.add_zero]; exact HB.out _ _, HG.out _ _⟩
/-- what holds while the readings are counted -/
def GI (w : World) (pre : List Nat) (W : World) : Prop := Boxed W w.heap.size 3 (.int .i64 (pre.length : Int)) ∧ Below w.heap.size w W ∧ w.heap.size + 2 ≤ W.heap.size
theorem kept_low {A B : World} {row : Option Nat} {n j : Nat} {o : Obj} (hg : A.grownBy B row) (hr : ∀ r, row = some r → n ≤ r ∧ ∃ o, A.heap[r]? = some o ∧ o.isCells = false) (hj : j < n) (h : A.heap[j]? = some o) : B.heap[j]? = some o :=
  (hg.block j (Array.getElem?_eq_some_iff.1 h).1 (fun e => by have := (hr j e.symm).1; omega)).trans h
theorem GI.own (w : World) (n : Nat) (hn : w.heap.size + 1 ≤ n) : OwnFrom n (GI w) := by
  rintro s A B row ⟨x1, x2, x3⟩ hg hr
  exact ⟨kept_low hg hr (by omega) x1, ownFrom_below (β := Unit) (Nat.le_refl _) (by omega) () A B row x2 hg hr, Nat.le_trans x3 hg.size⟩
theorem eSum_bd {X : Nat → Nat → Int} {a : Nat} : ∀ {k : Nat}, (∀ j, j < k → 0 ≤ X (a + j - 1) 3 ∧ X (a + j - 1) 3 ≤ 1000000000) → (∀ j, j < k → 0 ≤ X (a + j) 3 ∧ X (a + j) 3 ≤ 1000000000) → -(k * 1000000000 : Int) ≤ eSum X a k ∧ eSum X a k ≤ k * 1000000000 := by
  intro k
  induction k with
  | zero => intro _ _; simp [eSum]
  | succ k ih =>
    intro h1 h2
    have i1 := ih (fun j hj => h1 j (by omega)) (fun j hj => h2 j (by omega))
    have i2 := h1 k (by omega)
    have i3 := h2 k (by omega)
    simp only [eSum, cnt]
    push_cast
    split <;> omega
/-- what holds while the energy is counted -/
def EI (w : World) (X : Nat → Nat → Int) (a b D B9 : Nat) (i : Value) (wr : World) : Prop := ∃ k : Nat, a + k ≤ b ∧ i = .int .i64 ((a + k : Nat) : Int) ∧ Boxed wr B9 3 (.int .i64 (eSum X a k)) ∧ Below w.heap.size w wr ∧ wr.heap[D]? = some (.deferred (some []))
set_option maxRecDepth 100000 in
set_option maxHeartbeats 8000000 in
theorem energy_ok (A : Option Addr) (m c : Nat) (X : Nat → Nat → Int) (a b : Nat) (w : World) (hm : m ≤ 1000) (hR : RG w A m X) (hok : fi (okB X) m = m) (ha : 1 ≤ a) (hab : a ≤ b) (hb : b ≤ m) :
    Calls Try.prog 11 #[.slice A m c, .int .i64 a, .int .i64 b] w
      fun e w' => e = .returned (.tuple #[.int .i64 (eSum X a (b - a)), .int .i64 0]) ∧ Below w.heap.size w w' := by
  have HR := Lib.hid hR
  have HOK := Lib.hid hok
  clear hR hok
  refine (callsIn_wide (n := 9)).1 ?_
  refine callsIn_of_wp_marks Try.func11 rfl trivial ?_ rfl
  simp only [Try.ntmps11, List.size_toArray, List.length_cons, List.length_nil, Nat.reduceAdd, Nat.reduceSub, Array.replicate_succ, Array.replicate_zero, List.push_toArray, List.append_toArray, List.nil_append, List.cons_append]
  gi_wp2_with (refine ⟨trivial, ?_⟩; gi_at_call 35; refine (callsIn_wide.2 (inOrder_any A m c _)).mono ?_; rintro e w2 ⟨rfl, rfl⟩)
  have hI0 : GI w [] ((w.alloc (.cells #[.int .i64 0] 3)).alloc (.cells #[.slice A m c] 29)) := ⟨(Boxed.new w 3 (.int .i64 0)).alloc _, bel_alloc (bel_alloc (Below.refl _ _) _) _, by simp⟩
  have hb1 : Boxed ((w.alloc (.cells #[.int .i64 0] 3)).alloc (.cells #[.slice A m c] 29)) (w.heap.size + 1) 29 (.slice A m c) := by
    have := Boxed.new (w.alloc (.cells #[.int .i64 0] 3)) 29 (.slice A m c)
    rwa [World.size_alloc] at this
  obtain ⟨W0, hW0⟩ : ∃ W0, ((w.alloc (.cells #[.int .i64 0] 3)).alloc (.cells #[.slice A m c] 29)) = W0 := ⟨_, rfl⟩
  rw [hW0] at hI0 hb1 ⊢
  clear hW0
  have hsz := hI0.2.2
  have hRb : Rb w.heap.size (w.heap.size + 1) A m c X W0 := ⟨hb1.cell, fun i hi => by
    obtain ⟨b, o, e, hl, c0, c1, c2, c3, c4⟩ := HR.out i hi
    have hc : ∀ j, W0.cell? ⟨b, j, none⟩ = w.cell? ⟨b, j, none⟩ := fun j => hI0.2.1.cell (p := ⟨b, j, none⟩) hl
    exact ⟨b, o, e, hl, (hc _).trans c0, (hc _).trans c1, (hc _).trans c2, (hc _).trans c3, (hc _).trans c4⟩⟩
  refine wpIn_rangeFunc_ownF rfl (by omega) (gf := 96) (lb := #[.pointer (some ⟨w.heap.size + 1, 0, none⟩)]) rfl trivial (enters_of Try.func96 (by kernel_rfl) rfl)
    (inOrder_seq 8 (by omega) w.heap.size (w.heap.size + 1) A m c X hm W0 (by omega) (by omega) hRb)
    Kb.trans (fun W l o o' hl hW h1 h2 => ⟨belowK_b (w := W0) (by omega) W l o o' hl hW h1 h2, World.putObj_heap_other (by omega)⟩) (Below.refl _ _) (fun _ => rfl)
    (GI w) (fun _ _ _ => False) (GI.own w _ (by omega)) (fun c s A B row h _ _ => h) hI0
    (fun x => { tmps := #[.slice A m c, .int .i64 a, .int .i64 b, undef, undef, undef, .int .i64 0, .int .i64 0, .pointer (some ⟨w.heap.size, 0, none⟩), undef, undef, undef, .slice A m c, .func (.func 96) #[] #[.pointer (some ⟨w.heap.size + 1, 0, none⟩)], .int .i64 ((x : Nat) : Int), .agg #[.int .i64 (X x 0), .int .i64 (X x 1), .int .i64 (X x 2), .int .i64 (X x 3), .int .u64 (X x 4)],
      undef, undef, undef, undef, undef, undef, undef, undef, undef, undef, undef, undef, undef, undef, undef, undef, undef, undef, undef, undef, undef, undef, undef, undef, undef, undef, undef, undef, undef, undef, undef, undef, undef, undef, undef, undef, undef, undef, undef, undef], defers := [] }) ?assign ?body ?done ?stop
  case assign =>
    intro l x W K hK
    unfold enc
    gi_wp2
    exact hK
  case body =>
    rintro l pre x W ⟨x1, x2, x3⟩ hlen
    have hle := fi_le (okB X) m
    have c1 := x1.cell
    have f1 := x1.frozen
    have hl : (pre ++ [x]).length = pre.length + 1 := by simp
    have HL := Lib.hid hl
    have hb0 : ((pre.length : Nat) : Int) ≤ 1000 := by omega
    clear hl hlen
    gi_wp2
    refine ⟨KeepsOthers.setCell _ _ _, ⟨(Below.refl _ _).setCell (p := ⟨w.heap.size, 0, none⟩) (by simp) _, Below.heap_setCell W ⟨w.heap.size, 0, none⟩ _ _ (by simp)⟩, ?_, x2.setCell (p := ⟨w.heap.size, 0, none⟩) (by simp) _, by simpa using x3⟩
    have := x1.set (.int .i64 ((pre.length : Int) + 1))
    rw [HL.out]
    exact this
  case done =>
    rintro D ys W hD rfl ⟨x1, x2, x3⟩ hK
    rw [List.length_range, HOK.out] at x1
    have c1 := x1.cell
    have X2 := Lib.hid x2
    have HK := Lib.hid hK
    have hDW : D < W.heap.size := (Array.getElem?_eq_some_iff.1 hK).1
    have q1 : decide ((a : Int) < 1) = false := decide_eq_false (by omega)
    have q2 : decide ((b : Int) < (a : Int)) = false := decide_eq_false (by omega)
    have q3 : decide (b < a) = false := decide_eq_false (by omega)
    have q4 : decide (m < b) = false := decide_eq_false (by omega)
    clear x1 x2 hK
    gi_wp2
    have hb9 := Boxed.new W 3 (.int .i64 0)
    have hbw : Below w.heap.size w (W.alloc (.cells #[.int .i64 0] 3)) := bel_alloc X2.out _
    have hkd : (W.alloc (.cells #[.int .i64 0] 3)).heap[D]? = some (.deferred (some [])) := (Below.heap_alloc _ _ _ hDW).trans HK.out
    obtain ⟨W1, hW1⟩ : ∃ W1, W.alloc (.cells #[.int .i64 0] 3) = W1 := ⟨_, rfl⟩
    rw [hW1] at hb9 hbw hkd ⊢
    clear hW1
    obtain ⟨B9, hB9⟩ : ∃ B9, W.heap.size = B9 := ⟨_, rfl⟩
    have hBw : w.heap.size ≤ B9 := by rw [← hB9]; exact X2.out.size
    rw [hB9] at hb9 hDW ⊢
    clear c1 hB9
    refine wpIn_wide.2 ?_
    go_loopw [11] (fun i wr => EI w X a b D B9 i wr) (fun i _ => b - (intOf i).toNat)
    case atStart => exact ⟨0, by omega, by simp, hb9, hbw, hkd⟩
    case round =>
      obtain ⟨k, hk, rfl, hb, hbel, hkd⟩ := hrel
      by_cases hlt : a + k < b
      · obtain ⟨b1, o1, rfl, hl1, c0, c1, c2, c3, c4⟩ := (HR.out.keep hbel) (a + k - 1) (by omega)
        obtain ⟨b2, o2, e2, hl2, d0, d1, d2, d3, d4⟩ := (HR.out.keep hbel) (a + k) (by omega)
        cases e2
        obtain ⟨_, _, _, hx3⟩ := okB_bd (fi_all HOK.out (a + k - 1) (by omega))
        obtain ⟨_, _, _, hy3⟩ := okB_bd (fi_all HOK.out (a + k) (by omega))
        have hes := eSum_bd (X := X) (a := a) (k := k) (fun j hj => (okB_bd (fi_all HOK.out (a + j - 1) (by omega))).2.2.2) (fun j hj => (okB_bd (fi_all HOK.out (a + j) (by omega))).2.2.2)
        have hstep : eSum X a (k + 1) = eSum X a k + (if X (a + k) 0 = X (a + k - 1) 0 then X (a + k) 3 - X (a + k - 1) 3 else 0) := rfl
        have hsb : -1000000000000 ≤ eSum X a k ∧ eSum X a k ≤ 1000000000000 := by omega
        have hDB : D ≠ B9 := by omega
        have HST := Lib.hid hstep
        have HBL := Lib.hid hbel
        have HKD := Lib.hid hkd
        clear hstep hes hbel hkd
        obtain ⟨p, hp⟩ : ∃ p, a + k = p := ⟨_, rfl⟩
        obtain ⟨q, hq⟩ : ∃ q, p - 1 = q := ⟨_, rfl⟩
        rw [hp, hq] at c0 c1 c2 c3 c4 hx3
        rw [hp] at d0 d1 d2 d3 d4 hy3 hlt ⊢
        rw [hp, hq] at HST
        have wq : IntKind.i64.wrap ((p : Int) - 1) = (q : Int) := by rw [show (p : Int) - 1 = (q : Int) by omega]; exact IntWalk.i64_in _ (by omega)
        have j0 : (0 : Int) ≤ (q : Int) := by omega
        have j1 : (q : Int) < (m : Int) := by omega
        have i0 : (0 : Int) ≤ (p : Int) := by omega
        have i1 : (p : Int) < (m : Int) := by omega
        have HP := Lib.hid hp
        have HCL := Lib.hid (fun W (h : Boxed W B9 3 (.int .i64 (eSum X a k))) => cnt_any (X q 0) (X q 1) (X q 2) (X q 3) (X q 4) (X p 0) (X p 1) (X p 2) (X p 3) (X p 4) (eSum X a k) B9 W h hx3 hy3 hsb)
        have HB := Lib.hid hb
        clear hp hq hx3 hy3 hsb hb
        go_upto_region 11 with (fail)
        go_still_tail 10, (by kernel_rfl)
        go_wp2_with (first | (go_at_call 36; refine (HCL.out wr.drew HB.out).mono ?_; rintro e w4 ⟨⟨v, rfl⟩, hb4, hg4⟩))
        rw [← HST.out] at hb4
        have hrel : EI w X a b D B9 (.int .i64 ((p : Int) + 1)) w4 := ⟨k + 1, by have := HP.out; omega, by have := HP.out; go_num, hb4, HBL.out.grown (w := wr) (row := some B9) ⟨hg4.os, hg4.tape, hg4.output, hg4.size, hg4.block⟩ (by have := HBL.out.size; exact this) (fun j e => by injection e with e; omega), (hg4.block D (by have := (Array.getElem?_eq_some_iff.1 HKD.out).1; exact this) (fun e => by injection e with e; omega)).trans HKD.out⟩
        have HREL := Lib.hid hrel
        clear hrel hb4 hg4
        go_wp2
        refine ⟨HREL.out, by simp [intOf] <;> omega⟩
      · obtain rfl : k = b - a := by omega
        have cb := hb.cell
        have HBL := Lib.hid hbel
        have HKD := Lib.hid hkd
        obtain ⟨S, hS⟩ : ∃ S, eSum X a (b - a) = S := ⟨_, rfl⟩
        rw [hS] at cb
        have HS := Lib.hid hS
        have hab2 : a + (b - a) = b := by omega
        rw [hab2]
        clear hb hbel hkd hS hab2 hlt hk
        go_wp2
        gi_wp2
        refine ⟨by simp, .inl ⟨_, _, rfl, run_takeDeferred HKD.out, ?_⟩⟩
        refine ⟨.tuple #[.int .i64 S, .int .i64 0], by simp [results, Try.f11, go_sem], by rw [HS.out], ?_⟩
        exact HBL.out.trans (belowK_b (w := w) (Nat.le_refl _) _ D _ _ (by omega) HKD.out rfl rfl)
  case stop =>
    rintro D c pre W hD hpre h hK
    exact h.elim
end Go.Proofs.Ytkhmlbkkdflnoaa.Ch
