/-
  THE WALKS over package chain, fifth part: Check.
-/
import Derived.Test.YtkhmlbkkdflnoaaEner
import Derived.Test.YtkhmlbkkdflnoaaRangeA
namespace Go.Proofs.Ytkhmlbkkdflnoaa.Ch
open Go.RowKit Go.Shelf
attribute [local go_sem] Oper.semAt_some
set_option linter.unusedVariables false
set_option linter.unusedSimpArgs false

/-- the state behind readings, and whether their links are right -/
def stL (X : Nat → Nat → Int) (seed : Int) (pre : List Nat) : Int := match pre.getLast? with
  | none => seed
  | some i => X i 4
def lkOf (X : Nat → Nat → Int) (s : Int) (i : Nat) : Int := lkf s (X i 0) (X i 1) (X i 2) (X i 3)
def goodL (X : Nat → Nat → Int) (seed : Int) (pre : List Nat) : Prop := ∀ j x, pre[j]? = some x → X x 4 = lkOf X (stL X seed (pre.take j)) x
theorem stL_snoc (X : Nat → Nat → Int) (seed : Int) (pre : List Nat) (x : Nat) : stL X seed (pre ++ [x]) = X x 4 := by simp [stL]
theorem goodL_snoc {X : Nat → Nat → Int} {seed : Int} {pre : List Nat} {x : Nat} (h : goodL X seed pre) (hx : X x 4 = lkOf X (stL X seed pre) x) : goodL X seed (pre ++ [x]) := by
  intro j y hj
  rcases Nat.lt_or_ge j pre.length with h' | h'
  · rw [List.getElem?_append_left h'] at hj
    rw [List.take_append_of_le_length (by omega)]
    exact h j y hj
  · have hlt : j < (pre ++ [x]).length := (List.getElem?_eq_some_iff.1 hj).1
    simp at hlt
    obtain rfl : j = pre.length := by omega
    simp at hj
    subst hj
    rw [List.take_left' rfl]
    exact hx
/-- the state ahead of reading i -/
def stt (X : Nat → Nat → Int) (seed : Int) (i : Nat) : Int := if i = 0 then seed else X (i - 1) 4
def chB (X : Nat → Nat → Int) (seed : Int) (i : Nat) : Bool := okB X i && decide (X i 4 = lkOf X (stt X seed i) i)
/-- what Check returns -/
def chk (X : Nat → Nat → Int) (seed : Int) (m : Nat) : Int := if fi (chB X seed) m < m then (fi (chB X seed) m : Int) else -1
theorem stL_range (X : Nat → Nat → Int) (seed : Int) (k : Nat) : stL X seed (List.range k) = stt X seed k := by
  cases k with
  | zero => rfl
  | succ k => rw [List.range_succ, stL_snoc]; simp [stt]
theorem goodL_range {X : Nat → Nat → Int} {seed : Int} {k : Nat} (h : goodL X seed (List.range k)) : ∀ j, j < k → X j 4 = lkOf X (stt X seed j) j := by
  intro j hj
  have := h j j (by simp [hj])
  rwa [List.take_range, Nat.min_eq_left (by omega), stL_range] at this
theorem chk_done {X : Nat → Nat → Int} {seed : Int} {m : Nat} (h : goodL X seed (List.range (fi (okB X) m))) : fi (chB X seed) m = fi (okB X) m := by
  refine fi_eq (fi_le _ _) (fun j hj => ?_) ?_
  · have := goodL_range h j hj
    simp [chB, fi_lt _ _ j hj, this]
  · rcases Nat.lt_or_ge (fi (okB X) m) m with h' | h'
    · exact .inr (by simp [chB, fi_at _ _ h'])
    · have := fi_le (okB X) m
      exact .inl (by omega)
theorem chk_stop {X : Nat → Nat → Int} {seed : Int} {m k x : Nat} {pre : List Nat} (hk : k < fi (okB X) m) (he : List.range (k + 1) = pre ++ [x]) (hg : goodL X seed pre) (hx : ¬ X x 4 = lkOf X (stL X seed pre) x) :
    fi (chB X seed) m = k ∧ pre.length = k := by
  rw [List.range_succ] at he
  obtain ⟨e1, e2⟩ := List.append_inj' he rfl
  injection e2 with e2 _
  subst e1 e2
  have hle := fi_le (okB X) m
  rw [stL_range] at hx
  refine ⟨fi_eq (by omega) (fun j hj => ?_) (.inr ?_), by simp⟩
  · simp [chB, fi_lt _ _ j (show j < fi (okB X) m by omega), goodL_range hg j hj]
  · simp [chB, hx]
/-- what holds while the readings are checked -/
def KI (X : Nat → Nat → Int) (seed : Int) (w : World) (pre : List Nat) (W : World) : Prop :=
  (Boxed W w.heap.size 3 (.int .i64 0) ∧ Boxed W (w.heap.size + 1) 3 (.int .i64 (pre.length : Int)) ∧ Boxed W (w.heap.size + 1 + 1) 24 (.int .u64 (stL X seed pre))) ∧ goodL X seed pre ∧ Below w.heap.size w W ∧ w.heap.size + 4 ≤ W.heap.size
def KX (X : Nat → Nat → Int) (seed : Int) (w : World) (c : Code) (xs : List Nat) (W : World) : Prop :=
  ∃ pre x, xs = pre ++ [x] ∧ c = .ret ∧ goodL X seed pre ∧ ¬ X x 4 = lkOf X (stL X seed pre) x ∧ Boxed W w.heap.size 3 (.int .i64 (pre.length : Int)) ∧ Below w.heap.size w W
theorem KI.own (X : Nat → Nat → Int) (seed : Int) (w : World) (n : Nat) (hn : w.heap.size + 3 ≤ n) : OwnFrom n (KI X seed w) := by
  rintro s A B row ⟨⟨x0, x1, x2⟩, x3, x4, x5⟩ hg hr
  exact ⟨⟨kept_low hg hr (by omega) x0, kept_low hg hr (by omega) x1, kept_low hg hr (by omega) x2⟩, x3, ownFrom_below (β := Unit) (Nat.le_refl _) (by omega) () A B row x4 hg hr, Nat.le_trans x5 hg.size⟩
theorem KX.own (X : Nat → Nat → Int) (seed : Int) (w : World) (c : Code) (n : Nat) (hn : w.heap.size + 3 ≤ n) : OwnFrom n (KX X seed w c) := by
  rintro s A B row ⟨pre, x, h1, h2, h3, h4, h5, h6⟩ hg hr
  exact ⟨pre, x, h1, h2, h3, h4, kept_low hg hr (by omega) h5, ownFrom_below (β := Unit) (Nat.le_refl _) (by omega) () A B row h6 hg hr⟩
/-- behind the assignment: the reading lies in block B8 -/
def KA (X : Nat → Nat → Int) (seed : Int) (w : World) (A : Option Addr) (m c : Nat) (pre : List Nat) (x : Nat) (a2 : Act) (W : World) : Prop :=
  ∃ B8, a2 = { tmps := #[.int .u64 seed, .slice A m c, undef, undef, .pointer (some ⟨w.heap.size, 0, none⟩), .pointer (some ⟨w.heap.size + 1, 0, none⟩), .pointer (some ⟨w.heap.size + 1 + 1, 0, none⟩), undef, .pointer (some ⟨B8, 0, none⟩), .int .u64 seed, .slice A m c, .func (.func 96) #[] #[.pointer (some ⟨w.heap.size + 1 + 1 + 1, 0, none⟩)], .int .i64 ((x : Nat) : Int), .agg #[.int .i64 (X x 0), .int .i64 (X x 1), .int .i64 (X x 2), .int .i64 (X x 3), .int .u64 (X x 4)], undef, undef, undef, undef, undef, undef, undef, undef, undef, undef, undef, undef, undef, undef, undef, undef], defers := [] } ∧ W.heap[B8]? = some (.cells #[.int .i64 (X x 0), .int .i64 (X x 1), .int .i64 (X x 2), .int .i64 (X x 3), .int .u64 (X x 4)] 58 (0, 0)) ∧ KI X seed w pre W ∧ w.heap.size + 4 ≤ B8
theorem KA.own (X : Nat → Nat → Int) (seed : Int) (w : World) (A : Option Addr) (m c : Nat) (x : Nat) (a2 : Act) (n : Nat) (hn : w.heap.size + 3 ≤ n) : OwnFrom n (fun pre => KA X seed w A m c pre x a2) := by
  rintro s A' B row ⟨B8, h1, h2, h3, h4⟩ hg hr
  refine ⟨B8, h1, ?_, KI.own X seed w n hn s A' B row h3 hg hr, h4⟩
  refine (hg.block B8 (Array.getElem?_eq_some_iff.1 h2).1 (fun e => ?_)).trans h2
  obtain ⟨o, ho, hc⟩ := (hr B8 e.symm).2
  rw [h2] at ho
  cases ho
  cases hc
set_option maxRecDepth 100000 in
set_option maxHeartbeats 8000000 in
theorem check_any (seed : Int) (A : Option Addr) (m c : Nat) (X : Nat → Nat → Int) (w : World) (hm : m ≤ 1000) (hR : RG w A m X) :
    Calls Try.prog 13 #[.int .u64 seed, .slice A m c] w
      fun e w' => e = .returned (.int .i64 (chk X seed m)) ∧ Below w.heap.size w w' := by
  have HR := Lib.hid hR
  clear hR
  refine (callsIn_wide (n := 9)).1 ?_
  refine callsIn_of_wp_marks Try.func13 rfl trivial ?_ rfl
  simp only [Try.ntmps13, List.size_toArray, List.length_cons, List.length_nil, Nat.reduceAdd, Nat.reduceSub, Array.replicate_succ, Array.replicate_zero, List.push_toArray, List.append_toArray, List.nil_append, List.cons_append]
  gi_wp2_with (refine ⟨trivial, ?_⟩; gi_at_call 35; refine (callsIn_wide.2 (inOrder_any A m c _)).mono ?_; rintro e w2 ⟨rfl, rfl⟩)
  have hI0 : KI X seed w [] ((((w.alloc (.cells #[.int .i64 0] 3)).alloc (.cells #[.int .i64 0] 3)).alloc (.cells #[.int .u64 seed] 24)).alloc (.cells #[.slice A m c] 29)) := by
    refine ⟨⟨(((Boxed.new w 3 (.int .i64 0)).alloc _).alloc _).alloc _, ?_, ?_⟩, fun j x h => by simp at h, bel_alloc (bel_alloc (bel_alloc (bel_alloc (Below.refl _ _) _) _) _) _, by simp⟩
    · have := ((Boxed.new (w.alloc (.cells #[.int .i64 0] 3)) 3 (.int .i64 0)).alloc (.cells #[.int .u64 seed] 24)).alloc (.cells #[.slice A m c] 29)
      rwa [World.size_alloc] at this
    · have := (Boxed.new ((w.alloc (.cells #[.int .i64 0] 3)).alloc (.cells #[.int .i64 0] 3)) 24 (.int .u64 seed)).alloc (.cells #[.slice A m c] 29)
      rwa [World.size_alloc, World.size_alloc] at this
  have hb1 : Boxed ((((w.alloc (.cells #[.int .i64 0] 3)).alloc (.cells #[.int .i64 0] 3)).alloc (.cells #[.int .u64 seed] 24)).alloc (.cells #[.slice A m c] 29)) (w.heap.size + 1 + 1 + 1) 29 (.slice A m c) := by
    have := Boxed.new (((w.alloc (.cells #[.int .i64 0] 3)).alloc (.cells #[.int .i64 0] 3)).alloc (.cells #[.int .u64 seed] 24)) 29 (.slice A m c)
    rwa [World.size_alloc, World.size_alloc, World.size_alloc] at this
  obtain ⟨W0, hW0⟩ : ∃ W0, ((((w.alloc (.cells #[.int .i64 0] 3)).alloc (.cells #[.int .i64 0] 3)).alloc (.cells #[.int .u64 seed] 24)).alloc (.cells #[.slice A m c] 29)) = W0 := ⟨_, rfl⟩
  rw [hW0] at hI0 hb1 ⊢
  clear hW0
  have hsz := hI0.2.2.2
  have hRb : Rb w.heap.size (w.heap.size + 1 + 1 + 1) A m c X W0 := ⟨hb1.cell, fun i hi => by
    obtain ⟨b, o, e, hl, c0, c1, c2, c3, c4⟩ := HR.out i hi
    have hc : ∀ j, W0.cell? ⟨b, j, none⟩ = w.cell? ⟨b, j, none⟩ := fun j => hI0.2.2.1.cell (p := ⟨b, j, none⟩) hl
    exact ⟨b, o, e, hl, (hc _).trans c0, (hc _).trans c1, (hc _).trans c2, (hc _).trans c3, (hc _).trans c4⟩⟩
  refine wpIn_rangeA rfl (by omega) (gf := 96) (lb := #[.pointer (some ⟨w.heap.size + 1 + 1 + 1, 0, none⟩)]) rfl trivial (enters_of Try.func96 (by kernel_rfl) rfl)
    (inOrder_seq 8 (by omega) w.heap.size (w.heap.size + 1 + 1 + 1) A m c X hm W0 (by omega) (by omega) hRb)
    Kb.trans (fun W l o o' hl hW h1 h2 => ⟨belowK_b (w := W0) (by omega) W l o o' hl hW h1 h2, World.putObj_heap_other (by omega)⟩) (Below.refl _ _) (fun _ => rfl)
    (KI X seed w) (KA X seed w A m c) (KX X seed w) (KI.own X seed w _ (by omega)) (fun x a2 => KA.own X seed w A m c x a2 _ (by omega)) (fun c => KX.own X seed w c _ (by omega)) hI0 ?assign ?body ?done ?stop
  case assign =>
    intro l pre x W hI hlen
    unfold enc
    gi_wp2
    obtain ⟨⟨x0, x1, x2⟩, hg, hbel, hsz2⟩ := hI
    exact ⟨KeepsOthers.alloc _ _, ⟨(Below.refl _ _).alloc hbel.size _, Below.heap_alloc _ _ _ (by omega)⟩, W.heap.size, rfl, World.alloc_heap_new W _, ⟨⟨x0.alloc _, x1.alloc _, x2.alloc _⟩, hg, bel_alloc hbel _, by simp; omega⟩, hsz2⟩
  case body =>
    rintro l pre x a2 W ⟨B8, rfl, h8, ⟨⟨x0, x1, x2⟩, hg, hbel, hsz2⟩, hB8⟩ hlen
    have hle := fi_le (okB X) m
    have c0 := x0.cell
    have c1 := x1.cell
    have c2 := x2.cell
    have e0 : W.cell? ⟨B8, 0, none⟩ = some (.int .i64 (X x 0)) := by simp [World.cell?, h8]
    have e1 : W.cell? ⟨B8, 1, none⟩ = some (.int .i64 (X x 1)) := by simp [World.cell?, h8]
    have e2 : W.cell? ⟨B8, 2, none⟩ = some (.int .i64 (X x 2)) := by simp [World.cell?, h8]
    have e3 : W.cell? ⟨B8, 3, none⟩ = some (.int .i64 (X x 3)) := by simp [World.cell?, h8]
    have e4 : W.cell? ⟨B8, 4, none⟩ = some (.int .u64 (X x 4)) := by simp [World.cell?, h8]
    have hl : (pre ++ [x]).length = pre.length + 1 := by simp
    have HL := Lib.hid hl
    have HG := Lib.hid hg
    have hb0 : ((pre.length : Nat) : Int) ≤ 1000 := by omega
    obtain ⟨L, hL⟩ : ∃ L, lkf (stL X seed pre) (X x 0) (X x 1) (X x 2) (X x 3) = L := ⟨_, rfl⟩
    have hlk := fun W => link_any (stL X seed pre) (X x 0) (X x 1) (X x 2) (X x 3) (X x 4) W
    rw [hL] at hlk
    have HX0 := Lib.hid x0
    have HX1 := Lib.hid x1
    have HX2 := Lib.hid x2
    have HX3 : Hid (w.heap.size + 1 + 1 + 1 < W.heap.size) := Lib.hid (by omega)
    have HBEL := Lib.hid hbel
    have hws := hbel.size
    clear hl hlen h8 x0 x1 x2 hg hbel hle
    by_cases hq : X x 4 = L
    · have HQ : Hid (X x 4 = lkOf X (stL X seed pre) x) := Lib.hid (hq.trans hL.symm)
      rw [← hq] at hlk
      have HLK := Lib.hid hlk
      clear hlk hq hL
      gi_wp2
      gi_region_with (refine ⟨trivial, ?_⟩; gi_at_call 38; refine (CallsIn.inRound l (callsIn_wide.2 (HLK.out _))).mono ?_; rintro e w3 ⟨rfl, h3⟩; have k4 := old_at (w := W.drew) e4 h3; have k1 := old_at (w := W.drew) c1 h3; have k2 := old_at (w := W.drew) c2 h3)
      all_goals
        have H3 : Hid (Below W.heap.size W w3) := Lib.hid ⟨h3.os, h3.tape, h3.output, h3.size, h3.block⟩
        have f1 : w3.frozen? ⟨w.heap.size + 1, 0, none⟩ = false := Boxed.frozen ((H3.out.block _ HX1.out.lt).trans HX1.out)
        have f2 : w3.frozen? ⟨w.heap.size + 1 + 1, 0, none⟩ = false := Boxed.frozen ((H3.out.block _ HX2.out.lt).trans HX2.out)
        clear h3
        gi_wp2
        have z0 : Boxed w3 w.heap.size 3 (.int .i64 0) := (H3.out.block _ HX0.out.lt).trans HX0.out
        have z1 : Boxed w3 (w.heap.size + 1) 3 (.int .i64 (pre.length : Int)) := (H3.out.block _ HX1.out.lt).trans HX1.out
        have z2 : Boxed w3 (w.heap.size + 1 + 1) 24 (.int .u64 (stL X seed pre)) := (H3.out.block _ HX2.out.lt).trans HX2.out
        refine ⟨?_, ⟨?_, ?_⟩, ⟨⟨?_, ?_, ?_⟩, goodL_snoc HG.out HQ.out, ?_, ?_⟩⟩
        · exact (KeepsOthers.trans ⟨H3.out.size, fun k o hk _ => (H3.out.block k (Array.getElem?_eq_some_iff.1 hk).1).trans hk⟩ (KeepsOthers.setCell _ _ _)).trans (KeepsOthers.setCell _ _ _)
        · exact ((H3.out.mono hws).setCell (p := ⟨w.heap.size + 1 + 1, 0, none⟩) (by simp; omega) _).setCell (p := ⟨w.heap.size + 1, 0, none⟩) (by simp) _
        · rw [Below.heap_setCell _ ⟨w.heap.size + 1, 0, none⟩ _ _ (by simp; omega), Below.heap_setCell _ ⟨w.heap.size + 1 + 1, 0, none⟩ _ _ (by simp), H3.out.block _ HX3.out]
        · exact (z0.other (by omega) _).other (by omega) _
        · rw [HL.out]
          exact (z1.other (by omega) _).set _
        · rw [stL_snoc]
          exact (z2.set _).other (by omega) _
        · exact ((HBEL.out.trans (H3.out.mono hws)).setCell (p := ⟨w.heap.size + 1 + 1, 0, none⟩) (by simp; omega) _).setCell (p := ⟨w.heap.size + 1, 0, none⟩) (by simp) _
        · have := H3.out.size
          simp
          omega
    · have HQ : Hid (¬ X x 4 = lkOf X (stL X seed pre) x) := Lib.hid (fun h => hq (h.trans hL))
      have hne : (X x 4 != L) = true := by simpa using hq
      have HLK := Lib.hid hlk
      clear hlk hq hL
      gi_wp2
      gi_region_with (refine ⟨trivial, ?_⟩; gi_at_call 38; refine (CallsIn.inRound l (callsIn_wide.2 (HLK.out _))).mono ?_; rintro e w3 ⟨rfl, h3⟩; have k4 := old_at (w := W.drew) e4 h3; have k1 := old_at (w := W.drew) c1 h3; have k0 := old_at (w := W.drew) c0 h3)
      all_goals
        have H3 : Hid (Below W.heap.size W w3) := Lib.hid ⟨h3.os, h3.tape, h3.output, h3.size, h3.block⟩
        have f0 : w3.frozen? ⟨w.heap.size, 0, none⟩ = false := Boxed.frozen ((H3.out.block _ HX0.out.lt).trans HX0.out)
        clear h3
        gi_wp2
        have z0 : Boxed w3 w.heap.size 3 (.int .i64 0) := (H3.out.block _ HX0.out.lt).trans HX0.out
        refine ⟨?_, pre, x, rfl, rfl, HG.out, HQ.out, z0.set _, ?_⟩
        · exact KeepsOthers.trans ⟨H3.out.size, fun k o hk _ => (H3.out.block k (Array.getElem?_eq_some_iff.1 hk).1).trans hk⟩ (KeepsOthers.setCell _ _ _)
        · exact (HBEL.out.trans (H3.out.mono hws)).setCell (p := ⟨w.heap.size, 0, none⟩) (by simp) _
  case done =>
    rintro D ys W hD rfl ⟨⟨x0, x1, x2⟩, hg, hbel, hsz2⟩ hK
    have hch := chk_done hg
    have hle := fi_le (okB X) m
    rw [List.length_range] at x1
    have c1 := x1.cell
    have f0 := x0.frozen
    have c0 := x0.cell
    obtain ⟨g, hgg⟩ : ∃ g, fi (okB X) m = g := ⟨_, rfl⟩
    rw [hgg] at c1 hch hle
    have HCH := Lib.hid hch
    have HX0 := Lib.hid x0
    have HBEL := Lib.hid hbel
    have HK := Lib.hid hK
    clear hch x0 x1 x2 hg hbel hK hgg
    by_cases hlt : g < m
    · have hres : chk X seed m = (g : Int) := by unfold chk; rw [HCH.out, if_pos hlt]
      have HRS := Lib.hid hres
      clear hres
      gi_wp2
      have hK' := (KeepsOthers.setCell W ⟨w.heap.size, 0, none⟩ (.int .i64 (g : Int))).same D _ HK.out rfl
      refine ⟨by simp, .inl ⟨_, _, rfl, run_takeDeferred hK', ?_⟩⟩
      have e1 := cell_kept (HX0.out.set (.int .i64 (g : Int))).cell (grownBy_putObj' _ D (.deferred none)) (fun r e => by cases e; exact ⟨_, hK', rfl⟩)
      refine ⟨.int .i64 (g : Int), by simp [results, Try.f13, go_sem, e1], by rw [HRS.out], ?_⟩
      exact (HBEL.out.setCell (p := ⟨w.heap.size, 0, none⟩) (by simp) _).trans (belowK_b (w := w) (Nat.le_refl _) _ D _ _ (by omega) hK' rfl rfl)
    · have hres : chk X seed m = -1 := by unfold chk; rw [HCH.out, if_neg hlt]
      have HRS := Lib.hid hres
      clear hres
      gi_wp2
      have hK' := (KeepsOthers.setCell W ⟨w.heap.size, 0, none⟩ (.int .i64 (-1))).same D _ HK.out rfl
      refine ⟨by simp, .inl ⟨_, _, rfl, run_takeDeferred hK', ?_⟩⟩
      have e1 := cell_kept (HX0.out.set (.int .i64 (-1))).cell (grownBy_putObj' _ D (.deferred none)) (fun r e => by cases e; exact ⟨_, hK', rfl⟩)
      refine ⟨.int .i64 (-1), by simp [results, Try.f13, go_sem, e1], by rw [HRS.out], ?_⟩
      exact (HBEL.out.setCell (p := ⟨w.heap.size, 0, none⟩) (by simp) _).trans (belowK_b (w := w) (Nat.le_refl _) _ D _ _ (by omega) hK' rfl rfl)
  case stop =>
    rintro D c pre W hD ⟨k, hk, he⟩ ⟨pre', x, hx1, rfl, hg, hne, hbx, hbel⟩ hK
    rw [he] at hx1
    obtain ⟨h1, h2⟩ := chk_stop hk hx1 hg hne
    have hle := fi_le (okB X) m
    have hres : chk X seed m = (k : Int) := by unfold chk; rw [h1, if_pos (by omega)]
    rw [h2] at hbx
    gi_wp2
    refine ⟨by simp, .inl ⟨_, _, rfl, run_takeDeferred hK, ?_⟩⟩
    have e1 := cell_kept hbx.cell (grownBy_putObj' _ D (.deferred none)) (fun r e => by cases e; exact ⟨_, hK, rfl⟩)
    refine ⟨.int .i64 (k : Int), by simp [results, Try.f13, go_sem, e1], by rw [hres], ?_⟩
    exact hbel.trans (belowK_b (w := w) (Nat.le_refl _) _ D _ _ (by omega) hK rfl rfl)
end Go.Proofs.Ytkhmlbkkdflnoaa.Ch
