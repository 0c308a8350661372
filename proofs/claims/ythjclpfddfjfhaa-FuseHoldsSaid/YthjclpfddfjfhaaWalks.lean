/-
  THE WALKS over package fuse: all but the loop over the iterator.
-/
import Derived.Test.YthjclpfddfjfhaaRows
import Derived.WalkKit
import Derived.WalkSpells
import Derived.WalkLawsBesides
import Derived.BigGuardPart
import Derived.StillTailTactics
import Derived.Deep.QuietTactic
import Derived.BigQuiet
import Derived.IntWalk
import Derived.Lib.Hide
import Derived.Outline
import Derived.Deep.RegionHeld3
import Derived.Deep.RegionLaw
import Derived.Deep.DrawnRows
namespace Go.Proofs.Ythjclpfddfjfhaa
open Go.RowKit
set_option linter.unusedVariables false
attribute [local go_sem ↓] Go.wp_at_zero Go.wp_at_succ

theorem ret_bool {a b : Bool} (h : a = b) : Ending.returned (.bool a) = .returned (.bool b) := by rw [h]
theorem ret_int {k : IntKind} {a b : Int} (h : a = b) : Ending.returned (.int k a) = .returned (.int k b) := by rw [h]
theorem ret_two {k l : IntKind} {a b c d : Int} (h : a = b) (g : c = d) : Ending.returned (.tuple #[.int k a, .int l c]) = .returned (.tuple #[.int k b, .int l d]) := by rw [h, g]
theorem bel_alloc {a w : World} (h : Below a.heap.size a w) (o : Obj) : Below a.heap.size a (w.alloc o) := h.alloc h.size o
theorem bel_step {w0 w w' : World} (h : Below w0.heap.size w0 w) (hb : Below w.heap.size w w') : Below w0.heap.size w0 w' := h.trans (hb.mono h.size)

/-- is n from l to g -/
def inB (n l g : Int) : Bool := decide (l ≤ n ∧ n ≤ g)
theorem inB_iff {n l g : Int} : inB n l g = true ↔ l ≤ n ∧ n ≤ g := by simp [inB]

set_option maxHeartbeats 400000 in
theorem inside_any (n l g : Int) (w : World) (hlg : l ≤ g) :
    Calls Try.prog 21 #[.int .i64 n, .int .i64 l, .int .i64 g] w fun e w' => e = .returned (.bool (inB n l g)) ∧ w = w' := by
  by_cases h1 : n < l
  · have hr : Hid (false = inB n l g) := by show _ = _; simp [inB]; omega
    have e1 : (l == n) = false := by simp; omega
    by_cases h2 : n < g
    · go_enter Try.func21, Try.ntmps21
      go_wp2
      go_ret
      exact ⟨ret_bool hr.out, rfl⟩
    · exfalso; omega
  · by_cases h2 : n ≤ g
    · have hr : Hid (true = inB n l g) := by show _ = _; simp [inB]; omega
      by_cases h3 : l < n
      · by_cases h4 : n < g
        · go_enter Try.func21, Try.ntmps21
          go_wp2
          go_ret
          exact ⟨ret_bool hr.out, rfl⟩
        · obtain rfl : n = g := by omega
          go_enter Try.func21, Try.ntmps21
          go_wp2
          go_ret
          exact ⟨ret_bool hr.out, rfl⟩
      · obtain rfl : n = l := by omega
        by_cases h4 : n < g
        · go_enter Try.func21, Try.ntmps21
          go_wp2
          go_ret
          exact ⟨ret_bool hr.out, rfl⟩
        · obtain rfl : n = g := by omega
          go_enter Try.func21, Try.ntmps21
          go_wp2
          go_ret
          exact ⟨ret_bool hr.out, rfl⟩
    · have hr : Hid (false = inB n l g) := by show _ = _; simp [inB]; omega
      have e1 : (g == n) = false := by simp; omega
      by_cases h5 : l < g
      · go_enter Try.func21, Try.ntmps21
        go_wp2
        go_ret
        exact ⟨ret_bool hr.out, rfl⟩
      · obtain rfl : l = g := by omega
        go_enter Try.func21, Try.ntmps21
        go_wp2
        go_ret
        exact ⟨ret_bool hr.out, rfl⟩

theorem isCur (n : Int) (w : World) : Calls Try.prog 22 #[.int .i64 n] w fun e w' => e = .returned (.bool (inB n 0 1000)) ∧ w = w' := by
  go_enter Try.func22, Try.ntmps22
  go_wp2_with (go_at_call 21; refine (inside_any _ _ _ _ (by omega)).mono ?_; rintro e w1 ⟨rfl, rfl⟩)
  go_ret
  exact ⟨rfl, rfl⟩

/-- a fuse is valid -/
def vF (r h : Int) : Bool := decide (r = 0 ∧ h = 0) || (inB r 1 1000 && inB h 0 1000000000)
theorem vF_iff {r h : Int} : vF r h = true ↔ (r = 0 ∧ h = 0) ∨ ((1 ≤ r ∧ r ≤ 1000) ∧ (0 ≤ h ∧ h ≤ 1000000000)) := by simp [vF, inB]

set_option maxHeartbeats 400000 in
theorem valid_any (r h : Int) (w : World) :
    Calls Try.prog 20 #[.agg #[.int .i64 r, .int .i64 h]] w fun e w' => e = .returned (.bool (vF r h)) ∧ Below w.heap.size w w' := by
  by_cases hz : r = 0 ∧ h = 0
  · obtain ⟨rfl, rfl⟩ := hz
    go_enter Try.func20, Try.ntmps20
    go_wp2
    go_ret
    exact ⟨rfl, bel_alloc (Below.refl _ _) _⟩
  · have e1 : (r == 0 && h == 0) = false := by simp; omega
    cases hr : inB r 1 1000
    · have hv : Hid (false = vF r h) := by show _ = _; simp [vF, hr]; omega
      go_enter Try.func20, Try.ntmps20
      go_wp2_with (go_at_call 21; refine (inside_any _ _ _ _ (by omega)).mono ?_; rintro e w1 ⟨rfl, rfl⟩)
      all_goals go_ret
      all_goals exact ⟨ret_bool hv.out, bel_alloc (Below.refl _ _) _⟩
    · have hr0 := inB_iff.1 hr
      have e2 : (r == 0) = false := by simp; omega
      have hv : Hid (inB h 0 1000000000 = vF r h) := by show _ = _; have e3 : ¬ r = 0 := (by omega); simp [vF, hr, e3]
      go_enter Try.func20, Try.ntmps20
      go_wp2_with (go_at_call 21; refine (inside_any _ _ _ _ (by omega)).mono ?_; rintro e w1 ⟨rfl, rfl⟩)
      all_goals go_ret
      all_goals exact ⟨ret_bool hv.out, bel_alloc (Below.refl _ _) _⟩

/-- block b of w is just this warm fuse -/
def WB (w : World) (b : Nat) (r h n : Int) : Prop := w.heap[b]? = some (.cells #[.int .i64 r, .int .i64 h, .int .i64 n] 45)
theorem WB.lt {w : World} {b : Nat} {r h n : Int} (x : WB w b r h n) : b < w.heap.size := by
  rcases Nat.lt_or_ge b w.heap.size with hlt | hge
  · exact hlt
  · unfold WB at x; rw [Array.getElem?_eq_none hge] at x; cases x
theorem WB.new (w : World) (r h n : Int) : WB (w.alloc (.cells #[.int .i64 r, .int .i64 h, .int .i64 n] 45)) w.heap.size r h n := heap_alloc_new w _
theorem WB.alloc {w : World} {b : Nat} {r h n : Int} (x : WB w b r h n) (o : Obj) : WB (w.alloc o) b r h n := (Below.heap_alloc w o b x.lt).trans x
theorem WB.keep {w w' : World} {b : Nat} {r h n : Int} (x : WB w b r h n) (hb : Below w.heap.size w w') : WB w' b r h n := (hb.block b x.lt).trans x
theorem WB.drew {w : World} {b : Nat} {r h n : Int} (x : WB w b r h n) : WB w.drew b r h n := x
theorem WB.get {w : World} {b : Nat} {r h n : Int} (x : WB w b r h n) : w.cell? ⟨b, 0, none⟩ = some (.int .i64 r) ∧ w.cell? ⟨b, 1, none⟩ = some (.int .i64 h) ∧ w.cell? ⟨b, 2, none⟩ = some (.int .i64 n) ∧ w.frozen? ⟨b, 2, none⟩ = false := by
  unfold WB at x
  simp [World.cell?, World.frozen?, x]
theorem WB.set {w : World} {b : Nat} {r h n : Int} (x : WB w b r h n) (m : Int) : WB (w.setCell ⟨b, 2, none⟩ (.int .i64 m)) b r h m := by
  unfold WB at *
  simp [World.setCell, Array.getElem?_modify, x]

theorem none_any (r h n : Int) (b : Nat) (w : World) (x : WB w b r h n) :
    Calls Try.prog 28 #[.pointer (some ⟨b, 0, none⟩)] w fun e w' => e = .returned (.bool (r == 0)) ∧ w = w' := by
  obtain ⟨c0, c1, c2, _⟩ := x.get
  go_enter Try.func28, Try.ntmps28
  go_wp2
  go_ret
  exact ⟨rfl, rfl⟩

theorem sq_bd {a : Int} (h : 0 ≤ a ∧ a ≤ 1000) : 0 ≤ a * a ∧ a * a ≤ 1000000 := ⟨Int.mul_nonneg h.1 h.1, Int.mul_le_mul h.2 h.2 h.1 (by omega)⟩

set_option maxHeartbeats 400000 in
theorem gain_any (r h n a : Int) (b : Nat) (w : World) (x : WB w b r h n) (ha : 0 ≤ a ∧ a ≤ 1000) (hr : 0 ≤ r ∧ r ≤ 1000) :
    Calls Try.prog 29 #[.pointer (some ⟨b, 0, none⟩), .int .i64 a] w fun e w' => e = .returned (.int .i64 (a * a - r * r)) ∧ w' = w.drew := by
  obtain ⟨c0, c1, c2, _⟩ := x.get
  have ha2 := sq_bd ha
  have hr2 := sq_bd hr
  go_enter Try.func29, Try.ntmps29
  go_wp2
  have u1 : IntKind.i64.wrap (a * a) = a * a := IntWalk.i64_in _ (by omega)
  have u2 : IntKind.i64.wrap (r * r) = r * r := IntWalk.i64_in _ (by omega)
  have u3 : IntKind.i64.wrap (a * a - r * r) = a * a - r * r := IntWalk.i64_in _ (by omega)
  go_still (by kernel_rfl)
  go_wp2
  go_ret
  exact ⟨rfl, rfl⟩

set_option maxHeartbeats 400000 in
theorem melted_any (r h n : Int) (b : Nat) (w : World) (x : WB w b r h n) :
    Calls Try.prog 27 #[.pointer (some ⟨b, 0, none⟩)] w fun e w' => e = .returned (.bool (decide (h < n))) ∧ w' = w.drew := by
  obtain ⟨c0, c1, c2, _⟩ := x.get
  go_enter Try.func27, Try.ntmps27
  go_wp2
  go_still (by kernel_rfl)
  go_wp2
  go_ret
  exact ⟨rfl, rfl⟩

/-- the heat after a tick -/
def nH (r n a : Int) : Int := if r = 0 then n else max 0 (n + (a * a - r * r))

theorem tick_none (h n a : Int) (b : Nat) (w : World) (x : WB w b 0 h n) :
    Calls Try.prog 23 #[.pointer (some ⟨b, 0, none⟩), .int .i64 a] w fun e w' => e = .returned (.tuple #[]) ∧ w = w' := by
  go_enter Try.func23, Try.ntmps23
  go_wp2_with (go_at_call 28; refine (none_any 0 h n b _ x).mono ?_; rintro e w1 ⟨rfl, rfl⟩)
  go_end0
  exact ⟨rfl, rfl⟩

set_option maxHeartbeats 1000000 in
theorem tick_some (r h n a : Int) (b : Nat) (w : World) (x : WB w b r h n) (ha : 0 ≤ a ∧ a ≤ 1000) (hr : 1 ≤ r ∧ r ≤ 1000) (hn : 0 ≤ n ∧ n ≤ 100000000000) :
    Calls Try.prog 23 #[.pointer (some ⟨b, 0, none⟩), .int .i64 a] w fun e w' => e = .returned (.tuple #[]) ∧ ∃ k, w' = (w.setCell ⟨b, 2, none⟩ (.int .i64 (nH r n a))).drewN k := by
  obtain ⟨c0, c1, c2, f2⟩ := x.get
  have ha2 := sq_bd ha
  have hr2 := sq_bd (a := r) (by omega)
  have e0 : (r == 0) = false := by simp; omega
  go_enter Try.func23, Try.ntmps23
  go_wp2_with (go_at_call 28; refine (none_any r h n b _ x).mono ?_; rintro e w1 ⟨rfl, rfl⟩)
  have u1 : IntKind.i64.wrap (n + (a * a - r * r)) = n + (a * a - r * r) := IntWalk.i64_in _ (by omega)
  by_cases hm : 0 < n + (a * a - r * r)
  · have hH : Hid (n + (a * a - r * r) = nH r n a) := by show _ = _; unfold nH; rw [if_neg (by omega)]; omega
    go_region_law (first | (go_simp; go_at_call 29; refine (gain_any r h n a b _ (by repeat (first | exact x | apply WB.drew)) ha (by omega)).mono ?_; rintro e w' ⟨rfl, rfl⟩))
    all_goals (go_wp2; go_end0; exact ⟨rfl, 2, by rw [← hH.out]; rfl⟩)
  · have hH : Hid (0 = nH r n a) := by show _ = _; unfold nH; rw [if_neg (by omega)]; omega
    have hm2 : n + (a * a - r * r) ≤ 0 := by omega
    go_region_law (first | (go_simp; go_at_call 29; refine (gain_any r h n a b _ (by repeat (first | exact x | apply WB.drew)) ha (by omega)).mono ?_; rintro e w' ⟨rfl, rfl⟩))
    all_goals (go_wp2; go_end0; exact ⟨rfl, 2, by rw [← hH.out]; rfl⟩)

theorem grown_set (w : World) (b i : Nat) (v : Value) (k : Nat) : w.grownBy ((w.setCell ⟨b, i, none⟩ v).drewN k) (some b) :=
  ⟨rfl, rfl, rfl, by simp [World.drewN, World.setCell], fun j hj hne => Below.heap_setCell w ⟨b, i, none⟩ v j (fun e => hne (by rw [e]))⟩
theorem WB.drewN {w : World} {b : Nat} {r h n : Int} (x : WB w b r h n) (k : Nat) : WB (w.drewN k) b r h n := x

/-- a tick, whatever the valid fuse -/
theorem tick_any (r h n a : Int) (b : Nat) (w : World) (x : WB w b r h n) (ha : 0 ≤ a ∧ a ≤ 1000) (hr : 0 ≤ r ∧ r ≤ 1000) (hn : 0 ≤ n ∧ n ≤ 100000000000) :
    Calls Try.prog 23 #[.pointer (some ⟨b, 0, none⟩), .int .i64 a] w fun e w' => e = .returned (.tuple #[]) ∧ WB w' b r h (nH r n a) ∧ w.grownBy w' (some b) := by
  by_cases h0 : r = 0
  · subst h0
    refine (tick_none h n a b w x).mono fun e w' ⟨he, hw⟩ => ⟨he, ?_, ?_⟩
    · subst hw; simpa [nH] using x
    · subst hw; exact World.grownBy.refl w _
  · refine (tick_some r h n a b w x ha (by omega) hn).mono fun e w' ⟨he, k, hw⟩ => ⟨he, ?_, ?_⟩
    · subst hw; exact (x.set _).drewN k
    · subst hw; exact grown_set w b 2 _ k
theorem bel_grown {w W w' : World} {b : Nat} (h : Below w.heap.size w W) (hg : W.grownBy w' (some b)) (hb : w.heap.size ≤ b) : Below w.heap.size w w' :=
  h.grown hg h.size (fun k e => by cases e; exact hb)

/-- a block of two numbers (a fuse) -/
def FB (w : World) (b : Nat) (r h : Int) : Prop := w.heap[b]? = some (.cells #[.int .i64 r, .int .i64 h] 23)
theorem FB.lt {w : World} {b : Nat} {r h : Int} (x : FB w b r h) : b < w.heap.size := by
  rcases Nat.lt_or_ge b w.heap.size with hlt | hge
  · exact hlt
  · unfold FB at x; rw [Array.getElem?_eq_none hge] at x; cases x
theorem FB.new (w : World) (r h : Int) : FB (w.alloc (.cells #[.int .i64 r, .int .i64 h] 23)) w.heap.size r h := heap_alloc_new w _
theorem FB.alloc {w : World} {b : Nat} {r h : Int} (x : FB w b r h) (o : Obj) : FB (w.alloc o) b r h := (Below.heap_alloc w o b x.lt).trans x
theorem FB.keep {w w' : World} {b : Nat} {r h : Int} (x : FB w b r h) (hb : Below w.heap.size w w') : FB w' b r h := (hb.block b x.lt).trans x
theorem FB.drew {w : World} {b : Nat} {r h : Int} (x : FB w b r h) : FB w.drew b r h := x
theorem FB.get {w : World} {b : Nat} {r h : Int} (x : FB w b r h) : w.cell? ⟨b, 0, none⟩ = some (.int .i64 r) ∧ w.cell? ⟨b, 1, none⟩ = some (.int .i64 h) ∧ b < w.heap.size ∧ b < w.heap.size + 1 := by
  have hl := x.lt
  unfold FB at x
  exact ⟨by simp [World.cell?, x], by simp [World.cell?, x], hl, Nat.lt_succ_of_lt hl⟩

/-- what Next returns -/
def nE (r h t a : Int) : Int := if (vF r h && (inB t 0 h && inB a 0 1000)) = true then 0 else 1
def nV (r h t a : Int) : Int := if nE r h t a = 0 then nH r t a else 0

set_option maxHeartbeats 1000000 in
theorem next_v (r h t a : Int) (w : World) (hv : vF r h = false) :
    Calls Try.prog 11 #[.agg #[.int .i64 r, .int .i64 h], .int .i64 t, .int .i64 a] w fun e w' => e = .returned (.tuple #[.int .i64 0, .int .i64 1]) ∧ Below w.heap.size w w' := by
  go_enter Try.func11, Try.ntmps11
  go_wp2_with fail
  refine (valid_any r h _).mono ?_
  rintro e w1 ⟨rfl, hb⟩
  have h1 := bel_step (bel_alloc (Below.refl w.heap.size w) _) hb
  rw [hv]
  go_wp2
  go_ret2
  exact ⟨rfl, h1⟩
set_option maxHeartbeats 1000000 in
theorem next_t (r h t a : Int) (w : World) (hv : vF r h = true) (ht : inB t 0 h = false) :
    Calls Try.prog 11 #[.agg #[.int .i64 r, .int .i64 h], .int .i64 t, .int .i64 a] w fun e w' => e = .returned (.tuple #[.int .i64 0, .int .i64 1]) ∧ Below w.heap.size w w' := by
  have hvb := vF_iff.1 hv
  go_enter Try.func11, Try.ntmps11
  go_wp2_with fail
  refine (valid_any r h _).mono ?_
  rintro e w1 ⟨rfl, hb⟩
  have h1 := bel_step (bel_alloc (Below.refl w.heap.size w) _) hb
  have mf := (FB.new w r h).keep hb
  obtain ⟨c0, c1, c2, c3⟩ := mf.get
  clear hb
  rw [hv]
  go_wp2_with (go_at_call 21; refine (inside_any _ _ _ _ (by omega)).mono ?_; rintro e w2 ⟨rfl, rfl⟩)
  go_ret2
  exact ⟨rfl, h1⟩
set_option maxHeartbeats 1000000 in
theorem next_a (r h t a : Int) (w : World) (hv : vF r h = true) (ht : inB t 0 h = true) (ha : inB a 0 1000 = false) :
    Calls Try.prog 11 #[.agg #[.int .i64 r, .int .i64 h], .int .i64 t, .int .i64 a] w fun e w' => e = .returned (.tuple #[.int .i64 0, .int .i64 1]) ∧ Below w.heap.size w w' := by
  have hvb := vF_iff.1 hv
  go_enter Try.func11, Try.ntmps11
  go_wp2_with fail
  refine (valid_any r h _).mono ?_
  rintro e w1 ⟨rfl, hb⟩
  have h1 := bel_step (bel_alloc (Below.refl w.heap.size w) _) hb
  have mf := (FB.new w r h).keep hb
  obtain ⟨c0, c1, c2, c3⟩ := mf.get
  clear hb
  rw [hv]
  go_wp2_with (first
    | (go_at_call 21; refine (inside_any _ _ _ _ (by omega)).mono ?_; rintro e w2 ⟨rfl, rfl⟩)
    | (go_at_call 22; refine (isCur _ _).mono ?_; rintro e w2 ⟨rfl, rfl⟩))
  go_ret2
  exact ⟨rfl, h1⟩
set_option maxHeartbeats 1000000 in
theorem next_y (r h t a : Int) (w : World) (hv : vF r h = true) (ht : inB t 0 h = true) (ha : inB a 0 1000 = true) :
    Calls Try.prog 11 #[.agg #[.int .i64 r, .int .i64 h], .int .i64 t, .int .i64 a] w fun e w' => e = .returned (.tuple #[.int .i64 (nH r t a), .int .i64 0]) ∧ Below w.heap.size w w' := by
  have hvb := vF_iff.1 hv
  have htb := inB_iff.1 ht
  have hab := inB_iff.1 ha
  go_enter Try.func11, Try.ntmps11
  go_wp2_with fail
  refine (valid_any r h _).mono ?_
  rintro e w1 ⟨rfl, hb⟩
  have h1 := bel_step (bel_alloc (Below.refl w.heap.size w) _) hb
  have mf := (FB.new w r h).keep hb
  obtain ⟨c0, c1, c2, c3⟩ := mf.get
  clear hb
  rw [hv]
  go_wp2_with (first
    | (go_at_call 21; refine (inside_any _ _ _ _ (by omega)).mono ?_; rintro e w2 ⟨rfl, rfl⟩)
    | (go_at_call 22; refine (isCur _ _).mono ?_; rintro e w2 ⟨rfl, rfl⟩)
    | (go_at_call 23; refine (tick_any r h t a w1.heap.size _ (WB.new w1 r h t) hab (by omega) (by omega)).mono ?_; rintro e w2 ⟨rfl, x2, hg2⟩; have h2 := bel_grown (bel_alloc h1 _) hg2 h1.size; obtain ⟨d0, d1, d2, _⟩ := x2.get; clear hg2))
  go_ret2
  exact ⟨rfl, h2⟩
theorem next_any (r h t a : Int) (w : World) :
    Calls Try.prog 11 #[.agg #[.int .i64 r, .int .i64 h], .int .i64 t, .int .i64 a] w fun e w' => e = .returned (.tuple #[.int .i64 (nV r h t a), .int .i64 (nE r h t a)]) ∧ Below w.heap.size w w' := by
  cases hv : vF r h
  · exact (next_v r h t a w hv).mono fun e w' x => ⟨x.1.trans (ret_two (by simp [nV, nE, hv]) (by simp [nE, hv])), x.2⟩
  · cases ht : inB t 0 h
    · exact (next_t r h t a w hv ht).mono fun e w' x => ⟨x.1.trans (ret_two (by simp [nV, nE, ht]) (by simp [nE, ht])), x.2⟩
    · cases ha : inB a 0 1000
      · exact (next_a r h t a w hv ht ha).mono fun e w' x => ⟨x.1.trans (ret_two (by simp [nV, nE, ha]) (by simp [nE, ha])), x.2⟩
      · exact (next_y r h t a w hv ht ha).mono fun e w' x => ⟨x.1.trans (ret_two (by simp [nV, nE, hv, ht, ha]) (by simp [nE, hv, ht, ha])), x.2⟩

end Go.Proofs.Ythjclpfddfjfhaa
