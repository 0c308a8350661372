/-
  THE WALKS over package meter and its reference.
-/
import Derived.Test.YtkhmlbkkdflnoaaRows
import Derived.WalkKit
import Derived.WalkSpells
import Derived.WalkLawsBesides
import Derived.BigGuardPart
import Derived.Lib.Hide
import Derived.Outline
import Derived.StillTailTactics
import Derived.IntWalk
namespace Go.Proofs.Ytkhmlbkkdflnoaa.Mt
open Go.RowKit

theorem ret_bool {a b : Bool} (h : a = b) : Ending.returned (.bool a) = .returned (.bool b) := by rw [h]
theorem ret_int {k : IntKind} {a b : Int} (h : a = b) : Ending.returned (.int k a) = .returned (.int k b) := by rw [h]
theorem ret_two {k l : IntKind} {a b c d : Int} (h : a = b) (g : c = d) : Ending.returned (.tuple #[.int k a, .int l c]) = .returned (.tuple #[.int k b, .int l d]) := by rw [h, g]
theorem ret_meter {s s' r r' e e' : Int} {k k' : Bool} (h : s = s' ∧ r = r' ∧ k = k' ∧ e = e') :
    Ending.returned (.tuple #[.agg #[.int .i64 s, .int .i64 r, .bool k], .int .i64 e]) = .returned (.tuple #[.agg #[.int .i64 s', .int .i64 r', .bool k'], .int .i64 e']) := by
  obtain ⟨rfl, rfl, rfl, rfl⟩ := h; rfl
theorem cell_new {w : World} {cs : Array Value} {t : TypeId} {B i : Nat} {v : Value} (hB : w.heap.size = B) (hi : cs[i]? = some v) : (w.alloc (.cells cs t)).cell? ⟨B, i, none⟩ = some v := by
  subst hB; simp [hi]
theorem bel_alloc {a w : World} (h : Below a.heap.size a w) (o : Obj) : Below a.heap.size a (w.alloc o) := h.alloc h.size o
theorem bel_step {w0 w w' : World} (h : Below w0.heap.size w0 w) (hb : Below w.heap.size w w') : Below w0.heap.size w0 w' := h.trans (hb.mono h.size)
theorem bcell {W w1 : World} (hb : Below W.heap.size W w1) : (∀ b o, b < W.heap.size → w1.cell? ⟨b, o, none⟩ = W.cell? ⟨b, o, none⟩) ∧ (∀ b o, b < W.heap.size → w1.frozen? ⟨b, o, none⟩ = W.frozen? ⟨b, o, none⟩) :=
  ⟨fun b o h => hb.cell (p := ⟨b, o, none⟩) h, fun b o h => hb.frozen (p := ⟨b, o, none⟩) h⟩

theorem blk3 {w : World} {b : Nat} {t : TypeId} {x y z : Value} (h : w.heap[b]? = some (.cells #[x, y, z] t)) :
    w.cell? ⟨b, 0, none⟩ = some x ∧ w.cell? ⟨b, 1, none⟩ = some y ∧ w.cell? ⟨b, 2, none⟩ = some z ∧ w.frozen? ⟨b, 0, none⟩ = false ∧ w.frozen? ⟨b, 1, none⟩ = false ∧ w.frozen? ⟨b, 2, none⟩ = false := by
  simp [World.cell?, World.frozen?, h]
/-- two boxes laid, then a call that leaves them alone -/
theorem box2 {w w1 : World} {A B : Array Value} {t u : TypeId} (hb : Below ((w.alloc (.cells A t)).alloc (.cells B u)).heap.size ((w.alloc (.cells A t)).alloc (.cells B u)) w1) :
    w1.heap[w.heap.size]? = some (.cells A t) ∧ w1.heap[w.heap.size + 1]? = some (.cells B u) ∧ w.heap.size + 1 < w1.heap.size ∧ Below w.heap.size w w1 := by
  have hs := hb.size
  simp only [World.size_alloc] at hs
  refine ⟨(hb.block _ (by simp only [World.size_alloc]; omega)).trans ?_, (hb.block _ (by simp only [World.size_alloc]; omega)).trans ?_, by omega, bel_step (bel_alloc (bel_alloc (Below.refl _ _) _) _) hb⟩
  · exact (Below.heap_alloc _ _ _ (by simp)).trans (heap_alloc_new w _)
  · have := heap_alloc_new (w.alloc (.cells A t)) (.cells B u)
    simpa using this
/-- three boxes laid, then a call that leaves them alone -/
theorem box3 {w w1 : World} {A B : Obj} {C : Array Value} {t : TypeId} (hb : Below (((w.alloc A).alloc B).alloc (.cells C t)).heap.size (((w.alloc A).alloc B).alloc (.cells C t)) w1) :
    w1.heap[w.heap.size + 1 + 1]? = some (.cells C t) ∧ w.heap.size + 1 + 1 < w1.heap.size ∧ Below w.heap.size w w1 := by
  have hs := hb.size
  simp only [World.size_alloc] at hs
  refine ⟨(hb.block _ (by simp only [World.size_alloc]; omega)).trans ?_, by omega, bel_step (bel_alloc (bel_alloc (bel_alloc (Below.refl _ _) _) _) _) hb⟩
  have := heap_alloc_new ((w.alloc A).alloc B) (.cells C t)
  simpa using this
/-- what the walk asks of blocks that were laid before a call -/
theorem lts {a b : Nat} (h : a + 1 < b) : a < b ∧ a < b + 1 ∧ a < b + 2 ∧ a < b + 3 ∧ a + 1 < b + 2 ∧ a + 1 < b + 3 := by omega

/-- is a number from 0 to a greatest one -/
def upB (m n : Int) : Bool := decide (0 ≤ n ∧ n ≤ m)
/-- is a meter valid -/
def vM (s r : Int) : Bool := decide (0 ≤ s ∧ s ≤ 1000000) && decide (-1000000000000000 ≤ r ∧ r ≤ 1000000000000000)
theorem vM_iff {s r : Int} : vM s r = true ↔ (0 ≤ s ∧ s ≤ 1000000) ∧ (-1000000000000000 ≤ r ∧ r ≤ 1000000000000000) := by simp [vM]

set_option maxHeartbeats 400000 in
theorem upTo_any (m n : Int) (b : Nat) (w : World) (hc : w.cell? ⟨b, 0, none⟩ = some (.int .i64 n)) :
    Calls Try.prog 93 #[.int .i64 m, .slice (some ⟨b, 0, none⟩) 1 1] w fun e w' => e = .returned (.bool (upB m n)) ∧ w = w' := by
  by_cases h0 : n < 0
  · have h0' : decide (n < 0) = true := by simpa using h0
    have hr : Hid (false = upB m n) := by show _ = _; simp [upB]; omega
    go_enter Try.func93, Try.ntmps93
    go_wp2
    refine wp_loop_rounds 2 ?_
    rw [rounds_succ]
    go_wp2
    go_ret
    exact ⟨ret_bool hr.out, rfl⟩
  · have h0' : decide (n < 0) = false := by simpa using h0
    by_cases h1 : m < n
    · have hr : Hid (false = upB m n) := by show _ = _; simp [upB]; omega
      go_enter Try.func93, Try.ntmps93
      go_wp2
      refine wp_loop_rounds 2 ?_
      rw [rounds_succ]
      go_wp2
      go_ret
      exact ⟨ret_bool hr.out, rfl⟩
    · have hr : Hid (true = upB m n) := by show _ = _; simp [upB]; omega
      go_enter Try.func93, Try.ntmps93
      go_wp2
      refine wp_loop_rounds 2 ?_
      rw [rounds_succ]
      go_wp2
      rw [rounds_succ]
      go_wp2
      go_ret
      exact ⟨ret_bool hr.out, rfl⟩

set_option maxHeartbeats 400000 in
theorem valid_any (s r : Int) (k : Bool) (w : World) :
    Calls Try.prog 37 #[.agg #[.int .i64 s, .int .i64 r, .bool k]] w fun e w' => e = .returned (.bool (vM s r)) ∧ Below w.heap.size w w' := by
  cases hu : upB 1000000 s
  · have hr : Hid (false = vM s r) := by show _ = _; unfold upB at hu; simp [vM, hu]
    go_enter Try.func37, Try.ntmps37
    go_wp2_with (go_at_call 93; refine (upTo_any _ s (w.heap.size + 1) _ (cell_new (by simp) rfl)).mono ?_; rintro e w1 ⟨rfl, rfl⟩)
    go_ret
    exact ⟨ret_bool hr.out, bel_alloc (bel_alloc (Below.refl _ _) _) _⟩
  · by_cases hl : -1000000000000000 ≤ r
    · have hl' : decide (-1000000000000000 ≤ r) = true := by simpa using hl
      have hr : Hid (decide (r ≤ 1000000000000000) = vM s r) := by show _ = _; unfold upB at hu; simp [vM, hu, hl]
      go_enter Try.func37, Try.ntmps37
      go_wp2_with (go_at_call 93; refine (upTo_any _ s (w.heap.size + 1) _ (cell_new (by simp) rfl)).mono ?_; rintro e w1 ⟨rfl, rfl⟩)
      go_ret
      exact ⟨ret_bool hr.out, bel_alloc (bel_alloc (Below.refl _ _) _) _⟩
    · have hl' : decide (-1000000000000000 ≤ r) = false := by simpa using hl
      have hr : Hid (false = vM s r) := by show _ = _; simp [vM, hl]
      go_enter Try.func37, Try.ntmps37
      go_wp2_with (go_at_call 93; refine (upTo_any _ s (w.heap.size + 1) _ (cell_new (by simp) rfl)).mono ?_; rintro e w1 ⟨rfl, rfl⟩)
      go_ret
      exact ⟨ret_bool hr.out, bel_alloc (bel_alloc (Below.refl _ _) _) _⟩

/-- the register after a tick -/
def nR (r a p : Int) (k : Bool) : Int := if k = true then r - 2300 * a * p else r + 2300 * a * p
def cE (s r a p : Int) (k : Bool) : Int := if (vM s r && (upB 80 a && upB 3 p)) = true then (if vM s (nR r a p k) = true then 0 else 3) else 1
def zI (e x : Int) : Int := if e = 0 then x else 0
def zB (e : Int) (b : Bool) : Bool := if e = 0 then b else false

theorem prod_bd {a p : Int} (ha : 0 ≤ a ∧ a ≤ 80) (hp : 0 ≤ p ∧ p ≤ 3) : 0 ≤ 2300 * a * p ∧ 2300 * a * p ≤ 552000 := by
  have h1 : 0 ≤ a * p := Int.mul_nonneg ha.1 hp.1
  have h2 : a * p ≤ 80 * 3 := Int.mul_le_mul ha.2 hp.2 hp.1 (by omega)
  have e : 2300 * a * p = 2300 * (a * p) := by rw [Int.mul_assoc]
  omega

set_option maxHeartbeats 1000000 in
theorem count_fwd (s r a p : Int) (w : World) (hv : vM s r = true) (ha : upB 80 a = true) (hp : upB 3 p = true) (hn : vM s (r + 2300 * a * p) = true) :
    Calls Try.prog 34 #[.agg #[.int .i64 s, .int .i64 r, .bool false], .int .i64 a, .int .i64 p] w
      fun e w' => e = .returned (.tuple #[.agg #[.int .i64 s, .int .i64 (r + 2300 * a * p), .bool false], .int .i64 0]) ∧ Below w.heap.size w w' := by
  have hmf : ∀ (fn : Fn) (first cap : Array Value) (w : World), (Instr.makeFunc fn first cap).run Try.prog w = .ok (.func fn first cap) w := fun _ _ _ _ => rfl
  have hvb := vM_iff.1 hv
  have hab : 0 ≤ a ∧ a ≤ 80 := by simpa [upB] using ha
  have hpb : 0 ≤ p ∧ p ≤ 3 := by simpa [upB] using hp
  have hpr := prod_bd hab hpb
  go_enter Try.func34, Try.ntmps34
  go_wp2_with fail
  refine (valid_any s r false _).mono ?_
  rintro e w1 ⟨rfl, hb1⟩
  obtain ⟨k1, k2, hz1, h1⟩ := box2 hb1
  obtain ⟨c0, c1, c2, _, _, _⟩ := blk3 k1
  have K2 := Lib.hid k2
  obtain ⟨l1, l2, l3, l4, l5, l6⟩ := lts hz1
  clear k1 k2
  rw [hv]
  go_wp2_with fail
  refine (upTo_any 80 a w1.heap.size _ (cell_new rfl rfl)).mono ?_
  rintro e w2 ⟨rfl, rfl⟩
  rw [ha]
  go_wp2_with fail
  refine (upTo_any 3 p (w1.heap.size + 1) _ (cell_new (by simp) rfl)).mono ?_
  rintro e w2 ⟨rfl, rfl⟩
  rw [hp]
  go_wp2
  go_end0
  go_wp2_with fail
  refine (valid_any s (r + 2300 * a * p) false _).mono ?_
  rintro e w2 ⟨rfl, hb2⟩
  obtain ⟨k3, hz2, h2⟩ := box3 hb2
  obtain ⟨d0, d1, d2, f0, f1, f2⟩ := blk3 ((h2.block _ hz1).trans K2.out)
  obtain ⟨e0, e1, e2, _, _, _⟩ := blk3 k3
  clear k3 c0 c1 c2
  have h3 := bel_step h1 h2
  rw [hn]
  go_wp2
  refine bodyPost_ret (v := .tuple #[.agg #[.int .i64 s, .int .i64 (r + 2300 * a * p), .bool false], .int .i64 0]) (by simp [results, Try.results34, go_sem, d0, d1, d2]) rfl ⟨rfl, ?_⟩
  exact ((h3.setCell (Nat.le_succ _) _).setCell (Nat.le_succ _) _).setCell (Nat.le_succ _) _

set_option maxHeartbeats 1000000 in
theorem count_fwdBad (s r a p : Int) (w : World) (hv : vM s r = true) (ha : upB 80 a = true) (hp : upB 3 p = true) (hn : vM s (r + 2300 * a * p) = false) :
    Calls Try.prog 34 #[.agg #[.int .i64 s, .int .i64 r, .bool false], .int .i64 a, .int .i64 p] w
      fun e w' => e = .returned (.tuple #[.agg #[.int .i64 0, .int .i64 0, .bool false], .int .i64 3]) ∧ Below w.heap.size w w' := by
  have hmf : ∀ (fn : Fn) (first cap : Array Value) (w : World), (Instr.makeFunc fn first cap).run Try.prog w = .ok (.func fn first cap) w := fun _ _ _ _ => rfl
  have hvb := vM_iff.1 hv
  have hab : 0 ≤ a ∧ a ≤ 80 := by simpa [upB] using ha
  have hpb : 0 ≤ p ∧ p ≤ 3 := by simpa [upB] using hp
  have hpr := prod_bd hab hpb
  go_enter Try.func34, Try.ntmps34
  go_wp2_with fail
  refine (valid_any s r false _).mono ?_
  rintro e w1 ⟨rfl, hb1⟩
  obtain ⟨k1, k2, hz1, h1⟩ := box2 hb1
  obtain ⟨c0, c1, c2, _, _, _⟩ := blk3 k1
  have K2 := Lib.hid k2
  obtain ⟨l1, l2, l3, l4, l5, l6⟩ := lts hz1
  clear k1 k2
  rw [hv]
  go_wp2_with fail
  refine (upTo_any 80 a w1.heap.size _ (cell_new rfl rfl)).mono ?_
  rintro e w2 ⟨rfl, rfl⟩
  rw [ha]
  go_wp2_with fail
  refine (upTo_any 3 p (w1.heap.size + 1) _ (cell_new (by simp) rfl)).mono ?_
  rintro e w2 ⟨rfl, rfl⟩
  rw [hp]
  go_wp2
  go_end0
  go_wp2_with fail
  refine (valid_any s (r + 2300 * a * p) false _).mono ?_
  rintro e w2 ⟨rfl, hb2⟩
  obtain ⟨k3, hz2, h2⟩ := box3 hb2
  obtain ⟨d0, d1, d2, f0, f1, f2⟩ := blk3 ((h2.block _ hz1).trans K2.out)
  obtain ⟨e0, e1, e2, _, _, _⟩ := blk3 k3
  clear k3 c0 c1 c2
  have h3 := bel_step h1 h2
  rw [hn]
  go_wp2
  refine bodyPost_ret (v := .tuple #[.agg #[.int .i64 0, .int .i64 0, .bool false], .int .i64 3]) (by simp [results, Try.results34, go_sem, d0, d1, d2]) rfl ⟨rfl, ?_⟩
  exact ((h3.setCell (Nat.le_succ _) _).setCell (Nat.le_succ _) _).setCell (Nat.le_succ _) _

set_option maxHeartbeats 1000000 in
theorem count_bwd (s r a p : Int) (w : World) (hv : vM s r = true) (ha : upB 80 a = true) (hp : upB 3 p = true) (hn : vM s (r - 2300 * a * p) = true) :
    Calls Try.prog 34 #[.agg #[.int .i64 s, .int .i64 r, .bool true], .int .i64 a, .int .i64 p] w
      fun e w' => e = .returned (.tuple #[.agg #[.int .i64 s, .int .i64 (r - 2300 * a * p), .bool true], .int .i64 0]) ∧ Below w.heap.size w w' := by
  have hmf : ∀ (fn : Fn) (first cap : Array Value) (w : World), (Instr.makeFunc fn first cap).run Try.prog w = .ok (.func fn first cap) w := fun _ _ _ _ => rfl
  have hvb := vM_iff.1 hv
  have hab : 0 ≤ a ∧ a ≤ 80 := by simpa [upB] using ha
  have hpb : 0 ≤ p ∧ p ≤ 3 := by simpa [upB] using hp
  have hpr := prod_bd hab hpb
  go_enter Try.func34, Try.ntmps34
  go_wp2_with fail
  refine (valid_any s r true _).mono ?_
  rintro e w1 ⟨rfl, hb1⟩
  obtain ⟨k1, k2, hz1, h1⟩ := box2 hb1
  obtain ⟨c0, c1, c2, _, _, _⟩ := blk3 k1
  have K2 := Lib.hid k2
  obtain ⟨l1, l2, l3, l4, l5, l6⟩ := lts hz1
  clear k1 k2
  rw [hv]
  go_wp2_with fail
  refine (upTo_any 80 a w1.heap.size _ (cell_new rfl rfl)).mono ?_
  rintro e w2 ⟨rfl, rfl⟩
  rw [ha]
  go_wp2_with fail
  refine (upTo_any 3 p (w1.heap.size + 1) _ (cell_new (by simp) rfl)).mono ?_
  rintro e w2 ⟨rfl, rfl⟩
  rw [hp]
  go_wp2
  go_end0
  go_wp2_with fail
  refine (valid_any s (r - 2300 * a * p) true _).mono ?_
  rintro e w2 ⟨rfl, hb2⟩
  obtain ⟨k3, hz2, h2⟩ := box3 hb2
  obtain ⟨d0, d1, d2, f0, f1, f2⟩ := blk3 ((h2.block _ hz1).trans K2.out)
  obtain ⟨e0, e1, e2, _, _, _⟩ := blk3 k3
  clear k3 c0 c1 c2
  have h3 := bel_step h1 h2
  rw [hn]
  go_wp2
  refine bodyPost_ret (v := .tuple #[.agg #[.int .i64 s, .int .i64 (r - 2300 * a * p), .bool true], .int .i64 0]) (by simp [results, Try.results34, go_sem, d0, d1, d2]) rfl ⟨rfl, ?_⟩
  exact ((h3.setCell (Nat.le_succ _) _).setCell (Nat.le_succ _) _).setCell (Nat.le_succ _) _

set_option maxHeartbeats 1000000 in
theorem count_bwdBad (s r a p : Int) (w : World) (hv : vM s r = true) (ha : upB 80 a = true) (hp : upB 3 p = true) (hn : vM s (r - 2300 * a * p) = false) :
    Calls Try.prog 34 #[.agg #[.int .i64 s, .int .i64 r, .bool true], .int .i64 a, .int .i64 p] w
      fun e w' => e = .returned (.tuple #[.agg #[.int .i64 0, .int .i64 0, .bool false], .int .i64 3]) ∧ Below w.heap.size w w' := by
  have hmf : ∀ (fn : Fn) (first cap : Array Value) (w : World), (Instr.makeFunc fn first cap).run Try.prog w = .ok (.func fn first cap) w := fun _ _ _ _ => rfl
  have hvb := vM_iff.1 hv
  have hab : 0 ≤ a ∧ a ≤ 80 := by simpa [upB] using ha
  have hpb : 0 ≤ p ∧ p ≤ 3 := by simpa [upB] using hp
  have hpr := prod_bd hab hpb
  go_enter Try.func34, Try.ntmps34
  go_wp2_with fail
  refine (valid_any s r true _).mono ?_
  rintro e w1 ⟨rfl, hb1⟩
  obtain ⟨k1, k2, hz1, h1⟩ := box2 hb1
  obtain ⟨c0, c1, c2, _, _, _⟩ := blk3 k1
  have K2 := Lib.hid k2
  obtain ⟨l1, l2, l3, l4, l5, l6⟩ := lts hz1
  clear k1 k2
  rw [hv]
  go_wp2_with fail
  refine (upTo_any 80 a w1.heap.size _ (cell_new rfl rfl)).mono ?_
  rintro e w2 ⟨rfl, rfl⟩
  rw [ha]
  go_wp2_with fail
  refine (upTo_any 3 p (w1.heap.size + 1) _ (cell_new (by simp) rfl)).mono ?_
  rintro e w2 ⟨rfl, rfl⟩
  rw [hp]
  go_wp2
  go_end0
  go_wp2_with fail
  refine (valid_any s (r - 2300 * a * p) true _).mono ?_
  rintro e w2 ⟨rfl, hb2⟩
  obtain ⟨k3, hz2, h2⟩ := box3 hb2
  obtain ⟨d0, d1, d2, f0, f1, f2⟩ := blk3 ((h2.block _ hz1).trans K2.out)
  obtain ⟨e0, e1, e2, _, _, _⟩ := blk3 k3
  clear k3 c0 c1 c2
  have h3 := bel_step h1 h2
  rw [hn]
  go_wp2
  refine bodyPost_ret (v := .tuple #[.agg #[.int .i64 0, .int .i64 0, .bool false], .int .i64 3]) (by simp [results, Try.results34, go_sem, d0, d1, d2]) rfl ⟨rfl, ?_⟩
  exact ((h3.setCell (Nat.le_succ _) _).setCell (Nat.le_succ _) _).setCell (Nat.le_succ _) _

set_option maxHeartbeats 1000000 in
theorem count_v (s r a p : Int) (k : Bool) (w : World) (hv : vM s r = false) :
    Calls Try.prog 34 #[.agg #[.int .i64 s, .int .i64 r, .bool k], .int .i64 a, .int .i64 p] w
      fun e w' => e = .returned (.tuple #[.agg #[.int .i64 0, .int .i64 0, .bool false], .int .i64 1]) ∧ Below w.heap.size w w' := by
  go_enter Try.func34, Try.ntmps34
  go_wp2_with fail
  refine (valid_any s r k _).mono ?_
  rintro e w1 ⟨rfl, hb1⟩
  obtain ⟨k1, k2, hz1, h1⟩ := box2 hb1
  obtain ⟨d0, d1, d2, f0, f1, f2⟩ := blk3 k2
  obtain ⟨l1, l2, l3, l4, l5, l6⟩ := lts hz1
  clear k1 k2
  rw [hv]
  go_wp2
  refine bodyPost_ret (v := .tuple #[.agg #[.int .i64 0, .int .i64 0, .bool false], .int .i64 1]) (by simp [results, Try.results34, go_sem, d0, d1, d2]) rfl ⟨rfl, ?_⟩
  repeat (first | exact h1 | apply bel_alloc | refine Below.setCell ?_ (Nat.le_succ _) _)

set_option maxHeartbeats 1000000 in
theorem count_a (s r a p : Int) (k : Bool) (w : World) (hv : vM s r = true) (ha : upB 80 a = false) :
    Calls Try.prog 34 #[.agg #[.int .i64 s, .int .i64 r, .bool k], .int .i64 a, .int .i64 p] w
      fun e w' => e = .returned (.tuple #[.agg #[.int .i64 0, .int .i64 0, .bool false], .int .i64 1]) ∧ Below w.heap.size w w' := by
  go_enter Try.func34, Try.ntmps34
  go_wp2_with fail
  refine (valid_any s r k _).mono ?_
  rintro e w1 ⟨rfl, hb1⟩
  obtain ⟨k1, k2, hz1, h1⟩ := box2 hb1
  obtain ⟨d0, d1, d2, f0, f1, f2⟩ := blk3 k2
  obtain ⟨l1, l2, l3, l4, l5, l6⟩ := lts hz1
  clear k1 k2
  rw [hv]
  go_wp2_with fail
  refine (upTo_any 80 a w1.heap.size _ (cell_new rfl rfl)).mono ?_
  rintro e w2 ⟨rfl, rfl⟩
  rw [ha]
  go_wp2
  refine bodyPost_ret (v := .tuple #[.agg #[.int .i64 0, .int .i64 0, .bool false], .int .i64 1]) (by simp [results, Try.results34, go_sem, d0, d1, d2, hz1]) rfl ⟨rfl, ?_⟩
  repeat (first | exact h1 | apply bel_alloc | refine Below.setCell ?_ (Nat.le_succ _) _)

set_option maxHeartbeats 1000000 in
theorem count_p (s r a p : Int) (k : Bool) (w : World) (hv : vM s r = true) (ha : upB 80 a = true) (hp : upB 3 p = false) :
    Calls Try.prog 34 #[.agg #[.int .i64 s, .int .i64 r, .bool k], .int .i64 a, .int .i64 p] w
      fun e w' => e = .returned (.tuple #[.agg #[.int .i64 0, .int .i64 0, .bool false], .int .i64 1]) ∧ Below w.heap.size w w' := by
  go_enter Try.func34, Try.ntmps34
  go_wp2_with fail
  refine (valid_any s r k _).mono ?_
  rintro e w1 ⟨rfl, hb1⟩
  obtain ⟨k1, k2, hz1, h1⟩ := box2 hb1
  obtain ⟨d0, d1, d2, f0, f1, f2⟩ := blk3 k2
  obtain ⟨l1, l2, l3, l4, l5, l6⟩ := lts hz1
  clear k1 k2
  rw [hv]
  go_wp2_with fail
  refine (upTo_any 80 a w1.heap.size _ (cell_new rfl rfl)).mono ?_
  rintro e w2 ⟨rfl, rfl⟩
  rw [ha]
  go_wp2_with fail
  refine (upTo_any 3 p (w1.heap.size + 1) _ (cell_new (by simp) rfl)).mono ?_
  rintro e w2 ⟨rfl, rfl⟩
  rw [hp]
  go_wp2
  refine bodyPost_ret (v := .tuple #[.agg #[.int .i64 0, .int .i64 0, .bool false], .int .i64 1]) (by simp [results, Try.results34, go_sem, d0, d1, d2, hz1, l1]) rfl ⟨rfl, ?_⟩
  repeat (first | exact h1 | apply bel_alloc | refine Below.setCell ?_ (Nat.le_succ _) _)


/-- what Count returns, for every meter and all numbers -/
theorem count_any (s r a p : Int) (k : Bool) (w : World) :
    Calls Try.prog 34 #[.agg #[.int .i64 s, .int .i64 r, .bool k], .int .i64 a, .int .i64 p] w
      fun e w' => e = .returned (.tuple #[.agg #[.int .i64 (zI (cE s r a p k) s), .int .i64 (zI (cE s r a p k) (nR r a p k)), .bool (zB (cE s r a p k) k)], .int .i64 (cE s r a p k)]) ∧ Below w.heap.size w w' := by
  cases hv : vM s r
  · refine (count_v s r a p k w hv).mono fun e w' h => ⟨h.1.trans (ret_meter ?_), h.2⟩
    simp [cE, zI, zB, hv]
  · cases ha : upB 80 a
    · refine (count_a s r a p k w hv ha).mono fun e w' h => ⟨h.1.trans (ret_meter ?_), h.2⟩
      simp [cE, zI, zB, ha]
    · cases hp : upB 3 p
      · refine (count_p s r a p k w hv ha hp).mono fun e w' h => ⟨h.1.trans (ret_meter ?_), h.2⟩
        simp [cE, zI, zB, hp]
      · cases k
        · cases hn : vM s (r + 2300 * a * p)
          · refine (count_fwdBad s r a p w hv ha hp hn).mono fun e w' h => ⟨h.1.trans (ret_meter ?_), h.2⟩
            simp [cE, zI, zB, hv, ha, hp, nR, hn]
          · refine (count_fwd s r a p w hv ha hp hn).mono fun e w' h => ⟨h.1.trans (ret_meter ?_), h.2⟩
            simp [cE, zI, zB, hv, ha, hp, nR, hn]
        · cases hn : vM s (r - 2300 * a * p)
          · refine (count_bwdBad s r a p w hv ha hp hn).mono fun e w' h => ⟨h.1.trans (ret_meter ?_), h.2⟩
            simp [cE, zI, zB, hv, ha, hp, nR, hn]
          · refine (count_bwd s r a p w hv ha hp hn).mono fun e w' h => ⟨h.1.trans (ret_meter ?_), h.2⟩
            simp [cE, zI, zB, hv, ha, hp, nR, hn]

theorem box3k {w w1 : World} {A B C : Array Value} {t u v : TypeId} (hb : Below (((w.alloc (.cells A t)).alloc (.cells B u)).alloc (.cells C v)).heap.size (((w.alloc (.cells A t)).alloc (.cells B u)).alloc (.cells C v)) w1) :
    w1.heap[w.heap.size]? = some (.cells A t) ∧ w1.heap[w.heap.size + 1]? = some (.cells B u) ∧ w1.heap[w.heap.size + 1 + 1]? = some (.cells C v) ∧ w.heap.size + 1 + 1 < w1.heap.size ∧ Below w.heap.size w w1 := by
  obtain ⟨k3, hz, h⟩ := box3 hb
  have e1 : (((w.alloc (.cells A t)).alloc (.cells B u)).alloc (.cells C v)).heap[w.heap.size]? = some (.cells A t) :=
    (Below.heap_alloc _ _ _ (by simp only [World.size_alloc]; omega)).trans ((Below.heap_alloc _ _ _ (by simp)).trans (heap_alloc_new w _))
  have e2 : (((w.alloc (.cells A t)).alloc (.cells B u)).alloc (.cells C v)).heap[w.heap.size + 1]? = some (.cells B u) :=
    (Below.heap_alloc _ _ _ (by simp)).trans (by have := heap_alloc_new (w.alloc (.cells A t)) (.cells B u); simpa using this)
  exact ⟨(hb.block _ (by simp only [World.size_alloc]; omega)).trans e1, (hb.block _ (by simp only [World.size_alloc]; omega)).trans e2, k3, hz, h⟩
theorem ret_m2 {s s' r r' e e' : Int} {k k' : Bool} (h : s = s' ∧ r = r' ∧ k = k' ∧ e = e') {w w' : World} (hb : Below w.heap.size w w') {v : Ending}
    (hv : v = .returned (.tuple #[.agg #[.int .i64 s, .int .i64 r, .bool k], .int .i64 e])) : v = .returned (.tuple #[.agg #[.int .i64 s', .int .i64 r', .bool k'], .int .i64 e']) ∧ Below w.heap.size w w' := ⟨hv.trans (ret_meter h), hb⟩

def eE (s r n m : Int) : Int := if (vM s r && vM n m) = true then (if s = n then (if m < r then 11 else 0) else 4) else 1
set_option maxHeartbeats 1000000 in
theorem energy_v (s r n m : Int) (k j : Bool) (w : World) (hv : vM s r = false) :
    Calls Try.prog 12 #[.agg #[.int .i64 s, .int .i64 r, .bool k], .agg #[.int .i64 n, .int .i64 m, .bool j]] w fun e w' => e = .returned (.tuple #[.int .i64 (0), .int .i64 1]) ∧ Below w.heap.size w w' := by
  go_enter Try.func12, Try.ntmps12
  go_wp2_with fail
  refine (valid_any s r k _).mono ?_
  rintro e w1 ⟨rfl, hb1⟩
  obtain ⟨k1, k2, hz1, h1⟩ := box2 hb1
  clear k1 k2
  rw [hv]
  go_wp2
  go_ret2
  exact ⟨rfl, h1⟩
set_option maxHeartbeats 1000000 in
theorem energy_o (s r n m : Int) (k j : Bool) (w : World) (hv : vM s r = true) (ho : vM n m = false) :
    Calls Try.prog 12 #[.agg #[.int .i64 s, .int .i64 r, .bool k], .agg #[.int .i64 n, .int .i64 m, .bool j]] w fun e w' => e = .returned (.tuple #[.int .i64 (0), .int .i64 1]) ∧ Below w.heap.size w w' := by
  go_enter Try.func12, Try.ntmps12
  go_wp2_with fail
  refine (valid_any s r k _).mono ?_
  rintro e w1 ⟨rfl, hb1⟩
  obtain ⟨k1, k2, hz1, h1⟩ := box2 hb1
  have K1 := Lib.hid k1
  have K2 := Lib.hid k2
  obtain ⟨q0, q1, q2, _, _, _⟩ := blk3 k2
  clear k1 k2
  rw [hv]
  go_wp2_with fail
  refine (valid_any n m j _).mono ?_
  rintro e w2 ⟨rfl, hb2⟩
  obtain ⟨c0, c1, c2, _, _, _⟩ := blk3 ((hb2.block _ (by omega)).trans K1.out)
  clear q0 q1 q2
  obtain ⟨q0, q1, q2, _, _, _⟩ := blk3 ((hb2.block _ (by omega)).trans K2.out)
  have h1 := bel_step h1 hb2
  rw [ho]
  go_wp2
  go_ret2
  exact ⟨rfl, h1⟩
set_option maxHeartbeats 1000000 in
theorem energy_d (s r n m : Int) (k j : Bool) (w : World) (hv : vM s r = true) (ho : vM n m = true) (he : s ≠ n) :
    Calls Try.prog 12 #[.agg #[.int .i64 s, .int .i64 r, .bool k], .agg #[.int .i64 n, .int .i64 m, .bool j]] w fun e w' => e = .returned (.tuple #[.int .i64 (0), .int .i64 4]) ∧ Below w.heap.size w w' := by
  have he' : (s == n) = false := by simpa using he
  have he2 : (s != n) = true := by simpa using he
  have b1 := vM_iff.1 hv
  have b2 := vM_iff.1 ho
  go_enter Try.func12, Try.ntmps12
  go_wp2_with fail
  refine (valid_any s r k _).mono ?_
  rintro e w1 ⟨rfl, hb1⟩
  obtain ⟨k1, k2, hz1, h1⟩ := box2 hb1
  have K1 := Lib.hid k1
  have K2 := Lib.hid k2
  obtain ⟨q0, q1, q2, _, _, _⟩ := blk3 k2
  clear k1 k2
  rw [hv]
  go_wp2_with fail
  refine (valid_any n m j _).mono ?_
  rintro e w2 ⟨rfl, hb2⟩
  obtain ⟨c0, c1, c2, _, _, _⟩ := blk3 ((hb2.block _ (by omega)).trans K1.out)
  clear q0 q1 q2
  obtain ⟨q0, q1, q2, _, _, _⟩ := blk3 ((hb2.block _ (by omega)).trans K2.out)
  have h1 := bel_step h1 hb2
  rw [ho]
  go_wp2
  go_ret2
  exact ⟨rfl, h1⟩
set_option maxHeartbeats 1000000 in
theorem energy_l (s r n m : Int) (k j : Bool) (w : World) (hv : vM s r = true) (ho : vM n m = true) (he : s = n) (hl : m < r) :
    Calls Try.prog 12 #[.agg #[.int .i64 s, .int .i64 r, .bool k], .agg #[.int .i64 n, .int .i64 m, .bool j]] w fun e w' => e = .returned (.tuple #[.int .i64 (0), .int .i64 11]) ∧ Below w.heap.size w w' := by
  subst he
  have b1 := vM_iff.1 hv
  have b2 := vM_iff.1 ho
  go_enter Try.func12, Try.ntmps12
  go_wp2_with fail
  refine (valid_any s r k _).mono ?_
  rintro e w1 ⟨rfl, hb1⟩
  obtain ⟨k1, k2, hz1, h1⟩ := box2 hb1
  have K1 := Lib.hid k1
  have K2 := Lib.hid k2
  obtain ⟨q0, q1, q2, _, _, _⟩ := blk3 k2
  clear k1 k2
  rw [hv]
  go_wp2_with fail
  refine (valid_any s m j _).mono ?_
  rintro e w2 ⟨rfl, hb2⟩
  obtain ⟨c0, c1, c2, _, _, _⟩ := blk3 ((hb2.block _ (by omega)).trans K1.out)
  clear q0 q1 q2
  obtain ⟨q0, q1, q2, _, _, _⟩ := blk3 ((hb2.block _ (by omega)).trans K2.out)
  have h1 := bel_step h1 hb2
  rw [ho]
  go_wp2
  go_ret2
  exact ⟨rfl, h1⟩
set_option maxHeartbeats 1000000 in
theorem energy_y (s r n m : Int) (k j : Bool) (w : World) (hv : vM s r = true) (ho : vM n m = true) (he : s = n) (hl : ¬ m < r) :
    Calls Try.prog 12 #[.agg #[.int .i64 s, .int .i64 r, .bool k], .agg #[.int .i64 n, .int .i64 m, .bool j]] w fun e w' => e = .returned (.tuple #[.int .i64 ((m - r) / 3600), .int .i64 0]) ∧ Below w.heap.size w w' := by
  subst he
  have b1 := vM_iff.1 hv
  have b2 := vM_iff.1 ho
  go_enter Try.func12, Try.ntmps12
  go_wp2_with fail
  refine (valid_any s r k _).mono ?_
  rintro e w1 ⟨rfl, hb1⟩
  obtain ⟨k1, k2, hz1, h1⟩ := box2 hb1
  have K1 := Lib.hid k1
  have K2 := Lib.hid k2
  obtain ⟨q0, q1, q2, _, _, _⟩ := blk3 k2
  clear k1 k2
  rw [hv]
  go_wp2_with fail
  refine (valid_any s m j _).mono ?_
  rintro e w2 ⟨rfl, hb2⟩
  obtain ⟨c0, c1, c2, _, _, _⟩ := blk3 ((hb2.block _ (by omega)).trans K1.out)
  clear q0 q1 q2
  obtain ⟨q0, q1, q2, _, _, _⟩ := blk3 ((hb2.block _ (by omega)).trans K2.out)
  have h1 := bel_step h1 hb2
  rw [ho]
  go_wp2
  go_ret2
  exact ⟨rfl, h1⟩
theorem energy_any (s r n m : Int) (k j : Bool) (w : World) :
    Calls Try.prog 12 #[.agg #[.int .i64 s, .int .i64 r, .bool k], .agg #[.int .i64 n, .int .i64 m, .bool j]] w
      fun e w' => e = .returned (.tuple #[.int .i64 (zI (eE s r n m) ((m - r) / 3600)), .int .i64 (eE s r n m)]) ∧ Below w.heap.size w w' := by
  cases hv : vM s r
  · exact (energy_v s r n m k j w hv).mono fun e w' h => ⟨h.1.trans (ret_two (by simp [eE, zI, hv]) (by simp [eE, hv])), h.2⟩
  · cases ho : vM n m
    · exact (energy_o s r n m k j w hv ho).mono fun e w' h => ⟨h.1.trans (ret_two (by simp [eE, zI, ho]) (by simp [eE, ho])), h.2⟩
    · by_cases he : s = n
      · by_cases hl : m < r
        · have hE : eE s r n m = 11 := by unfold eE; rw [if_pos (by simp [hv, ho]), if_pos he, if_pos hl]
          exact (energy_l s r n m k j w hv ho he hl).mono fun e w' h => ⟨h.1.trans (ret_two (by rw [hE]; simp [zI]) hE.symm), h.2⟩
        · have hE : eE s r n m = 0 := by unfold eE; rw [if_pos (by simp [hv, ho]), if_pos he, if_neg hl]
          exact (energy_y s r n m k j w hv ho he hl).mono fun e w' h => ⟨h.1.trans (ret_two (by rw [hE]; simp [zI]) hE.symm), h.2⟩
      · have hE : eE s r n m = 4 := by unfold eE; rw [if_pos (by simp [hv, ho]), if_neg he]
        exact (energy_d s r n m k j w hv ho he).mono fun e w' h => ⟨h.1.trans (ret_two (by rw [hE]; simp [zI]) hE.symm), h.2⟩

/-- block b of w is just this meter -/
def MB (w : World) (b : Nat) (s r : Int) (k : Bool) : Prop := w.heap[b]? = some (.cells #[.int .i64 s, .int .i64 r, .bool k] 28)
theorem MB.lt {w : World} {b : Nat} {s r : Int} {k : Bool} (h : MB w b s r k) : b < w.heap.size := by
  rcases Nat.lt_or_ge b w.heap.size with hlt | hge
  · exact hlt
  · unfold MB at h; rw [Array.getElem?_eq_none hge] at h; cases h
theorem MB.new (w : World) (s r : Int) (k : Bool) : MB (w.alloc (.cells #[.int .i64 s, .int .i64 r, .bool k] 28)) w.heap.size s r k := heap_alloc_new w _
theorem MB.new2 (w : World) (o : Obj) (s r : Int) (k : Bool) : MB ((w.alloc o).alloc (.cells #[.int .i64 s, .int .i64 r, .bool k] 28)) (w.heap.size + 1) s r k := by
  have := heap_alloc_new (w.alloc o) (.cells #[.int .i64 s, .int .i64 r, .bool k] 28)
  simpa [MB] using this
theorem MB.alloc {w : World} {b : Nat} {s r : Int} {k : Bool} (h : MB w b s r k) (o : Obj) : MB (w.alloc o) b s r k := (Below.heap_alloc w o b h.lt).trans h
theorem MB.keep {w w' : World} {b : Nat} {s r : Int} {k : Bool} (h : MB w b s r k) (hb : Below w.heap.size w w') : MB w' b s r k := (hb.block b h.lt).trans h
theorem MB.drew {w : World} {b : Nat} {s r : Int} {k : Bool} (h : MB w b s r k) : MB w.drew b s r k := h
/-- what the walk reads of it, and that it may be written -/
theorem MB.get {w : World} {b : Nat} {s r : Int} {k : Bool} (h : MB w b s r k) :
    w.cell? ⟨b, 0, none⟩ = some (.int .i64 s) ∧ w.cell? ⟨b, 1, none⟩ = some (.int .i64 r) ∧ w.cell? ⟨b, 2, none⟩ = some (.bool k) ∧ b < w.heap.size ∧ b < w.heap.size + 1 := by
  obtain ⟨a, c, d, _, _, _⟩ := blk3 h
  exact ⟨a, c, d, h.lt, Nat.lt_succ_of_lt h.lt⟩

/-- the slice at A reads as n ticks: f i amperes and g i phases, as bytes -/
def TK (w : World) (A : Option Addr) (n : Nat) (f g : Nat → Int) : Prop :=
  ∀ i, i < n → ∃ b o, A = some ⟨b, o, none⟩ ∧ b < w.heap.size ∧ w.cell? ⟨b, o + i * 2, none⟩ = some (.int .u8 (f i)) ∧ w.cell? ⟨b, o + i * 2 + 1, none⟩ = some (.int .u8 (g i)) ∧ (0 ≤ f i ∧ f i ≤ 255) ∧ (0 ≤ g i ∧ g i ≤ 255)
theorem TK.keep {w w' : World} {A : Option Addr} {n : Nat} {f g : Nat → Int} (h : TK w A n f g) (hb : Below w.heap.size w w') : TK w' A n f g := by
  intro i hi
  obtain ⟨b, o, rfl, hlt, h1, h2, h3⟩ := h i hi
  exact ⟨b, o, rfl, Nat.lt_of_lt_of_le hlt hb.size, (hb.cell (p := ⟨b, o + i * 2, none⟩) hlt).trans h1, (hb.cell (p := ⟨b, o + i * 2 + 1, none⟩) hlt).trans h2, h3⟩

theorem MB.set {w : World} {b : Nat} {s r s' r' : Int} {k k' : Bool} (h : MB w b s r k) :
    MB (((w.setCell ⟨b, 0, none⟩ (.int .i64 s')).setCell ⟨b, 1, none⟩ (.int .i64 r')).setCell ⟨b, 2, none⟩ (.bool k')) b s' r' k' := by
  unfold MB at *
  simp [World.setCell, Array.getElem?_modify, h]
theorem MB.far {w : World} {b : Nat} {s r : Int} {k : Bool} (h : MB w b s r k) {p : Addr} (hp : b ≠ p.block) (u : Value) : MB (w.setCell p u) b s r k := (Below.heap_setCell w p u b hp).trans h
theorem MB.frz {w : World} {b : Nat} {s r : Int} {k : Bool} (h : MB w b s r k) : w.frozen? ⟨b, 0, none⟩ = false ∧ w.frozen? ⟨b, 1, none⟩ = false ∧ w.frozen? ⟨b, 2, none⟩ = false := by
  obtain ⟨_, _, _, a, c, d⟩ := blk3 h
  exact ⟨a, c, d⟩

end Go.Proofs.Ytkhmlbkkdflnoaa.Mt
