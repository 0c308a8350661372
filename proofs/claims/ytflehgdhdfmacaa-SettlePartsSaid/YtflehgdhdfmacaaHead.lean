/-
  THE WALKS over the laws' helpers: record, head.
-/
import Derived.Test.YtflehgdhdfmacaaRefC
import Derived.Handy
namespace Go.Proofs.Ytflehgdhdfmacaa
open Go.RowKit
set_option linter.unusedVariables false
attribute [local go_sem ↓] Go.wp_at_zero Go.wp_at_succ

/-- a record of a session -/
def rcX (a b c d : Int) : Nat → Int := fun j => if j = 0 then a else if j = 3 then b else if j = 4 then c else if j = 8 then d else 0
/-- a record's value -/
def rcV (x : Nat → Int) : Value := .agg #[.int .i64 (x 0), .int .i64 (x 1), .int .i64 (x 2), .int .i64 (x 3), .int .i64 (x 4), .int .i64 (x 5), .int .i64 (x 6), .int .i64 (x 7), .int .i64 (x 8), .int .u64 (x 9), .int .u64 (x 10), .int .u64 (x 11), .int .u64 (x 12)]
/-- its cells -/
def rcL (x : Nat → Int) : List Value := [.int .i64 (x 0), .int .i64 (x 1), .int .i64 (x 2), .int .i64 (x 3), .int .i64 (x 4), .int .i64 (x 5), .int .i64 (x 6), .int .i64 (x 7), .int .i64 (x 8), .int .u64 (x 9), .int .u64 (x 10), .int .u64 (x 11), .int .u64 (x 12)]
theorem rcL_len (x : Nat → Int) : (rcL x).length = 13 := rfl
theorem rcL_get (x : Nat → Int) : ∀ j, j < 13 → (rcL x)[j]? = some (cv j (x j)) := by
  intro j hj
  have : j = 0 ∨ j = 1 ∨ j = 2 ∨ j = 3 ∨ j = 4 ∨ j = 5 ∨ j = 6 ∨ j = 7 ∨ j = 8 ∨ j = 9 ∨ j = 10 ∨ j = 11 ∨ j = 12 := by omega
  rcases this with rfl | rfl | rfl | rfl | rfl | rfl | rfl | rfl | rfl | rfl | rfl | rfl | rfl <;> rfl
theorem rcL_one (x : Nat → Int) : ∀ u ∈ rcL x, u.oneCell' = true := by simp [rcL, Value.oneCell']
/-- the cells of n records -/
def recs (X : Nat → Nat → Int) : Nat → List Value
  | 0 => []
  | n + 1 => recs X n ++ rcL (X n)
theorem recs_len (X : Nat → Nat → Int) : ∀ n, (recs X n).length = n * 13 := by
  intro n
  induction n with
  | zero => rfl
  | succ n ih => simp [recs, ih, rcL_len]; omega
theorem recs_get (X : Nat → Nat → Int) : ∀ n i, i < n → ∀ j, j < 13 → (recs X n)[i * 13 + j]? = some (cv j (X i j)) := by
  intro n
  induction n with
  | zero => intro i hi; omega
  | succ n ih =>
    intro i hi j hj
    have hl := recs_len X n
    simp only [recs]
    rcases Nat.lt_or_ge i n with h | h
    · rw [List.getElem?_append_left (by omega)]
      exact ih i h j hj
    · obtain rfl : i = n := by omega
      rw [List.getElem?_append_right (by omega), hl, Nat.add_sub_cancel_left]
      exact rcL_get _ j hj
theorem recs_one (X : Nat → Nat → Int) : ∀ n, ∀ u ∈ recs X n, u.oneCell' = true := by
  intro n
  induction n with
  | zero => intro u hu; simp [recs] at hu
  | succ n ih =>
    intro u hu
    rcases List.mem_append.1 hu with h | h
    · exact ih u h
    · exact rcL_one _ u h
theorem recs_congr {X Y : Nat → Nat → Int} : ∀ n, (∀ i, i < n → X i = Y i) → recs X n = recs Y n := by
  intro n
  induction n with
  | zero => intro _; rfl
  | succ n ih => intro h; simp only [recs]; rw [ih fun i hi => h i (by omega), h n (by omega)]
theorem RR_own {w : World} {base : Nat} {e : TypeId} {A : Option Addr} {n c : Nat} {X : Nat → Nat → Int} (h : w.ownsRow base e 13 (.slice A n c) n (recs X n)) : RR w A n X := fun i hi => by
  obtain ⟨g, cap, hv, hb, hlt⟩ := h.form (by omega)
  cases hv
  refine ⟨g, 0, rfl, hlt, fun j hj => ?_⟩
  rw [show 0 + i * 13 + j = i * 13 + j by omega, h.cellAt _ (by omega)]
  exact recs_get X n i hi j hj
theorem RR_news {w : World} {n : Nat} {X : Nat → Nat → Int} {b o : Nat} (x : RR w (some ⟨b, o, none⟩) n X) : ∀ j u, (recs X n)[j]? = some u → w.cell? ((⟨b, o, none⟩ : Addr).add j) = some u := by
  intro j u hu
  have hj : j < n * 13 := by
    have := (List.getElem?_eq_some_iff.1 hu).1
    simpa [recs_len] using this
  have e : j / 13 * 13 + j % 13 = j := by omega
  have h1 := recs_get X n (j / 13) (by omega) (j % 13) (by omega)
  rw [e, hu] at h1
  cases h1
  rw [Addr.add_lit]
  obtain ⟨b', o', e', _, hc⟩ := x (j / 13) (by omega)
  cases e'
  have h2 := hc (j % 13) (by omega)
  rw [show o + j / 13 * 13 + j % 13 = o + j by omega] at h2
  exact h2
theorem infoRec : (Try.prog.info? 40).map (fun i => (i.zero, i.size, i.bytes)) = some (some (rcV fun _ => 0), 13, 104) := by kernel_rfl

set_option maxRecDepth 100000 in
set_option maxHeartbeats 2000000 in
theorem rec_any (a b c d : Int) (w : World) : Calls Try.prog 19 #[.int .i64 a, .int .i64 b, .int .i64 c, .int .i64 d] w
    fun e w' => e = .returned (rcV (rcX a b c d)) ∧ Below w.heap.size w w' := by
  have HB : Hid (∀ o, Below w.heap.size w (w.alloc o)) := Lib.hid fun o => bel_alloc (Below.refl _ _) o
  go_enter Try.func19, Try.ntmps19
  go_wp2
  go_returns
  exact ⟨rfl, HB.out _⟩
end Go.Proofs.Ytflehgdhdfmacaa
