/-
  CONTRACTS of record.Close, record.Check at the record of a session.
-/
import Derived.Test.YtkhmlbkkdflnoaaSesP
namespace Go.Proofs.Ytkhmlbkkdflnoaa.Rc
open Go.RowKit
open Ch (lkf rws eSum)
set_option linter.unusedVariables false
set_option linter.unusedSimpArgs false

/-- the numbers of a session's record are such that it can be signed -/
def SBd (k a b : Nat) (hm en am : Int) : Prop := k < 1000000 ∧ (0 ≤ hm ∧ hm ≤ 7) ∧ (1 ≤ a ∧ a ≤ b ∧ b ≤ 64) ∧ (0 ≤ en ∧ en ≤ 64000000000) ∧ 0 ≤ am ∧ am ≤ 1000000000
theorem rcf_lo {K : Nat → Int} {k hm a b en am : Int} : ∀ j, j < 9 → rcf K k hm a b en am j = rc0 k hm a b en am j := fun j hj => by unfold rcf; rw [if_pos hj]
theorem rcf_hi {K : Nat → Int} {k hm a b en am : Int} : ∀ j, rcf K k hm a b en am (9 + j) = sgn (K j) (rcf K k hm a b en am) := fun j => by
  rw [sgn_congr (y := rc0 k hm a b en am) rcf_lo]
  unfold rcf
  rw [if_neg (by omega), show 9 + j - 9 = j by omega]
theorem rcf_v {K : Nat → Int} {k a b : Nat} {hm en am : Int} (h : SBd k a b hm en am) : vRc (rcf K k hm a b en am) := by
  obtain ⟨h1, h2, h3, h4, h5⟩ := h
  unfold vRc
  rw [rcf_lo 0 (by omega), rcf_lo 1 (by omega), rcf_lo 2 (by omega), rcf_lo 3 (by omega), rcf_lo 4 (by omega), rcf_lo 5 (by omega), rcf_lo 6 (by omega), rcf_lo 7 (by omega), rcf_lo 8 (by omega)]
  simp only [rc0]
  omega
theorem rc0_v {k a b : Nat} {hm en am : Int} (h : SBd k a b hm en am) : vRc (clr (rc0 k hm a b 0 am)) := by
  obtain ⟨h1, h2, h3, h4, h5⟩ := h
  unfold vRc
  simp [clr, rc0]
  omega
theorem close_rc (K : Nat → Int) (k a b : Nat) (hm en am : Int) (A : Option Addr) (m c : Nat) (X : Nat → Nat → Int) (w : World) (h : SBd k a b hm en am) (hm64 : m ≤ 64) (hR : RG w A m X) (hok : fi (Ch.okB X) m = m) (hb : b ≤ m) (hen : eSum X a (b - a) = en) :
    Calls Try.prog 41 #[.agg #[.int .i64 ((k : Int) + 1), .int .i64 0, .int .i64 5, .int .i64 hm, .int .i64 0, .int .i64 (a : Int), .int .i64 (b : Int), .int .i64 0, .int .i64 am, .int .u64 0, .int .u64 0, .int .u64 0, .int .u64 0], .slice A m c, .agg #[.int .u64 (K 0), .int .u64 (K 1), .int .u64 (K 2), .int .u64 (K 3)]] w
      fun e w' => e = .returned (.tuple #[rcV (rcf K k hm a b en am), .int .i64 0]) ∧ Below w.heap.size w w' := by
  have h0 := close_ok (rc0 k hm a b 0 am) K A m c X a b w (rc0_v h) hm64 hR hok rfl rfl h.2.2.1.2.1 h.2.2.1.1 hb
  refine h0.mono ?_
  rintro e w' ⟨f, rfl, ⟨h1, h2⟩, hb⟩
  refine ⟨?_, hb⟩
  have e1 : ∀ j, j < 9 → upd (clr (rc0 k hm a b 0 am)) 7 (eSum X a (b - a)) j = rc0 k hm a b en am j := fun j hj => by
    rw [hen]
    rcases (by omega : j = 0 ∨ j = 1 ∨ j = 2 ∨ j = 3 ∨ j = 4 ∨ j = 5 ∨ j = 6 ∨ j = 7 ∨ j = 8) with rfl | rfl | rfl | rfl | rfl | rfl | rfl | rfl | rfl <;> rfl
  have e2 : ∀ j, j < 13 → f j = rcf K k hm a b en am j := fun j hj => by
    rcases Nat.lt_or_ge j 9 with hl | hl
    · rw [h1 j hl, e1 j hl, rcf_lo j hl]
    · obtain ⟨i, rfl⟩ : ∃ i, j = 9 + i := ⟨j - 9, by omega⟩
      rw [h2 i (by omega), rcf_hi i, sgn_congr e1, sgn_congr (x := rcf K k hm a b en am) rcf_lo]
  unfold rcV
  rw [e2 0 (by omega), e2 1 (by omega), e2 2 (by omega), e2 3 (by omega), e2 4 (by omega), e2 5 (by omega), e2 6 (by omega), e2 7 (by omega), e2 8 (by omega), e2 9 (by omega), e2 10 (by omega), e2 11 (by omega), e2 12 (by omega)]
theorem check_rc (K : Nat → Int) (k a b : Nat) (hm en am : Int) (w : World) (h : SBd k a b hm en am) :
    Calls Try.prog 42 #[rcV (rcf K k hm a b en am), .agg #[.int .u64 (K 0), .int .u64 (K 1), .int .u64 (K 2), .int .u64 (K 3)]] w fun e w' => e = .returned (.int .i64 (-1)) ∧ Below w.heap.size w w' :=
  check_ok (rcf K k hm a b en am) K w (rcf_v h) fun j _ => rcf_hi j
end Go.Proofs.Ytkhmlbkkdflnoaa.Rc
