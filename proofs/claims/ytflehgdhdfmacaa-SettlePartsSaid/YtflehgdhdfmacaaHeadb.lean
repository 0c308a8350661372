/-
  THE WALK over head: the fixed examples.
-/
import Derived.Test.YtflehgdhdfmacaaHead
namespace Go.Proofs.Ytflehgdhdfmacaa
open Go.RowKit
set_option linter.unusedVariables false
attribute [local go_sem ↓] Go.wp_at_zero Go.wp_at_succ

theorem net_ok (A : Option Addr) (n c : Nat) (X : Nat → Nat → Int) (m : Nat) (w : World) (hn : n ≤ 64) (hm : 1 ≤ m ∧ m ≤ 8) (hR : RR w A n X) (hw : ∀ i, i < n → (Lit.int .i64 (X i 0)).wf = true) (ha : allR m X n) (hd : ¬ dup X n) :
    Calls Try.prog 10 #[.slice A n c, .int .i64 (m : Int)] w fun e w' => ∃ g, e = .returned (.tuple #[.slice (some ⟨g, 0, none⟩) m m, .int .i64 0]) ∧ OwnR w' g m m (get X n) ∧ Below w.heap.size w w' := by
  refine (net_any A n c X m w hn hm hR hw).mono ?_
  rintro e w' ⟨⟨v, er, rfl, h⟩, hb⟩
  rcases h with ⟨_, _, h⟩ | ⟨_, _, _, h⟩ | ⟨rfl, _, _, g, rfl, h⟩
  · exact absurd ha h
  · exact absurd h hd
  · exact ⟨g, rfl, h, hb⟩
theorem net_twice (A : Option Addr) (n c : Nat) (X : Nat → Nat → Int) (m : Nat) (w : World) (hn : n ≤ 64) (hm : 1 ≤ m ∧ m ≤ 8) (hR : RR w A n X) (hw : ∀ i, i < n → (Lit.int .i64 (X i 0)).wf = true) (ha : allR m X n) (hd : dup X n) :
    Calls Try.prog 10 #[.slice A n c, .int .i64 (m : Int)] w fun e w' => e = .returned (.tuple #[.slice none 0 0, .int .i64 5]) ∧ Below w.heap.size w w' := by
  refine (net_any A n c X m w hn hm hR hw).mono ?_
  rintro e w' ⟨⟨v, er, rfl, h⟩, hb⟩
  rcases h with ⟨_, _, h⟩ | ⟨rfl, rfl, _, h⟩ | ⟨_, _, h, _⟩
  · exact absurd ha h
  · exact ⟨rfl, hb⟩
  · exact absurd hd h
theorem pay_ok (A : Option Addr) (n c : Nat) (y : Nat → Int) (w : World) (T : Nat) (hR : RZ w A n y) (hB : balB y n = true) (hp : Paid n y T) (ha : am (Yt n y T) n ≤ 0) :
    Calls Try.prog 12 #[.slice A n c] w fun e w' => ∃ A' c', e = .returned (.tuple #[.slice A' T c', .int .i64 0]) ∧ RP w' A' T (pym n y) ∧ Below w.heap.size w w' := by
  refine (pay_any A n c y w hR hB).mono ?_
  rintro e w' ⟨⟨T', A', c', rfl, h1, h2, h3, _⟩, hb⟩
  obtain rfl := paid_one h1 h2 hp ha
  exact ⟨A', c', rfl, h3, hb⟩

/-- the examples -/
def xL : Nat → Nat → Int := fun i => if i = 0 then rcX 1 0 1 50 else if i = 1 then rcX 1 1 2 30 else if i = 2 then rcX 1 2 0 5 else rcX 1 2 1 9
def xY : Nat → Int := fun i => if i = 0 then -45 else if i = 1 then 20 else 25
def xZ : Nat → Int := fun i => if i = 0 then -10 else if i = 1 then 4 else if i = 2 then -3 else 9
def xO : Nat → Int := fun _ => 1
def xA : Nat → Nat → Int := fun i j => if j = 1 then (if i = 0 then 1 else 2) else 0
def xB : Nat → Nat → Int := fun i j => if j = 1 then (if i = 0 then 1 else 2) else if j = 3 then (if i = 0 then 0 else 1) else 0
theorem wf_one {X : Nat → Nat → Int} {n : Nat} (h : ∀ i, i < n → X i 0 = 1) : ∀ i, i < n → (Lit.int .i64 (X i 0)).wf = true := fun i hi => by rw [h i hi]; rfl
theorem xL_one : ∀ n i, i < n → xL i 0 = 1 := fun n i _ => by unfold xL; split <;> (try split) <;> (try split) <;> rfl
theorem xL_all : ∀ n, allR 3 xL n := fun n i _ => by unfold xL; split <;> (try split) <;> (try split) <;> decide
theorem xL_nd : ¬ dup xL 3 := by
  rintro ⟨i, hi, j, hj, h1, h2⟩
  have : (i = 1 ∧ j = 0) ∨ (i = 2 ∧ j = 0) ∨ (i = 2 ∧ j = 1) := by omega
  rcases this with ⟨rfl, rfl⟩ | ⟨rfl, rfl⟩ | ⟨rfl, rfl⟩ <;> revert h1 <;> decide
theorem xL_d : dup xL 4 := ⟨3, by omega, 0, by omega, by decide, by decide⟩
theorem xY_bal : balB xY 3 = true := by decide
theorem xZ_bal : balB xZ 4 = true := by decide
theorem xO_bal : balB xO 1 = false := by decide
theorem xY_paid : Paid 3 xY 2 ∧ am (Yt 3 xY 2) 3 ≤ 0 := by
  obtain ⟨h1, h2, h3⟩ := balB_iff.1 xY_bal
  exact ⟨((paid_zero h2 h3).next h1.1 (by decide)).next h1.1 (by decide), by decide⟩
theorem xZ_paid : Paid 4 xZ 3 ∧ am (Yt 4 xZ 3) 4 ≤ 0 := by
  obtain ⟨h1, h2, h3⟩ := balB_iff.1 xZ_bal
  exact ⟨(((paid_zero h2 h3).next h1.1 (by decide)).next h1.1 (by decide)).next h1.1 (by decide), by decide⟩
theorem xL_get : ∀ i, i < 3 → get xL 3 i = xY i := by decide
theorem RZ.congr {w : World} {A : Option Addr} {n : Nat} {y z : Nat → Int} (h : RZ w A n y) (e : ∀ i, i < n → y i = z i) : RZ w A n z := fun i hi => by rw [← e i hi]; exact h i hi
theorem RZ_lit {w : World} {g : Nat} {cs : Array Value} {t : TypeId} {n : Nat} {z : Nat → Int} (hg : w.heap[g]? = some (.cells cs t (0, 0))) (h : ∀ i, i < n → cs[i]? = some (.int .i64 (z i))) : RZ w (some ⟨g, 0, none⟩) n z := fun i hi => by
  refine ⟨g, 0, rfl, (Array.getElem?_eq_some_iff.1 hg).1, ?_⟩
  rw [Nat.zero_add, cell_of_row w g i cs _ (0, 0) hg]
  exact h i hi
theorem RP_lit {w : World} {g : Nat} {cs : Array Value} {t : TypeId} {n : Nat} {X : Nat → Nat → Int} (hg : w.heap[g]? = some (.cells cs t (0, 0))) (h : ∀ i, i < n → cs[i * 3]? = some (.int .i64 (X i 0)) ∧ cs[i * 3 + 1]? = some (.int .i64 (X i 1)) ∧ cs[i * 3 + 2]? = some (.int .i64 (X i 2))) : RP w (some ⟨g, 0, none⟩) n X := fun i hi => by
  refine ⟨g, 0, rfl, (Array.getElem?_eq_some_iff.1 hg).1, ?_, ?_, ?_⟩ <;> rw [Nat.zero_add, cell_of_row w g _ cs _ (0, 0) hg]
  · exact (h i hi).1
  · exact (h i hi).2.1
  · exact (h i hi).2.2
theorem RG_lit {w : World} {g : Nat} {cs : Array Value} {t : TypeId} {n : Nat} {X : Nat → Nat → Int} (hg : w.heap[g]? = some (.cells cs t (0, 0))) (h : ∀ i, i < n → cs[i * 5]? = some (.int .i64 (X i 0)) ∧ cs[i * 5 + 1]? = some (.int .i64 (X i 1)) ∧ cs[i * 5 + 2]? = some (.int .i64 (X i 2)) ∧ cs[i * 5 + 3]? = some (.int .i64 (X i 3)) ∧ cs[i * 5 + 4]? = some (.int .u64 (X i 4))) : RG w (some ⟨g, 0, none⟩) n X := fun i hi => by
  refine ⟨g, 0, rfl, (Array.getElem?_eq_some_iff.1 hg).1, ?_, ?_, ?_, ?_, ?_⟩ <;> rw [Nat.zero_add, cell_of_row w g _ cs _ (0, 0) hg]
  · exact (h i hi).1
  · exact (h i hi).2.1
  · exact (h i hi).2.2.1
  · exact (h i hi).2.2.2.1
  · exact (h i hi).2.2.2.2
theorem two {P : Nat → Prop} (h0 : P 0) (h1 : P 1) : ∀ i, i < 2 → P i := fun i hi => by
  have : i = 0 ∨ i = 1 := by omega
  rcases this with rfl | rfl <;> assumption
theorem three {P : Nat → Prop} (h0 : P 0) (h1 : P 1) (h2 : P 2) : ∀ i, i < 3 → P i := fun i hi => by
  have : i = 0 ∨ i = 1 ∨ i = 2 := by omega
  rcases this with rfl | rfl | rfl <;> assumption
theorem four {P : Nat → Prop} (h0 : P 0) (h1 : P 1) (h2 : P 2) (h3 : P 3) : ∀ i, i < 4 → P i := fun i hi => by
  have : i = 0 ∨ i = 1 ∨ i = 2 ∨ i = 3 := by omega
  rcases this with rfl | rfl | rfl | rfl <;> assumption
theorem OwnR.below {W W' : World} {g l c : Nat} {f : Nat → Int} (h : OwnR W g l c f) (hb : Below W.heap.size W W') : OwnR W' g l c f := h.keep (hb.block _ h.lt)
theorem own_ne {W : World} {B g l c n cap : Nat} {f : Nat → Int} {t : TypeId} {s gl : Nat} {xs : List Value} (h : OwnR W g l c f) (h' : W.ownsRow B t s (.slice (some ⟨gl, 0, none⟩) n cap) n xs) (ht : t ≠ 3) : gl ≠ g := by
  intro e
  obtain ⟨cur, h2, _⟩ := h
  rcases h'.2 with ⟨h'', _⟩ | ⟨g', cap', cur', h'', _, hgb, _⟩
  · cases h''
  · cases h''
    rw [e, h2] at hgb
    simp at hgb
    exact ht hgb.2.symm
theorem own_new {W : World} {B : Nat} {t : TypeId} {s n : Nat} {cs : List Value} (hB : B ≤ W.heap.size) (hn : n ≤ maxLen) (hl : cs.length = n * s) : (W.alloc (.cells cs.toArray t)).ownsRow B t s (.slice (some ⟨W.heap.size, 0, none⟩) n n) n cs := by
  refine ⟨by simpa using hl, .inr ⟨W.heap.size, n, cs.toArray, rfl, hB, heap_alloc_new _ _, Nat.le_refl _, hn, by simpa using hl, ?_⟩⟩
  simp
  exact List.take_of_length_le (by omega)
end Go.Proofs.Ytflehgdhdfmacaa
