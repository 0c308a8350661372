/-
  MEMORY of package lexer: rows of tokens.
-/
import Derived.Test.YtkmjflkodckflaaWalks
namespace Go.Proofs.Ytkmjflkodckflaa
open Go.RowKit
set_option linter.unusedVariables false

theorem bel_alloc {a w : World} (h : Below a.heap.size a w) (o : Obj) : Below a.heap.size a (w.alloc o) := h.alloc h.size o
theorem bel_step {w0 w w' : World} (h : Below w0.heap.size w0 w) (hb : Below w.heap.size w w') : Below w0.heap.size w0 w' := h.trans (hb.mono h.size)
theorem bel_a (w : World) (o : Obj) : Below w.heap.size w (w.alloc o) := bel_alloc (Below.refl _ _) o
theorem below_drewN {B : Nat} {a w : World} (h : Below B a w) (n : Nat) : Below B a (w.drewN n) := ⟨h.os, h.tape, h.output, h.size, h.block⟩
theorem old_at {w w' : World} {q : Addr} {v : Value} (h : w.cell? q = some v) (hb : Below w.heap.size w w') : w'.cell? q = some v := (hb.cell (World.block_lt_of_cell? w q h)).trans h
theorem all_snoc {P : Nat → Prop} {k : Nat} (h : ∀ j, j < k → P j) (hk : P k) : ∀ j, j < k + 1 → P j := fun j hj => by
  rcases Nat.lt_or_ge j k with h' | h'
  · exact h j h'
  · obtain rfl : j = k := by omega
    exact hk
theorem not_true {b : Bool} (h : b = true → False) : b = false := by cases b <;> simp_all

/-- the cells cs lie at A -/
def RL (w : World) (A : Option Addr) (cs : List Value) : Prop := ∀ j v, cs[j]? = some v → ∃ b o, A = some ⟨b, o, none⟩ ∧ b < w.heap.size ∧ w.cell? ⟨b, o + j, none⟩ = some v
theorem RL.keep {w w' : World} {A : Option Addr} {cs : List Value} (x : RL w A cs) (hb : Below w.heap.size w w') : RL w' A cs := fun j v hv => by
  obtain ⟨b, o, e, hl, hc⟩ := x j v hv
  exact ⟨b, o, e, Nat.lt_of_lt_of_le hl hb.size, old_at hc hb⟩
theorem RL_nil {w : World} {A : Option Addr} : RL w A [] := fun j v hv => by simp at hv
/-- block g holds these cells, and no more -/
def OW (w : World) (g : Nat) (t : TypeId) (cs : List Value) : Prop := w.heap[g]? = some (.cells cs.toArray t (0, 0))
theorem OW.lt {w : World} {g : Nat} {t : TypeId} {cs : List Value} (h : OW w g t cs) : g < w.heap.size := (Array.getElem?_eq_some_iff.1 h).1
theorem OW.keep {w w' : World} {g : Nat} {t : TypeId} {cs : List Value} (h : OW w g t cs) (hb : Below w.heap.size w w') : OW w' g t cs := (hb.block _ h.lt).trans h
theorem OW.at {w : World} {g : Nat} {t : TypeId} {cs : List Value} (h : OW w g t cs) {j : Nat} {v : Value} (hv : cs[j]? = some v) : w.cell? ⟨g, j, none⟩ = some v := by
  rw [cell_of_row w g j cs.toArray t (0, 0) h]; simpa using hv
theorem OW.thaw {w : World} {g : Nat} {t : TypeId} {cs : List Value} (h : OW w g t cs) (j : Nat) : w.frozen? ⟨g, j, none⟩ = false := by
  have h' : w.heap[g]? = some (.cells cs.toArray t (0, 0)) := h
  simp [World.frozen?, h']
theorem OW.rl {w : World} {g : Nat} {t : TypeId} {cs : List Value} (h : OW w g t cs) : RL w (some ⟨g, 0, none⟩) cs := fun j v hv => ⟨g, 0, rfl, h.lt, by rw [Nat.zero_add]; exact h.at hv⟩
theorem OW.drop {w : World} {g : Nat} {t : TypeId} {cs : List Value} (h : OW w g t cs) (k : Nat) : RL w (some ⟨g, k, none⟩) (cs.drop k) := fun j v hv => by
  refine ⟨g, k, rfl, h.lt, h.at ?_⟩
  simpa using hv
theorem OW.new (w : World) (t : TypeId) (cs : List Value) : OW (w.alloc (.cells cs.toArray t)) w.heap.size t cs := heap_alloc_new _ _
theorem OW.set {w : World} {g : Nat} {t : TypeId} {cs : List Value} (h : OW w g t cs) (j : Nat) (v : Value) : OW (w.setCell ⟨g, j, none⟩ v) g t (cs.set j v) := by
  have h' : w.heap[g]? = some (.cells cs.toArray t (0, 0)) := h
  show _ = _
  simp [World.setCell, Array.getElem?_modify, h']
theorem OW.far {w : World} {g : Nat} {t : TypeId} {cs : List Value} (h : OW w g t cs) {b : Nat} (hb : b ≠ g) (j : Nat) (v : Value) : OW (w.setCell ⟨b, j, none⟩ v) g t cs := by
  have : (w.setCell ⟨b, j, none⟩ v).heap[g]? = w.heap[g]? := Below.heap_setCell w ⟨b, j, none⟩ v g (fun e => hb e.symm)
  exact this.trans h

theorem RL.take {w : World} {A : Option Addr} {cs : List Value} (x : RL w A cs) (k : Nat) : RL w A (cs.take k) := fun j v hv => by
  rw [List.getElem?_take] at hv
  split at hv
  · exact x j v hv
  · cases hv

theorem own_below {W W' : World} {B : Nat} {t : TypeId} {s n : Nat} {v : Value} {xs : List Value} (h : W.ownsRow B t s v n xs) (hb : Below W.heap.size W W') : W'.ownsRow B t s v n xs := by
  refine ⟨h.1, ?_⟩
  rcases h.2 with h' | ⟨g, cap, cur, h1, h2, h3, h4⟩
  · exact .inl h'
  · exact .inr ⟨g, cap, cur, h1, h2, (hb.block g (Array.getElem?_eq_some_iff.1 h3).1).trans h3, h4⟩
theorem own_ge {w : World} {base : Nat} {e : TypeId} {size : Nat} {v : Value} {n : Nat} {xs : List Value} (h : w.ownsRow base e size v n xs) : ∀ g, v.ownBlock = some g → base ≤ g := fun g hg => (h.lt g hg).1
theorem own_form {W : World} {B : Nat} {t : TypeId} {s n : Nat} {v : Value} {xs : List Value} (h : W.ownsRow B t s v n xs) : ∃ A c, v = .slice A n c ∧ (n ≤ c ∧ c ≤ 9223372036854775807) ∧ (A = none → n = 0 ∧ c = 0) := by
  rcases h.2 with ⟨h', h''⟩ | ⟨g', cap', cur, h', _, _, h1, h2, _⟩
  · exact ⟨none, 0, by rw [h', h''], by omega, fun _ => ⟨h'', rfl⟩⟩
  · exact ⟨_, cap', h', by unfold maxLen at h2; omega, fun e => (by cases e)⟩
theorem own_rl {W : World} {B : Nat} {t : TypeId} {s n m c : Nat} {A : Option Addr} {xs : List Value} (h : W.ownsRow B t s (.slice A m c) n xs) : RL W A xs := by
  intro j v hv
  have hj := (List.getElem?_eq_some_iff.1 hv).1
  rcases h.2 with ⟨h', h''⟩ | ⟨g, cap, cur, h', h1, h2, h3, h4, h5, h6⟩
  · have := h.1; rw [h''] at this; omega
  · injection h' with e1 e2 e3
    subst e1
    refine ⟨g, 0, rfl, (Array.getElem?_eq_some_iff.1 h2).1, ?_⟩
    rw [Nat.zero_add, cell_of_row W g j cur t (0, 0) h2, ← Array.getElem?_toList]
    rw [← h6, List.getElem?_take] at hv
    split at hv
    · exact hv
    · cases hv
theorem OW.new1 (w : World) (o : Obj) (t : TypeId) (cs : List Value) : OW ((w.alloc o).alloc (.cells cs.toArray t)) (w.heap.size + 1) t cs := by
  have h := OW.new (w.alloc o) t cs
  rw [World.size_alloc] at h
  exact h
theorem OW.new2 (w : World) (o o' : Obj) (t : TypeId) (cs : List Value) : OW (((w.alloc o).alloc o').alloc (.cells cs.toArray t)) (w.heap.size + 1 + 1) t cs := by
  have h := OW.new1 (w.alloc o) o' t cs
  rw [World.size_alloc] at h
  exact h
theorem OW.new3 (w : World) (o o' o'' : Obj) (t : TypeId) (cs : List Value) : OW ((((w.alloc o).alloc o').alloc o'').alloc (.cells cs.toArray t)) (w.heap.size + 1 + 1 + 1) t cs := by
  have h := OW.new2 (w.alloc o) o' o'' t cs
  rw [World.size_alloc] at h
  exact h
theorem OW.alloc {w : World} {g : Nat} {t : TypeId} {cs : List Value} (h : OW w g t cs) (o : Obj) : OW (w.alloc o) g t cs := h.keep (bel_a w o)


/-- tokens as cells -/
def cK : List Tok → List Value
  | [] => []
  | t :: l => .int .i64 t.1 :: .string (ba t.2.1) :: .int .i64 t.2.2.1 :: .int .i64 (t.2.2.2 : Int) :: cK l
def ck1 (t : Tok) : List Value := [.int .i64 t.1, .string (ba t.2.1), .int .i64 t.2.2.1, .int .i64 (t.2.2.2 : Int)]
theorem cK_len (l : List Tok) : (cK l).length = l.length * 4 := by
  induction l with
  | nil => rfl
  | cons p l ih => simp [cK, ih]; omega
theorem cK_app (l m : List Tok) : cK (l ++ m) = cK l ++ cK m := by
  induction l with
  | nil => rfl
  | cons p l ih => simp [cK, ih]
theorem cK_snoc (l : List Tok) (t : Tok) : cK l ++ ck1 t = cK (l ++ [t]) := by rw [cK_app]; rfl
theorem ck1_one (t : Tok) : ∀ u ∈ ck1 t, u.oneCell' = true := by
  intro u hu
  simp only [ck1, List.mem_cons, List.not_mem_nil, or_false] at hu
  rcases hu with rfl | rfl | rfl | rfl <;> rfl
def atK (l : List Tok) (i : Nat) : Tok := l.getD i (0, [], 0, 0)
theorem atK_get {l : List Tok} {i : Nat} (h : i < l.length) : l[i]? = some (atK l i) := by simp [atK, List.getD_eq_getElem?_getD, h]
theorem cK_get : ∀ {l : List Tok} {i : Nat} {p : Tok}, l[i]? = some p → (cK l)[i * 4]? = some (.int .i64 p.1) ∧ (cK l)[i * 4 + 1]? = some (.string (ba p.2.1)) ∧ (cK l)[i * 4 + 2]? = some (.int .i64 p.2.2.1) ∧ (cK l)[i * 4 + 3]? = some (.int .i64 (p.2.2.2 : Int)) := by
  intro l
  induction l with
  | nil => intro i p h; simp at h
  | cons q l ih =>
    intro i p h
    cases i with
    | zero => simp at h; subst h; exact ⟨rfl, rfl, rfl, rfl⟩
    | succ i =>
      have h' : l[i]? = some p := by simpa using h
      obtain ⟨h1, h2, h3, h4⟩ := ih h'
      rw [show (i + 1) * 4 = i * 4 + 1 + 1 + 1 + 1 by omega]
      exact ⟨by simpa [cK] using h1, by simpa [cK] using h2, by simpa [cK] using h3, by simpa [cK] using h4⟩
theorem RL.k {w : World} {A : Option Addr} {l : List Tok} (x : RL w A (cK l)) {i : Nat} (h : i < l.length) : ∃ b o, A = some ⟨b, o, none⟩ ∧ b < w.heap.size ∧ w.cell? ⟨b, o + i * 4, none⟩ = some (.int .i64 (atK l i).1) ∧ w.cell? ⟨b, o + i * 4 + 1, none⟩ = some (.string (ba (atK l i).2.1)) ∧ w.cell? ⟨b, o + i * 4 + 2, none⟩ = some (.int .i64 (atK l i).2.2.1) ∧ w.cell? ⟨b, o + i * 4 + 3, none⟩ = some (.int .i64 ((atK l i).2.2.2 : Int)) := by
  obtain ⟨h1, h2, h3, h4⟩ := cK_get (atK_get h)
  obtain ⟨b, o, e, hl, hc⟩ := x _ _ h1
  obtain ⟨b', o', e', _, hc'⟩ := x _ _ h2
  obtain ⟨b2, o2, e2, _, hc2⟩ := x _ _ h3
  obtain ⟨b3, o3, e3, _, hc3⟩ := x _ _ h4
  subst e
  cases e'
  cases e2
  cases e3
  exact ⟨b, o, rfl, hl, hc, hc', hc2, hc3⟩
theorem cell4 {W : World} {b : Nat} {t : TypeId} {x0 x1 x2 x3 : Value} (h : OW W b t [x0, x1, x2, x3]) : W.cell? ⟨b, 0, none⟩ = some x0 ∧ W.cell? ⟨b, 1, none⟩ = some x1 ∧ W.cell? ⟨b, 2, none⟩ = some x2 ∧ W.cell? ⟨b, 3, none⟩ = some x3 := ⟨h.at rfl, h.at rfl, h.at rfl, h.at rfl⟩
theorem infoTok : (Try.prog.info? 30).map (fun i => (i.zero, i.size, i.bytes)) = some (some (.agg #[.int .i64 0, .string (ba []), .int .i64 0, .int .i64 0]), 4, 40) := by kernel_rfl
end Go.Proofs.Ytkmjflkodckflaa
