/-
  limits.Rows: what it computes, and its memory between the rounds.
-/
import Derived.Test.YtkhmlbkkdflnoaaRwm
import Derived.Test.YtkhmlbkkdflnoaaLim
import Derived.Test.YtkhmlbkkdflnoaaPlc
import Derived.Maps.OwnIn
namespace Go.Proofs.Ytkhmlbkkdflnoaa.Nm
open Go.RowKit Go.Shelf Go.Proofs.Ytkhmlbkkdflnoaa Go
set_option linter.unusedVariables false
set_option linter.unusedSimpArgs false

theorem snoc_ind {P : List Nat → Prop} (h0 : P []) (h1 : ∀ pre x, P pre → P (pre ++ [x])) (l : List Nat) : P l := by
  have h : ∀ l : List Nat, P l.reverse := by
    intro l
    induction l with
    | nil => simpa using h0
    | cons x l ih => simpa using h1 _ x ih
  simpa using h l.reverse
/-- one place more -/
def mb (S : Sit) (b : List Nat) (p : Nat) : List Nat := b.filter fun i => onPh (S.Z 3 i 2) p
def nb (S : Sit) (b : List Nat) (k : Nat) : List Nat := if k % 3 = 0 then bl S (k / 3) else b
def stp (S : Sit) (st : List (Int × List Nat) × List Nat) (x : Nat) : List (Int × List Nat) × List Nat :=
  (if (mb S (nb S st.2 (clP (S.n 0) x)) (clP (S.n 0) x % 3)).length = 0 then st.1 else st.1 ++ [(capZ (S.Z 0 (clP (S.n 0) x / 3)), mb S (nb S st.2 (clP (S.n 0) x)) (clP (S.n 0) x % 3))], nb S st.2 (clP (S.n 0) x))
def sts (S : Sit) (pre : List Nat) : List (Int × List Nat) × List Nat := pre.foldl (stp S) ([], [])
theorem sts_snoc (S : Sit) (pre : List Nat) (x : Nat) : sts S (pre ++ [x]) = stp S (sts S pre) x := by simp [sts, List.foldl_append]
/-- the rows of a site -/
def rowsL (S : Sit) : List (Int × List Nat) := (sts S (List.range (3 * S.n 0))).1
theorem sts_len (S : Sit) (pre : List Nat) : (sts S pre).1.length ≤ pre.length := by
  induction pre using snoc_ind with
  | h0 => simp [sts]
  | h1 pre x ih =>
    rw [sts_snoc]
    unfold stp
    simp only [List.length_append, List.length_cons, List.length_nil]
    split
    · omega
    · simp; omega
/-- a list below n, ascending -/
def AsB (n : Nat) (l : List Nat) : Prop := l.Pairwise (· < ·) ∧ (∀ i ∈ l, i < n) ∧ l.length ≤ n
theorem AsB.filter {n : Nat} {l : List Nat} (h : AsB n l) (p : Nat → Bool) : AsB n (l.filter p) := ⟨h.1.filter _, fun i hi => h.2.1 i (List.mem_filter.1 hi).1, Nat.le_trans (List.length_filter_le _ _) h.2.2⟩
theorem bl_asb (S : Sit) (k : Nat) : AsB (S.n 3) (bl S k) := AsB.filter ⟨by exact List.pairwise_lt_range, fun i hi => List.mem_range.1 hi, by simp⟩ _
theorem sts_asb (S : Sit) (pre : List Nat) : AsB (S.n 3) (sts S pre).2 ∧ ∀ r ∈ (sts S pre).1, AsB (S.n 3) r.2 := by
  induction pre using snoc_ind with
  | h0 => exact ⟨⟨List.Pairwise.nil, by simp [sts], by simp [sts]⟩, by simp [sts]⟩
  | h1 pre x ih =>
    rw [sts_snoc]
    have h2 : AsB (S.n 3) (nb S (sts S pre).2 (clP (S.n 0) x)) := by
      unfold nb
      split
      · exact bl_asb S _
      · exact ih.1
    refine ⟨h2, fun r hr => ?_⟩
    unfold stp at hr
    simp only at hr
    split at hr
    · exact ih.2 r hr
    · simp only [List.mem_append, List.mem_singleton] at hr
      rcases hr with hr | rfl
      · exact ih.2 r hr
      · exact h2.filter _
theorem sts_cap (S : Sit) (hc : ∀ k, k < S.n 0 → 0 ≤ capZ (S.Z 0 k) ∧ capZ (S.Z 0 k) ≤ 1000) (hn : 1 ≤ S.n 0) (pre : List Nat) : ∀ r ∈ (sts S pre).1, 0 ≤ r.1 ∧ r.1 ≤ 1000 := by
  induction pre using snoc_ind with
  | h0 => simp [sts]
  | h1 pre x ih =>
    rw [sts_snoc]
    intro r hr
    unfold stp at hr
    simp only at hr
    split at hr
    · exact ih r hr
    · simp only [List.mem_append, List.mem_singleton] at hr
      rcases hr with hr | rfl
      · exact ih r hr
      · refine hc _ ?_
        unfold clP
        split <;> omega
theorem rowsL_ok (S : Sit) (hc : ∀ k, k < S.n 0 → 0 ≤ capZ (S.Z 0 k) ∧ capZ (S.Z 0 k) ≤ 1000) (hn : 1 ≤ S.n 0) (h16 : S.n 0 ≤ 16) (h3 : S.n 3 ≤ 16) : (rowsL S).length ≤ 48 ∧ ∀ i, i < (rowsL S).length → RowP (S.n 3) ((rowsL S).getD i (0, [])) := by
  constructor
  · have := sts_len S (List.range (3 * S.n 0))
    rw [List.length_range] at this
    unfold rowsL
    omega
  · intro i hi
    have e : (rowsL S).getD i (0, []) = (rowsL S)[i] := by simp [List.getD, hi]
    have hm : (rowsL S)[i] ∈ (sts S (List.range (3 * S.n 0))).1 := List.getElem_mem hi
    rw [e]
    obtain ⟨a1, a2, a3⟩ := (sts_asb S (List.range (3 * S.n 0))).2 _ hm
    refine ⟨sts_cap S hc hn _ _ hm, by omega, asc_of a1, fun k hk => a2 _ ?_⟩
    simp [List.getD, hk]
/-! memory -/
abbrev Rec := (Int × List Nat) × Option Addr × Nat
def flatR (ys : List Rec) : List Value := ys.flatMap fun y => [Value.int .i64 y.1.1, .slice y.2.1 y.1.2.length y.2.2]
theorem flatR_len (ys : List Rec) : (flatR ys).length = ys.length * 2 := by
  induction ys with
  | nil => rfl
  | cons y ys ih => simp only [flatR, List.flatMap_cons, List.length_append, List.length_cons, List.length_nil] at ih ⊢; omega
theorem flatR_snoc (ys : List Rec) (y : Rec) : flatR (ys ++ [y]) = flatR ys ++ [Value.int .i64 y.1.1, .slice y.2.1 y.1.2.length y.2.2] := by simp [flatR, List.flatMap_append]
theorem flatR_get (ys : List Rec) : ∀ i (h : i < ys.length), (flatR ys)[i * 2]? = some (Value.int .i64 ys[i].1.1) ∧ (flatR ys)[i * 2 + 1]? = some (.slice ys[i].2.1 ys[i].1.2.length ys[i].2.2) := by
  induction ys with
  | nil => intro i h; simp at h
  | cons y ys ih =>
    intro i h
    cases i with
    | zero => simp [flatR]
    | succ i =>
      have := ih i (by simpa using h)
      rw [show (i + 1) * 2 = i * 2 + 1 + 1 by omega]
      simpa [flatR] using this
/-- a list in memory, from block B on and apart from block N -/
def LA (W : World) (B : Nat) (N : Option Nat) (A : Option Addr) (c : Nat) (l : List Nat) : Prop := (l.length ≤ c ∧ c ≤ 9223372036854775807) ∧ RZ W A l.length (fun i => ((l.getD i 0 : Nat) : Int)) ∧ ∀ b o, A = some ⟨b, o, none⟩ → 0 < l.length → B ≤ b ∧ N ≠ some b
theorem LA.exc {W W' : World} {P : Nat → Prop} {B : Nat} {N : Option Nat} {A : Option Addr} {c : Nat} {l : List Nat} (h : LA W B N A c l) (he : Exc P W W') (hP : ∀ k, P k → k < B) : LA W' B N A c l :=
  ⟨h.1, fun i hi => by
    obtain ⟨b, o, e, hl, hc⟩ := h.2.1 i hi
    have h1 := h.2.2 b o e (by omega)
    exact ⟨b, o, e, Nat.lt_of_lt_of_le hl he.size, he.cell hc (fun hp => by have := hP b hp; omega)⟩, h.2.2⟩
theorem LA.keep {W W' : World} {B : Nat} {N : Option Nat} {A : Option Addr} {c : Nat} {l : List Nat} (h : LA W B N A c l) (hb : Below W.heap.size W W') : LA W' B N A c l := ⟨h.1, h.2.1.keep hb, h.2.2⟩
theorem LA.kept {W W' : World} {row : Option Nat} {B : Nat} {N : Option Nat} {A : Option Addr} {c : Nat} {l : List Nat} (h : LA W B N A c l) (hg : W.grownBy W' row) (hr : ∀ r, row = some r → ∃ o : Obj, W.heap[r]? = some o ∧ o.isCells = false) : LA W' B N A c l :=
  ⟨h.1, fun i hi => by
    obtain ⟨b, o, e, hl, hc⟩ := h.2.1 i hi
    exact ⟨b, o, e, Nat.lt_of_lt_of_le hl hg.size, cell_kept hc hg hr⟩, h.2.2⟩
theorem LA.app {W w1 : World} {B Br : Nat} {v v' : Value} {tmp : Obj} {A : Option Addr} {c : Nat} {l : List Nat} (h : LA W B v.ownBlock A c l) (hB : Br < B) (hg : (W.alloc tmp).grownBy w1 v.ownBlock) (hat : v'.ownBlock = v.ownBlock ∨ v'.ownBlock = some (W.alloc tmp).heap.size) (u : Value) : LA (w1.setCell ⟨Br, 0, none⟩ u) B v'.ownBlock A c l := by
  refine ⟨h.1, fun i hi => ?_, fun b o e hn => ⟨(h.2.2 b o e hn).1, ?_⟩⟩
  · obtain ⟨b, o, e, hl, hc⟩ := h.2.1 i hi
    have h1 := h.2.2 b o e (by omega)
    have hl' : b < (W.alloc tmp).heap.size := by rw [World.size_alloc]; omega
    refine ⟨b, o, e, ?_, ?_⟩
    · have := hg.size
      have : (w1.setCell ⟨Br, 0, none⟩ u).heap.size = w1.heap.size := by simp [World.setCell]
      omega
    · rw [World.cell?_of_block (w := w1) (Below.heap_setCell _ ⟨Br, 0, none⟩ _ b (by simp; omega)), World.cell?_of_block (w := W.alloc tmp) (hg.block b hl' (fun e' => h1.2 e'.symm)), World.cell?_of_block (w := W) (Below.heap_alloc _ _ _ hl)]
      exact hc
  · intro e'
    rcases hat with h2 | h2
    · rw [h2] at e'; exact (h.2.2 b o e hn).2 e'
    · rw [h2] at e'
      cases e'
      obtain ⟨b', o', e2, hl, _⟩ := h.2.1 0 hn
      rw [e] at e2
      cases e2
      rw [World.size_alloc] at hl
      omega
/-- the rows so far -/
def ST (Br : Nat) (v : Value) (L : List (Int × List Nat)) (W : World) : Prop :=
  ∃ ys : List Rec, Boxed W Br 86 v ∧ W.ownsRow (Br + 3) 167 2 v ys.length (flatR ys) ∧ ys.map (·.1) = L ∧ ∀ y ∈ ys, LA W (Br + 3) v.ownBlock y.2.1 y.2.2 y.1.2
def BT (Br : Nat) (v : Value) (l : List Nat) (W : World) : Prop := ∃ A c, Boxed W (Br + 1) 46 (.slice A l.length c) ∧ LA W (Br + 3) v.ownBlock A c l
theorem box_exc {P : Nat → Prop} {W W' : World} {B : Nat} {t : TypeId} {v : Value} (h : Boxed W B t v) (he : Exc P W W') (hP : ¬ P B) : Boxed W' B t v := (he.block B h.lt hP).trans h
theorem own_exc {P : Nat → Prop} {W W' : World} {B : Nat} {t : TypeId} {s n : Nat} {v : Value} {xs : List Value} (h : W.ownsRow B t s v n xs) (he : Exc P W W') (hP : ∀ k, P k → k < B) : W'.ownsRow B t s v n xs := own_at h fun g hg hl => he.block g hl (fun hp => by have := hP g hp; omega)
theorem ST.exc {Br : Nat} {v : Value} {L : List (Int × List Nat)} {W W' : World} (h : ST Br v L W) (he : Exc (fun k => k = Br + 1) W W') : ST Br v L W' := by
  obtain ⟨ys, h1, h2, h3, h4⟩ := h
  exact ⟨ys, box_exc h1 he (by omega), own_exc h2 he (fun k e => by omega), h3, fun y hy => (h4 y hy).exc he (fun k e => by omega)⟩
theorem ST.keep {Br : Nat} {v : Value} {L : List (Int × List Nat)} {W W' : World} (h : ST Br v L W) (hb : Below W.heap.size W W') : ST Br v L W' := h.exc (Exc.of_below hb)
theorem BT.keep {Br : Nat} {v : Value} {l : List Nat} {W W' : World} (h : BT Br v l W) (hb : Below W.heap.size W W') : BT Br v l W' := by
  obtain ⟨A, c, h1, h2⟩ := h
  exact ⟨A, c, (hb.block _ h1.lt).trans h1, h2.keep hb⟩
theorem ST.kept {Br n : Nat} {v : Value} {L : List (Int × List Nat)} {W W' : World} {row : Option Nat} (h : ST Br v L W) (hg : W.grownBy W' row) (hr : ∀ r, row = some r → n ≤ r ∧ ∃ o : Obj, W.heap[r]? = some o ∧ o.isCells = false) (hn : Br + 3 ≤ n) : ST Br v L W' := by
  obtain ⟨ys, x0, x1, x2, x3⟩ := h
  refine ⟨ys, kept_low hg hr (by omega) x0, x1.kept hg ?_, x2, fun y hy => (x3 y hy).kept hg fun r e => (hr r e).2⟩
  by_cases h : v.ownBlock = none
  · exact .inl h
  · refine .inr fun e => ?_
    obtain ⟨k, hk⟩ : ∃ k, v.ownBlock = some k := Option.ne_none_iff_exists'.1 h
    obtain ⟨o, ho, hc⟩ := (hr k (e.symm.trans hk)).2
    rcases x1.2 with ⟨rfl, _⟩ | ⟨g', cap', cur, rfl, _, hgb, _⟩
    · simp [Value.ownBlock] at hk
    · have : g' = k := by simpa [Value.ownBlock] using hk
      subst this
      rw [hgb] at ho
      cases ho
      cases hc
theorem BT.kept {Br n : Nat} {v : Value} {l : List Nat} {W W' : World} {row : Option Nat} (h : BT Br v l W) (hg : W.grownBy W' row) (hr : ∀ r, row = some r → n ≤ r ∧ ∃ o : Obj, W.heap[r]? = some o ∧ o.isCells = false) (hn : Br + 3 ≤ n) : BT Br v l W' := by
  obtain ⟨A, c, h1, h2⟩ := h
  exact ⟨A, c, kept_low hg hr (by omega) h1, h2.kept hg fun r e => (hr r e).2⟩
theorem ST.app {Br : Nat} {v v' : Value} {L : List (Int × List Nat)} {W w1 : World} {tmp : Obj} {ys : List Rec} {r : Int × List Nat} {A : Option Addr} {c : Nat}
    (h1 : Boxed W Br 86 v) (h2 : W.ownsRow (Br + 3) 167 2 v ys.length (flatR ys)) (h3 : ys.map (·.1) = L) (h4 : ∀ y ∈ ys, LA W (Br + 3) v.ownBlock y.2.1 y.2.2 y.1.2) (hm : LA W (Br + 3) v.ownBlock A c r.2)
    (hown : w1.ownsRow (Br + 3) 167 2 v' (ys.length + 1) (flatR ys ++ [.int .i64 r.1, .slice A r.2.length c])) (hg : (W.alloc tmp).grownBy w1 v.ownBlock) (hat : v'.ownBlock = v.ownBlock ∨ v'.ownBlock = some (W.alloc tmp).heap.size) :
    ST Br v' (L ++ [r]) (w1.setCell ⟨Br, 0, none⟩ v') := by
  have hv1 : Boxed w1 Br 86 v := (h1.alloc tmp).kept hg (h1.not_row (by decide) h2)
  refine ⟨ys ++ [(r, A, c)], hv1.set v', ?_, by simp [h3], fun y hy => ?_⟩
  · rw [flatR_snoc, List.length_append]
    exact hown.kept (grownBy_setCell' w1 Br v') (.inr (hv1.not_row (by decide) hown).symm)
  · simp only [List.mem_append, List.mem_singleton] at hy
    rcases hy with hy | rfl
    · exact (h4 y hy).app (by omega) hg hat v'
    · exact hm.app (by omega) hg hat v'
theorem BT.app {Br : Nat} {v v' : Value} {l : List Nat} {W w1 : World} {tmp : Obj} (h : BT Br v l W) (hv : ∀ g, v.ownBlock = some g → Br + 3 ≤ g) (hg : (W.alloc tmp).grownBy w1 v.ownBlock) (hat : v'.ownBlock = v.ownBlock ∨ v'.ownBlock = some (W.alloc tmp).heap.size) : BT Br v' l (w1.setCell ⟨Br, 0, none⟩ v') := by
  obtain ⟨A, c, h1, h2⟩ := h
  refine ⟨A, c, ?_, h2.app (by omega) hg hat v'⟩
  have h3 : Boxed w1 (Br + 1) 46 (.slice A l.length c) := (h1.alloc tmp).kept hg (fun e => by have := hv _ e.symm; omega)
  exact (Below.heap_setCell _ ⟨Br, 0, none⟩ _ (Br + 1) (by simp)).trans h3
theorem ST.rw {Br : Nat} {v : Value} {L : List (Int × List Nat)} {W : World} (h : ST Br v L W) : ∃ A c, v = .slice A L.length c ∧ RW W A L := by
  obtain ⟨ys, _, h2, h3, h4⟩ := h
  obtain ⟨A, c, rfl, hc, hn, hs⟩ := own_form h2
  have hlen : L.length = ys.length := by rw [← h3]; simp
  refine ⟨A, c, by rw [hlen], fun i hi => ?_⟩
  have hi' : i < ys.length := by omega
  cases A with
  | none => have := (hn rfl).1; omega
  | some a =>
    obtain ⟨g, rfl⟩ := hs a rfl
    have e : L.getD i (0, []) = ys[i].1 := by subst h3; simp [List.getD, hi']
    rw [e]
    obtain ⟨g1, g2⟩ := flatR_get ys i hi'
    have hm := h4 _ (List.getElem_mem hi')
    refine ⟨g, 0, rfl, (h2.lt g rfl).2, ?_, ys[i].2.1, ys[i].2.2, ?_, hm.1, hm.2.1⟩
    · rw [Nat.zero_add, h2.cellAt _ (by omega)]; exact g1
    · rw [Nat.zero_add, h2.cellAt _ (by omega)]; exact g2
/-- what holds between the rounds -/
def OI (S : Sit) (Br : Nat) (w : World) (pre : List Nat) (W : World) : Prop := ∃ v, ST Br v (sts S pre).1 W ∧ BT Br v (sts S pre).2 W ∧ Below Br w W ∧ Br + 3 ≤ W.heap.size
theorem OI.own (S : Sit) (Br : Nat) (w : World) (n : Nat) (hn : Br + 3 ≤ n) : OwnFrom n (OI S Br w) := by
  rintro s A B row ⟨v, x0, x1, x2, x3⟩ hg hr
  exact ⟨v, x0.kept hg hr hn, x1.kept hg hr hn, x2.trans ⟨hg.os, hg.tape, hg.output, hg.size, fun k hk => hg.block k (by omega) (fun e => by have := (hr k e.symm).1; omega)⟩, Nat.le_trans x3 hg.size⟩
/-- behind the assignment: the place lies in block B8 -/
def OA (S : Sit) (Br : Nat) (w : World) (pre : List Nat) (x B8 : Nat) (W : World) : Prop :=
  W.heap[B8]? = some (.cells #[.int .i64 ((clP (S.n 0) x / 3 : Nat) : Int), .int .i64 ((clP (S.n 0) x % 3 : Nat) : Int)] 162 (0, 0)) ∧ OI S Br w pre W ∧ Br + 3 ≤ B8
theorem OA.own (S : Sit) (Br : Nat) (w : World) (x B8 : Nat) (n : Nat) (hn : Br + 3 ≤ n) : OwnFrom n (fun pre => OA S Br w pre x B8) := by
  rintro s A' B row ⟨h2, h3, h4⟩ hg hr
  refine ⟨?_, OI.own S Br w n hn s A' B row h3 hg hr, h4⟩
  refine (hg.block B8 (Array.getElem?_eq_some_iff.1 h2).1 (fun e => ?_)).trans h2
  obtain ⟨o, ho, hc⟩ := (hr B8 e.symm).2
  rw [h2] at ho
  cases ho
  cases hc
end Go.Proofs.Ytkhmlbkkdflnoaa.Nm
