/-
  THE PLAIN LAW of messages that arrive; a set of numbers as a map.
-/
import Derived.Test.YtkhmlbkkdflnoaaHubr
import Derived.Test.YtkhmlbkkdflnoaaNet
namespace Go.Proofs.Ytkhmlbkkdflnoaa.Hb
open Go.RowKit Go.Maps
set_option linter.unusedVariables false
set_option linter.unusedSimpArgs false

theorem isW_iff {N : Int} {q : Nat} {f : Nat → Int} (h : Wt N q f) {m : Int} : isW f m q = true ↔ ∃ i, i < q ∧ f i = m := by
  constructor
  · intro e
    have : pl f m q < q ∧ f (pl f m q) = m := by simpa [isW] using e
    exact ⟨_, this⟩
  · rintro ⟨i, hi, e⟩
    have h1 : pl f m q ≤ i := by
      rcases Nat.lt_or_ge i (pl f m q) with h' | h'
      · have := pl_lo h'; omega
      · exact h'
    have h2 : pl f m q < q := by omega
    have h3 := pl_hi h (Nat.le_refl _) h2
    have h4 : f (pl f m q) = m := by
      rcases Nat.lt_or_ge (pl f m q) i with h' | h'
      · have := h.2.2.2 _ i h' hi; omega
      · have : pl f m q = i := by omega
        rw [this]; exact e
    simp [isW, h2, h4]
/-- the messages that came: handed over (T), waiting (f), all (S) -/
def ST (n T q : Nat) (f : Nat → Int) (S : List Nat) : Prop :=
  T ≤ n ∧ Wt ((T : Int) + 1) q f ∧ (∀ i, i < q → f i ≤ n) ∧ S.length = T + q ∧ ∀ k, k < n → (k ∈ S ↔ k < T ∨ ∃ i, i < q ∧ f i = (k : Int) + 1)
theorem ST.start {n : Nat} {f : Nat → Int} : ST n 0 0 f [] := ⟨Nat.zero_le _, ⟨by omega, by omega, fun i hi => by omega, fun i j _ hj => by omega⟩, fun i hi => by omega, rfl, fun k hk => by simp⟩
theorem ST.low {n T q : Nat} {f : Nat → Int} {S : List Nat} (h : ST n T q f S) : ∀ i, i < q → (T : Int) + 2 + i ≤ f i := by
  intro i
  induction i with
  | zero => intro hi; have := (h.2.1.2.2.1 0 hi).1; simp; omega
  | succ i ih =>
    intro hi
    have h1 := ih (by omega)
    have h2 := h.2.1.2.2.2 i (i + 1) (by omega) hi
    push_cast
    omega
theorem ST.few {n T q : Nat} {f : Nat → Int} {S : List Nat} (h : ST n T q f S) : T = n ∧ q = 0 ∨ T + q < n := by
  rcases Nat.eq_zero_or_pos q with e | e
  · have := h.1
    omega
  · have h1 := h.low (q - 1) (by omega)
    have h2 := h.2.2.1 (q - 1) (by omega)
    omega
theorem ST.full {n T q : Nat} {f : Nat → Int} {S : List Nat} (h : ST n T q f S) (hn : n ≤ S.length) : T = n := by
  have := h.few
  have := h.2.2.2.1
  omega
theorem ST.old {n T q k : Nat} {f : Nat → Int} {S : List Nat} (h : ST n T q f S) (hk : k < n) : k ∈ S ↔ ((k : Int) + 1 < (T : Int) + 1 ∨ isW f ((k : Int) + 1) q = true) := by
  rw [h.2.2.2.2 k hk, isW_iff h.2.1]
  constructor
  · rintro (h1 | h1)
    · exact .inl (by omega)
    · exact .inr h1
  · rintro (h1 | h1)
    · exact .inl (by omega)
    · exact .inr h1
theorem ST.wait {n T q k : Nat} {f : Nat → Int} {S : List Nat} (h : ST n T q f S) (hn : n ≤ 40) (hk : k < n) (hT : T < k) (hw : isW f ((k : Int) + 1) q = false) : ST n T (q + 1) (insf f (pl f ((k : Int) + 1) q) ((k : Int) + 1)) (k :: S) := by
  have hfew := h.few
  have hle := pl_le f ((k : Int) + 1) q
  have hwt := insf_wt h.2.1 (m := (k : Int) + 1) (by omega) hw (by omega)
  obtain ⟨p, hp⟩ : ∃ p, pl f ((k : Int) + 1) q = p := ⟨_, rfl⟩
  rw [hp] at hwt hle ⊢
  refine ⟨h.1, hwt, fun i hi => ?_, by simp [h.2.2.2.1]; omega, fun j hj => ?_⟩
  · unfold insf
    split
    · exact h.2.2.1 i (by omega)
    · split
      · omega
      · exact h.2.2.1 (i - 1) (by omega)
  · rw [List.mem_cons, h.2.2.2.2 j hj]
    constructor
    · rintro (rfl | h1 | ⟨i, hi, e⟩)
      · exact .inr ⟨p, by omega, by simp [insf]⟩
      · exact .inl h1
      · rcases Nat.lt_or_ge i p with h2 | h2
        · exact .inr ⟨i, by omega, by unfold insf; rw [if_pos h2]; exact e⟩
        · exact .inr ⟨i + 1, by omega, by unfold insf; rw [if_neg (by omega), if_neg (by omega), Nat.add_sub_cancel]; exact e⟩
    · rintro (h1 | ⟨i, hi, e⟩)
      · exact .inr (.inl h1)
      · unfold insf at e
        split at e
        · exact .inr (.inr ⟨i, by omega, e⟩)
        · split at e
          · exact .inl (by omega)
          · exact .inr (.inr ⟨i - 1, by omega, e⟩)
theorem ST.over {n T q r : Nat} {f : Nat → Int} {S : List Nat} (h : ST n T q f S) (hn : n ≤ 40) (hT : T < n) (hw : ¬ T ∈ S) (hr : rn ((T : Int) + 1) f q = r) :
    ST n (T + r + 1) (q - r) (fun i => f (r + i)) (T :: S) ∧ r ≤ q := by
  have hrq : r ≤ q := by rw [← hr]; exact fi_le _ _
  have hs1 : ∀ j, j < r → f j = (T : Int) + 1 + 1 + j := fun j hj => by
    have := fi_lt (fun i => decide (f i = (T : Int) + 1 + 1 + i)) q j (by rw [← hr] at hj; exact hj)
    simpa using this
  have hs2 : r < q → ¬ f r = (T : Int) + 1 + 1 + r := fun h1 e => by
    have := fi_at (fun i => decide (f i = (T : Int) + 1 + 1 + i)) q (by rw [← hr] at h1; exact h1)
    have h2 : ¬ f (rn ((T : Int) + 1) f q) = (T : Int) + 1 + 1 + (rn ((T : Int) + 1) f q : Nat) := by simpa [rn] using this
    rw [hr] at h2
    exact h2 e
  obtain ⟨h1, ⟨a1, a2, a3, a4⟩, h3, h4, h5⟩ := h
  have hTr : T + r + 1 ≤ n := by
    rcases Nat.eq_zero_or_pos r with e | e
    · omega
    · have e1 := hs1 (r - 1) (by omega)
      have e2 := h3 (r - 1) (by omega)
      omega
  refine ⟨⟨hTr, ⟨by push_cast; omega, by omega, fun i hi => ?_, fun i j hij hj => a4 (r + i) (r + j) (by omega) (by omega)⟩, fun i hi => h3 (r + i) (by omega), by simp [h4]; omega, fun k hk => ?_⟩, hrq⟩
  · have e4 : (T : Int) + 1 + r < f r := by
      rcases Nat.eq_zero_or_pos r with e | e
      · subst e
        have := (a3 0 (by omega)).1
        simp
        omega
      · have e1 := hs1 (r - 1) (by omega)
        have e2 := a4 (r - 1) r (by omega) (by omega)
        omega
    have e3 := hs2 (by omega)
    have e5 : f r ≤ f (r + i) := by
      rcases Nat.eq_zero_or_pos i with e | e
      · subst e; exact Int.le_refl _
      · have := a4 r (r + i) (by omega) (by omega)
        omega
    have e6 := (a3 (r + i) (by omega)).2
    show ((T + r + 1 : Nat) : Int) + 1 < f (r + i) ∧ f (r + i) ≤ 999
    push_cast
    omega
  · rw [List.mem_cons, h5 k hk]
    constructor
    · rintro (rfl | h6 | ⟨i, hi, e⟩)
      · exact .inl (by omega)
      · exact .inl (by omega)
      · rcases Nat.lt_or_ge i r with h7 | h7
        · have := hs1 i h7
          exact .inl (by omega)
        · exact .inr ⟨i - r, by omega, by show f (r + (i - r)) = _; rw [show r + (i - r) = i by omega]; exact e⟩
    · rintro (h6 | ⟨i, hi, e⟩)
      · by_cases h7 : k < T
        · exact .inr (.inl h7)
        · by_cases h8 : k = T
          · exact .inl h8
          · refine .inr (.inr ⟨k - T - 1, by omega, ?_⟩)
            have := hs1 (k - T - 1) (by omega)
            omega
      · exact .inr (.inr ⟨r + i, by omega, e⟩)

/-- block b is a set of numbers -/
def IM (W : World) (b n : Nat) (S : List Nat) : Prop :=
  ∃ D : DataW Unit, W.ownsMap Try.prog 3 (plainElem Try.prog 4) b n D ∧ size D = S.length ∧ ∀ k : Nat, k < 1000 → has D (.int .i64 (k : Int)) = decide (k ∈ S)
theorem intKey : Keyed Try.prog 3 := int_keyed Try.underlying3
theorem key_int (k : Nat) (hk : k < 1000) : keyOf Try.prog 3 (.int .i64 (k : Int)) = some (.int .i64 (k : Int)) := by
  have hw : (Lit.int .i64 (k : Int)).wf = true := by simp [Lit.wf, IntKind.min, IntKind.max, IntKind.signed, IntKind.bits]; omega
  exact keyOf_int_mk Try.underlying3 hw
theorem IM.made (W : World) : IM (W.alloc (.map #[] 0)) W.heap.size 0 [] := ⟨.map [], World.ownsMap_made _ _ _ _, rfl, fun k hk => by simp [has]⟩
theorem IM.kept {W W' : World} {b n : Nat} {S : List Nat} {row : Option Nat} (h : IM W b n S) (hg : W.grownBy W' row) (hne : some b ≠ row) : IM W' b n S := by
  obtain ⟨D, h1, h2⟩ := h
  exact ⟨D, h1.kept hg (by simpa using hne), h2⟩
theorem IM.update {W : World} {b n : Nat} {S : List Nat} (h : IM W b n S) (hn : n < 1000) (k : Nat) (hk : k < 1000) :
    ∃ W', (Instr.mapUpdate 64 (.map (some b)) (.int .i64 (k : Int)) (.bool true)).run Try.prog W = .ok () W' ∧ IM W' b (n + 1) (if k ∈ S then S else k :: S) ∧ W.grownBy W' (some b) := by
  obtain ⟨D, h1, h2, h3⟩ := h
  obtain ⟨W', hrun, ho, hg⟩ := h1.update intKey Try.underlying64 (by unfold maxLen; omega) (key_int k hk) (plainElem_bool Try.underlying4 true)
  refine ⟨W', hrun, ⟨_, ho, ?_, fun j hj => ?_⟩, hg⟩
  · rw [size_put (h1.tidy intKey), h3 k hk, h2]
    by_cases e : k ∈ S <;> simp [e]
  · by_cases e : j = k
    · subst e
      rw [has_put_same h1.isMap (intKey.key (key_int j hk))]
      by_cases e : j ∈ S <;> simp [e]
    · rw [has_put_other (by intro e2; injection e2 with _ e3; omega), h3 j hj]
      by_cases e4 : k ∈ S <;> simp [e4, e]
end Go.Proofs.Ytkhmlbkkdflnoaa.Hb
