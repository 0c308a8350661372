/-
  THE PLAIN LAW of two controllers: what is on its way, kept by sending, receiving and acknowledging.
-/
import Derived.Test.YteeohndgkfilaaaUni
namespace Go.Proofs.Yteeohndgkfilaaa
set_option linter.unusedVariables false

/-- amperes of the transfers in O whose numbers are not in I -/
def way (I : List Int) : List (Int × Int) → Int
  | [] => 0
  | p :: l => (if p.1 ∈ I then 0 else p.2) + way I l
theorem way_app (I : List Int) (l m : List (Int × Int)) : way I (l ++ m) = way I l + way I m := by
  induction l with
  | nil => simp [way]
  | cons p l ih => simp only [List.cons_append, way, ih]; omega
theorem way_nonneg {I : List Int} : ∀ {l : List (Int × Int)}, (∀ p ∈ l, 0 ≤ p.2) → 0 ≤ way I l := by
  intro l
  induction l with
  | nil => intro _; simp [way]
  | cons p l ih =>
    intro h
    have h1 := h p (List.mem_cons_self ..)
    have h2 := ih fun q hq => h q (List.mem_cons_of_mem _ hq)
    simp only [way]
    split <;> omega
theorem way_le {I : List Int} : ∀ {l : List (Int × Int)}, (∀ p ∈ l, 0 ≤ p.2 ∧ p.2 ≤ 1000) → way I l ≤ 1000 * (l.length : Int) := by
  intro l
  induction l with
  | nil => intro _; simp [way]
  | cons p l ih =>
    intro h
    have h1 := h p (List.mem_cons_self ..)
    have h2 := ih fun q hq => h q (List.mem_cons_of_mem _ hq)
    simp only [way, List.length_cons]
    split <;> omega
/-- without a number that has come: nothing changes -/
theorem way_wo {I : List Int} {x : Int} (hx : x ∈ I) : ∀ (l : List (Int × Int)), way I (wo x l) = way I l := by
  intro l
  induction l with
  | nil => rfl
  | cons p l ih =>
    unfold wo at ih ⊢
    by_cases e : p.1 = x
    · have : (p.1 != x) = false := by simp [e]
      rw [List.filter_cons_of_neg (by simp [e])]
      simp only [way, ih]
      rw [if_pos (by rw [e]; exact hx)]
      omega
    · rw [List.filter_cons_of_pos (by simp [e])]
      simp only [way, ih]
/-- a number that is in no transfer of the list -/
theorem way_ins_no {I : List Int} {x : Int} : ∀ {l : List (Int × Int)}, (∀ p ∈ l, p.1 ≠ x) → way (insO x I) l = way I l := by
  intro l
  induction l with
  | nil => intro _; rfl
  | cons p l ih =>
    intro h
    have h1 := h p (List.mem_cons_self ..)
    have h2 := ih fun q hq => h q (List.mem_cons_of_mem _ hq)
    simp only [way, h2, mem_insO]
    by_cases e : p.1 ∈ I
    · rw [if_pos e, if_pos (.inr e)]
    · rw [if_neg e, if_neg (fun hh => hh.elim h1 e)]
theorem way_ins {I : List Int} {x y : Int} (hx : x ∉ I) : ∀ {l : List (Int × Int)}, l.Pairwise (fun p q => p.1 < q.1) → (x, y) ∈ l → way (insO x I) l = way I l - y := by
  intro l
  induction l with
  | nil => intro _ h; simp at h
  | cons p l ih =>
    intro hp h
    obtain ⟨h1, h2⟩ := List.pairwise_cons.1 hp
    rcases List.mem_cons.1 h with rfl | h
    · have hno : ∀ q ∈ l, q.1 ≠ x := fun q hq => by have := h1 q hq; simp only [] at this; omega
      simp only [way, way_ins_no hno]
      rw [if_pos (mem_insO.2 (.inl rfl)), if_neg hx]
      omega
    · have hne : p.1 ≠ x := by have := h1 _ h; simp only [] at this; omega
      simp only [way, ih h2 h, mem_insO]
      by_cases e : p.1 ∈ I
      · rw [if_pos e, if_pos (.inr e)]; omega
      · rw [if_neg e, if_neg (fun hh => hh.elim hne e)]; omega
/-- one direction: what a controller sent (S), waits for (O), what the other one received (I) and acknowledged (K) -/
def Half (nx : Int) (O S : List (Int × Int)) (I K : List Int) : Prop :=
  nx = (S.length : Int) + 1 ∧ (∀ (k : Nat) p, S[k]? = some p → p.1 = (k : Int) + 1 ∧ 1 ≤ p.2 ∧ p.2 ≤ 1000) ∧ (∀ p ∈ O, p ∈ S) ∧ (∀ p ∈ S, p ∉ O → p.1 ∈ I) ∧ (∀ n ∈ I, 1 ≤ n ∧ n ≤ (S.length : Int)) ∧ (∀ n ∈ K, n ∈ I)
theorem Half.start : Half 1 [] [] [] [] := ⟨rfl, fun k p h => by simp at h, fun p h => by simp at h, fun p h => by simp at h, fun n h => by simp at h, fun n h => by simp at h⟩
theorem Half.bd {nx : Int} {O S : List (Int × Int)} {I K : List Int} (h : Half nx O S I K) : ∀ p ∈ S, (1 ≤ p.1 ∧ p.1 ≤ (S.length : Int)) ∧ 1 ≤ p.2 ∧ p.2 ≤ 1000 := by
  intro p hp
  obtain ⟨k, hk⟩ := List.getElem?_of_mem hp
  have hl := (List.getElem?_eq_some_iff.1 hk).1
  have := h.2.1 k p hk
  omega
theorem Half.uniq {nx : Int} {O S : List (Int × Int)} {I K : List Int} (h : Half nx O S I K) {p q : Int × Int} (hp : p ∈ S) (hq : q ∈ S) (e : p.1 = q.1) : p = q := by
  obtain ⟨k, hk⟩ := List.getElem?_of_mem hp
  obtain ⟨j, hj⟩ := List.getElem?_of_mem hq
  have h1 := (h.2.1 k p hk).1
  have h2 := (h.2.1 j q hj).1
  obtain rfl : k = j := by omega
  rw [hk] at hj
  exact Option.some.inj hj
theorem Half.nonneg {nx : Int} {O S : List (Int × Int)} {I K : List Int} (h : Half nx O S I K) : 0 ≤ way I O := way_nonneg fun p hp => by have := (h.bd p (h.2.2.1 p hp)).2; omega
theorem Half.send {nx a : Int} {O S : List (Int × Int)} {I K : List Int} (h : Half nx O S I K) (ha : 1 ≤ a ∧ a ≤ 1000) : Half (nx + 1) (O ++ [(nx, a)]) (S ++ [(nx, a)]) I K ∧ way I (O ++ [(nx, a)]) = way I O + a := by
  obtain ⟨h1, h2, h3, h4, h5, h6⟩ := h
  refine ⟨⟨by simp; omega, fun k p hk => ?_, fun p hp => ?_, fun p hp hno => ?_, fun n hn => ?_, h6⟩, ?_⟩
  · rcases Nat.lt_or_ge k S.length with hl | hl
    · rw [List.getElem?_append_left hl] at hk
      exact h2 k p hk
    · have hk2 := (List.getElem?_eq_some_iff.1 hk).1
      simp at hk2
      obtain rfl : k = S.length := by omega
      rw [List.getElem?_append_right (Nat.le_refl _)] at hk
      simp at hk
      subst hk
      exact ⟨h1, ha⟩
  · rcases List.mem_append.1 hp with hp | hp
    · exact List.mem_append_left _ (h3 p hp)
    · exact List.mem_append_right _ hp
  · rcases List.mem_append.1 hp with hp | hp
    · exact h4 p hp fun hh => hno (List.mem_append_left _ hh)
    · exact absurd (List.mem_append_right _ hp) hno
  · have := h5 n hn; simp; omega
  · rw [way_app]
    simp only [way]
    rw [if_neg (fun hh => by have := h5 nx hh; omega)]
    omega
theorem Half.recv {nx x y : Int} {O S : List (Int × Int)} {I K : List Int} (h : Half nx O S I K) (hO : O.Pairwise (fun p q => p.1 < q.1)) (hp : (x, y) ∈ S) (hx : x ∉ I) : Half nx O S (insO x I) K ∧ way (insO x I) O = way I O - y := by
  have hb := h.bd _ hp
  obtain ⟨h1, h2, h3, h4, h5, h6⟩ := h
  refine ⟨⟨h1, h2, h3, fun p hp hno => mem_insO.2 (.inr (h4 p hp hno)), fun n hn => ?_, fun n hn => mem_insO.2 (.inr (h6 n hn))⟩, ?_⟩
  · rcases mem_insO.1 hn with rfl | hn
    · exact hb.1
    · exact h5 n hn
  · refine way_ins hx hO ?_
    exact Classical.byContradiction fun hno => hx (h4 _ hp hno)
theorem Half.ack {nx x : Int} {O S : List (Int × Int)} {I K : List Int} (h : Half nx O S I K) (hx : x ∈ I) : Half nx O S I (K ++ [x]) := by
  obtain ⟨h1, h2, h3, h4, h5, h6⟩ := h
  refine ⟨h1, h2, h3, h4, h5, fun n hn => ?_⟩
  rcases List.mem_append.1 hn with hn | hn
  · exact h6 n hn
  · obtain rfl : n = x := by simpa using hn
    exact hx
theorem Half.acked {nx x : Int} {O S : List (Int × Int)} {I K : List Int} (h : Half nx O S I K) (hx : x ∈ I) : Half nx (wo x O) S I K ∧ way I (wo x O) = way I O := by
  obtain ⟨h1, h2, h3, h4, h5, h6⟩ := h
  refine ⟨⟨h1, h2, fun p hp => h3 p (mem_wo.1 hp).1, fun p hp hno => ?_, h5, h6⟩, way_wo hx O⟩
  by_cases e : p.1 = x
  · rw [e]; exact hx
  · exact h4 p hp fun hh => hno (mem_wo.2 ⟨hh, e⟩)
/-- numbers that increase from 1 to n are at most n -/
theorem inc_few {n : Nat} : ∀ {l : List Int} {m : Nat}, l.Pairwise (· < ·) → (∀ x ∈ l, (m : Int) < x ∧ x ≤ (n : Int)) → l.length + m ≤ n ∨ l = [] := by
  intro l
  induction l with
  | nil => intro m _ _; exact .inr rfl
  | cons x l ih =>
    intro m hp h
    obtain ⟨h1, h2⟩ := List.pairwise_cons.1 hp
    have hx := h x (List.mem_cons_self ..)
    obtain ⟨k, rfl⟩ : ∃ k : Nat, x = k := ⟨x.toNat, by omega⟩
    rcases ih (m := k) h2 (fun z hz => ⟨h1 z hz, (h z (List.mem_cons_of_mem _ hz)).2⟩) with h' | rfl
    · left; simp only [List.length_cons]; omega
    · left; simp only [List.length_cons, List.length_nil]; omega
theorem Half.few {nx : Int} {O S : List (Int × Int)} {I K : List Int} (h : Half nx O S I K) (hI : I.Pairwise (· < ·)) : I.length ≤ S.length := by
  rcases inc_few (n := S.length) (m := 0) hI (fun x hx => by have := h.2.2.2.2.1 x hx; omega) with h' | rfl
  · omega
  · simp
end Go.Proofs.Yteeohndgkfilaaa
