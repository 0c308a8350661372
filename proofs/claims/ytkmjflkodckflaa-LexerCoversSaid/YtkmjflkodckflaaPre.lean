/-
  THE PLAIN LAW of lexing, fourth part: what comes to an offset, and what is put there.
-/
import Derived.Test.YtkmjflkodckflaaVisit
namespace Go.Proofs.Ytkmjflkodckflaa
set_option linter.unusedVariables false
set_option linter.unusedSimpArgs false

theorem tw_cut {p : Nat → Bool} : ∀ (l : List Nat) (j : Nat) (x : List Nat), (l.takeWhile p).length ≤ j → (∀ y z, x = y :: z → p y = false ∨ l[j]? = some y) → (l.take j ++ x).takeWhile p = l.takeWhile p := by
  intro l
  induction l with
  | nil =>
    intro j x h1 h2
    cases x with
    | nil => simp
    | cons y z =>
      rcases h2 y z rfl with h | h
      · simp [h]
      · simp at h
  | cons c t ih =>
    intro j x h1 h2
    cases j with
    | zero =>
      have hc : p c = false := by
        cases hc : p c with
        | false => rfl
        | true => simp [List.takeWhile_cons, hc] at h1
      cases x with
      | nil => simp [hc]
      | cons y z =>
        rcases h2 y z rfl with h | h
        · simp [h, hc]
        · simp at h; subst h; simp [hc]
    | succ j =>
      simp only [List.take_succ_cons, List.cons_append, List.takeWhile_cons]
      cases hc : p c with
      | false => simp
      | true =>
        simp only [if_true]
        rw [ih j x (by simp only [List.takeWhile_cons, hc, if_true, List.length_cons] at h1; omega) (fun y z e => by simpa using h2 y z e)]
/-- what stands behind a token, cut off behind it, changes nothing -/
theorem tok1_cut {c : Nat} {t x : List Nat} {j : Nat} (h1 : 1 ≤ j) (hj : (tok1 (c :: t)).2.1 ≤ j) (h : ∀ y z, x = y :: z → namB y = false ∨ (c :: t)[j]? = some y) :
    tok1 ((c :: t).take j ++ x) = tok1 (c :: t) := by
  obtain ⟨i, rfl⟩ : ∃ i, j = i + 1 := ⟨j - 1, by omega⟩
  have e : (c :: t).take (i + 1) ++ x = c :: (t.take i ++ x) := by simp
  rw [e]
  by_cases hl : lowB c = true
  · have hm : ((c :: t).takeWhile namB).length ≤ i + 1 := by
      simp only [tok1, hl, if_true] at hj
      split at hj <;> exact hj
    have q := tw_cut (p := namB) (c :: t) (i + 1) x hm h
    rw [e] at q
    simp only [tok1, hl, if_true, q]
  · by_cases hd : digB c = true
    · have hm : ((c :: t).takeWhile digB).length ≤ i + 1 := by
        simp only [tok1, hl, hd, if_true, if_false, Bool.false_eq_true] at hj
        split at hj <;> exact hj
      have q := tw_cut (p := digB) (c :: t) (i + 1) x hm fun y z e => (h y z e).imp dig_nam id
      rw [e] at q
      simp only [tok1, hl, hd, if_true, if_false, Bool.false_eq_true, q]
    · simp only [tok1, hl, hd, if_false, Bool.false_eq_true]
/-- a gap that ends at a byte, and what is put there -/
theorem gap_cut {x : List Nat} : ∀ {r : List Nat} {b : Bool}, gapN b r < r.length → gapN b (r.take (gapN b r) ++ x) = gapN b r + gapN false x := by
  intro r
  induction r with
  | nil => intro b h; simp at h
  | cons c r ih =>
    intro b h
    cases b
    · by_cases hg : gapB c = true
      · have e : gapN false (c :: r) = gapN false r + 1 := by simp only [gapN, hg, if_true]; omega
        rw [e] at h ⊢
        simp only [List.take_succ_cons, List.cons_append]
        have := ih (b := false) (by simp only [List.length_cons] at h; omega)
        simp only [gapN, hg, if_true, this]; omega
      · by_cases hc : c = 35
        · have e : gapN false (c :: r) = gapN true r + 1 := by simp only [gapN, hg, hc, if_true]; simp [gapB]; omega
          rw [e] at h ⊢
          simp only [List.take_succ_cons, List.cons_append]
          have := ih (b := true) (by simp only [List.length_cons] at h; omega)
          simp only [gapN, if_neg hg, if_pos hc, this]; omega
        · have e : gapN false (c :: r) = 0 := by simp only [gapN, if_neg hg, if_neg hc]
          rw [e]; simp
    · by_cases hc : c = 10
      · have e : gapN true (c :: r) = gapN false r + 1 := by simp only [gapN, if_pos hc]; omega
        rw [e] at h ⊢
        simp only [List.take_succ_cons, List.cons_append]
        have := ih (b := false) (by simp only [List.length_cons] at h; omega)
        simp only [gapN, if_pos hc, this]; omega
      · have e : gapN true (c :: r) = gapN true r + 1 := by simp only [gapN, if_neg hc]; omega
        rw [e] at h ⊢
        simp only [List.take_succ_cons, List.cons_append]
        have := ih (b := true) (by simp only [List.length_cons] at h; omega)
        simp only [gapN, if_neg hc, this]; omega
/-- behind a gap neither a blank nor a comment begins -/
theorem gap_stop {c : Nat} {t : List Nat} : ∀ {r : List Nat} {b : Bool}, r.drop (gapN b r) = c :: t → gapB c = false ∧ c ≠ 35 := by
  intro r
  induction r with
  | nil => intro b h; simp at h
  | cons d r ih =>
    intro b h
    cases b
    · by_cases hg : gapB d = true
      · have e : gapN false (d :: r) = gapN false r + 1 := by simp only [gapN, hg, if_true]; omega
        rw [e, List.drop_succ_cons] at h
        exact ih h
      · by_cases hc : d = 35
        · have e : gapN false (d :: r) = gapN true r + 1 := by simp only [gapN, if_neg hg, if_pos hc]; omega
          rw [e, List.drop_succ_cons] at h
          exact ih h
        · have e : gapN false (d :: r) = 0 := by simp only [gapN, if_neg hg, if_neg hc]
          rw [e, List.drop_zero] at h
          injection h with h1 _
          subst h1
          exact ⟨by simpa using hg, hc⟩
    · by_cases hc : d = 10
      · have e : gapN true (d :: r) = gapN false r + 1 := by simp only [gapN, if_pos hc]; omega
        rw [e, List.drop_succ_cons] at h
        exact ih h
      · have e : gapN true (d :: r) = gapN true r + 1 := by simp only [gapN, if_neg hc]; omega
        rw [e, List.drop_succ_cons] at h
        exact ih h
/-- lexing r, which lies at a, comes to the offset p with these tokens -/
inductive V : List Nat → Nat → Nat → List Tok → Prop where
  | here (r : List Nat) (a : Nat) : V r a (a + gapN false r) []
  | step {r : List Nat} {a p c : Nat} {t : List Nat} {ts : List Tok} (h1 : r.drop (gapN false r) = c :: t) (h2 : (tok1 (c :: t)).2.2 = 0)
      (h3 : V (t.drop ((tok1 (c :: t)).2.1 - 1)) (a + gapN false r + (tok1 (c :: t)).2.1) p ts) :
      V r a p (((tok1 (c :: t)).1.1, (tok1 (c :: t)).1.2.1, (tok1 (c :: t)).1.2.2, a + gapN false r) :: ts)
theorem V.ge {r : List Nat} {a p : Nat} {ts : List Tok} (h : V r a p ts) : a ≤ p ∧ p ≤ a + r.length := by
  induction h with
  | here r a => have := gapN_le false r; omega
  | @step r a p c t ts h1 h2 h3 ih =>
    have hl : (r.drop (gapN false r)).length = t.length + 1 := by rw [h1]; rfl
    have hm := tok1_le (c :: t)
    have hp := tok1_pos h2
    simp only [List.length_cons, List.length_drop] at *
    omega
/-- THE PREFIX LAW -/
theorem V.put {r : List Nat} {a p : Nat} {ts : List Tok} (h : V r a p ts) : ∀ (x : List Nat) (n : Nat), p < a + r.length → n + ts.length ≤ 2000 →
    (∀ y z, x = y :: z → namB y = false ∨ r[p - a]? = some y) → lexA (r.take (p - a) ++ x) a n = (lexA x p (n + ts.length)).app ts := by
  induction h with
  | here r a =>
    intro x n hp hn hx
    have hg := gapN_le false r
    rw [Nat.add_sub_cancel_left] at *
    have q := gap_cut (x := x) (r := r) (b := false) (by omega)
    have hlen : (r.take (gapN false r)).length = gapN false r := by rw [List.length_take]; omega
    have hd : (r.take (gapN false r) ++ x).drop (gapN false r) = x := by
      conv => lhs; arg 1; rw [← hlen]
      exact List.drop_left
    rw [lexA_skip (m := gapN false r) (by rw [hd]; exact q), hd, List.length_nil, Nat.add_zero]
    cases lexA x (a + gapN false r) n <;> rfl
  | @step r a p c t ts h1 h2 h3 ih =>
    intro x n hp hn hx
    have hge := h3.ge
    have hl : (r.drop (gapN false r)).length = t.length + 1 := by rw [h1]; rfl
    have hm := tok1_le (c :: t)
    have hpos := tok1_pos h2
    simp only [List.length_cons, List.length_drop] at *
    have hg := gapN_le false r
    have hpa : p - a = gapN false r + (p - a - gapN false r) := by omega
    have htk : r.take (p - a) = r.take (gapN false r) ++ (c :: t).take (p - a - gapN false r) := by
      conv => lhs; rw [hpa, List.take_add]
      rw [h1]
    have q := gap_cut (x := (c :: t).take (p - a - gapN false r) ++ x) (r := r) (b := false) (by omega)
    have hlen : (r.take (gapN false r)).length = gapN false r := by rw [List.length_take]; omega
    have hcg : gapB c = false ∧ c ≠ 35 := gap_stop h1
    obtain ⟨i, hi⟩ : ∃ i, p - a - gapN false r = i + 1 := ⟨p - a - gapN false r - 1, by omega⟩
    have hz : gapN false ((c :: t).take (p - a - gapN false r) ++ x) = 0 := by
      rw [hi]; simp [gapN, hcg.1, hcg.2]
    rw [hz, Nat.add_zero] at q
    have hd : (r.take (gapN false r) ++ ((c :: t).take (p - a - gapN false r) ++ x)).drop (gapN false r) = (c :: t).take (p - a - gapN false r) ++ x := by
      conv => lhs; arg 1; rw [← hlen]
      exact List.drop_left
    have hget : ∀ y, r[p - a]? = some y → (c :: t)[p - a - gapN false r]? = some y := fun y hy => by
      rw [← h1, List.getElem?_drop, ← hpa]; exact hy
    have ht := tok1_cut (c := c) (t := t) (x := x) (j := p - a - gapN false r) (by omega) (by omega) fun y z e => (hx y z e).imp id (hget y)
    have e1 : (c :: t).take (p - a - gapN false r) ++ x = c :: (t.take i ++ x) := by rw [hi]; simp
    rw [htk, List.append_assoc, lexA_eq, q, hd]
    rw [e1] at ht ⊢
    simp only [lexB, ht, if_pos h2]
    rw [if_neg (by omega)]
    have hdd : (t.take i ++ x).drop ((tok1 (c :: t)).2.1 - 1) = (t.drop ((tok1 (c :: t)).2.1 - 1)).take (p - (a + gapN false r + (tok1 (c :: t)).2.1)) ++ x := by
      rw [List.drop_append_of_le_length (by rw [List.length_take]; omega), List.drop_take]
      congr 2
      omega
    rw [hdd]
    have := ih x (n + 1) (by omega) (by omega) (fun y z e => (hx y z e).imp id fun hy => by
      have q := hget y hy
      rw [List.getElem?_drop]
      rw [hi] at q
      simp only [List.getElem?_cons_succ] at q
      rw [← q]
      congr 1
      omega)
    rw [this, show n + 1 + ts.length = n + (ts.length + 1) by omega]
    cases lexA x p (n + (ts.length + 1)) <;> simp [Res.app, Res.pre]
end Go.Proofs.Ytkmjflkodckflaa
