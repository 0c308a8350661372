/-
  THE PLAIN LAW of lexing, third part: what is put in the place of the rest.
-/
import Derived.Test.YtkmjflkodckflaaLaws
namespace Go.Proofs.Ytkmjflkodckflaa
set_option linter.unusedVariables false
set_option linter.unusedSimpArgs false

theorem tw_app {p : Nat → Bool} : ∀ {l x : List Nat}, (∀ y z, x = y :: z → p y = false) → (l ++ x).takeWhile p = l.takeWhile p := by
  intro l
  induction l with
  | nil =>
    intro x h
    cases x with
    | nil => rfl
    | cons y z => simp [h y z rfl]
  | cons c l ih =>
    intro x h
    simp only [List.cons_append, List.takeWhile_cons]
    split
    · rw [ih h]
    · rfl
theorem dig_nam {c : Nat} (h : namB c = false) : digB c = false := by
  simp only [namB, Bool.or_eq_false_iff] at h
  exact h.1.2
/-- what stands behind a token and cannot belong to it changes nothing -/
theorem tok1_app {c : Nat} {t x : List Nat} (h : ∀ y z, x = y :: z → namB y = false) : tok1 (c :: (t ++ x)) = tok1 (c :: t) := by
  have h1 : (c :: (t ++ x)).takeWhile namB = (c :: t).takeWhile namB := tw_app (l := c :: t) h
  have h2 : (c :: (t ++ x)).takeWhile digB = (c :: t).takeWhile digB := tw_app (l := c :: t) fun y z e => dig_nam (h y z e)
  simp only [tok1, h1, h2]
/-- a gap that ends inside -/
theorem gap_in {x : List Nat} : ∀ {r : List Nat} {b : Bool}, gapN b r < r.length → gapN b (r ++ x) = gapN b r := by
  intro r
  induction r with
  | nil => intro b h; simp at h
  | cons c r ih =>
    intro b h
    cases b
    · simp only [List.cons_append, gapN] at h ⊢
      split
      · rename_i hg
        rw [if_pos hg] at h
        rw [ih (by simp only [List.length_cons] at h; omega)]
      · rename_i hg
        rw [if_neg hg] at h
        split
        · rename_i hc
          rw [if_pos hc] at h
          rw [ih (by simp only [List.length_cons] at h; omega)]
        · rfl
    · simp only [List.cons_append, gapN] at h ⊢
      split
      · rename_i hg
        rw [if_pos hg] at h
        rw [ih (by simp only [List.length_cons] at h; omega)]
      · rename_i hg
        rw [if_neg hg] at h
        rw [ih (by simp only [List.length_cons] at h; omega)]
/-- a gap to the end, then a line feed -/
theorem gap_nl {x : List Nat} : ∀ {r : List Nat} {b : Bool}, gapN b r = r.length → gapN b (r ++ 10 :: x) = r.length + 1 + gapN false x := by
  intro r
  induction r with
  | nil => intro b h; cases b <;> simp [gapN, gapB]
  | cons c r ih =>
    intro b h
    have hle := gapN_le true r
    have hle2 := gapN_le false r
    cases b
    · simp only [List.cons_append, gapN, List.length_cons] at h ⊢
      split
      · rename_i hg
        rw [if_pos hg] at h
        rw [ih (by omega)]; omega
      · rename_i hg
        rw [if_neg hg] at h
        split
        · rename_i hc
          rw [if_pos hc] at h
          rw [ih (by omega)]; omega
        · rename_i hc
          rw [if_neg hc] at h
          omega
    · simp only [List.cons_append, gapN, List.length_cons] at h ⊢
      split
      · rename_i hg
        rw [if_pos hg] at h
        rw [ih (by omega)]; omega
      · rename_i hg
        rw [if_neg hg] at h
        rw [ih (by omega)]; omega
/-- a source without an error, a line feed, and more -/
theorem lexA_join : ∀ (N : Nat) (r : List Nat) (a n : Nat) (ts : List Tok) (x : List Nat), r.length ≤ N → lexA r a n = .ok ts → lexA (r ++ 10 :: x) a n = (lexA x (a + r.length + 1) (n + ts.length)).app ts := by
  intro N
  induction N with
  | zero =>
    intro r a n ts x hr h
    obtain rfl : r = [] := List.eq_nil_of_length_eq_zero (by omega)
    rcases lexA_ok h with ⟨_, rfl⟩ | ⟨c, t, rest, h1, _⟩
    · have : gapN false (10 :: x) = 1 + gapN false ((10 :: x).drop 1) := by simp [gapN, gapB]
      rw [List.nil_append, lexA_skip this]
      simp only [List.drop_succ_cons, List.drop_zero, List.length_nil, Nat.add_zero]
      cases lexA x (a + 1) n <;> rfl
    · simp at h1
  | succ N ih =>
    intro r a n ts x hr h
    rcases lexA_ok h with ⟨h1, rfl⟩ | ⟨c, t, rest, h1, h2, h3, h4, rfl⟩
    · have hg : gapN false r = r.length := by
        have q1 := gapN_le false r
        have q2 : (r.drop (gapN false r)).length = 0 := by rw [h1]; rfl
        rw [List.length_drop] at q2
        omega
      have q := gap_nl (x := x) hg
      have q3 : gapN false (r ++ 10 :: x) = r.length + 1 + gapN false ((r ++ 10 :: x).drop (r.length + 1)) := by
        rw [q]
        congr 2
        rw [List.drop_append]
        simp
      rw [lexA_skip q3]
      have q4 : (r ++ 10 :: x).drop (r.length + 1) = x := by rw [List.drop_append]; simp
      rw [q4, List.length_nil, Nat.add_zero, ← Nat.add_assoc]
      cases lexA x (a + r.length + 1) n <;> rfl
    · have hl : (r.drop (gapN false r)).length = t.length + 1 := by rw [h1]; rfl
      rw [List.length_drop] at hl
      have hgi := gap_in (x := 10 :: x) (r := r) (b := false) (by omega)
      have hd : (r ++ 10 :: x).drop (gapN false r) = c :: (t ++ 10 :: x) := by
        rw [List.drop_append_of_le_length (by omega), h1]; rfl
      have hm := tok1_le (c :: t)
      have hp := tok1_pos h3
      simp only [List.length_cons] at hm
      have ht : tok1 (c :: (t ++ 10 :: x)) = tok1 (c :: t) := tok1_app fun y z e => by injection e with e _; subst e; decide
      rw [lexA_eq, hgi, hd]
      simp only [lexB, ht, if_neg h2, if_pos h3]
      have hdt : (t ++ 10 :: x).drop ((tok1 (c :: t)).2.1 - 1) = t.drop ((tok1 (c :: t)).2.1 - 1) ++ 10 :: x := List.drop_append_of_le_length (by omega)
      rw [hdt, ih _ _ _ _ x (by simp; omega) h4]
      have hlen : a + gapN false r + (tok1 (c :: t)).2.1 + (t.drop ((tok1 (c :: t)).2.1 - 1)).length + 1 = a + r.length + 1 := by simp; omega
      rw [hlen, List.length_cons, show n + 1 + rest.length = n + (rest.length + 1) by omega]
      cases lexA x (a + r.length + 1) (n + (rest.length + 1)) <;> simp [Res.app, Res.pre]
/-- tokens moved on -/
def sh (d : Nat) (t : Tok) : Tok := (t.1, t.2.1, t.2.2.1, t.2.2.2 + d)
theorem lexA_sh : ∀ (N : Nat) (r : List Nat) (a n : Nat) (ts : List Tok) (d q : Nat), r.length ≤ N → lexA r a n = .ok ts → q ≤ 2000 →
    (q + ts.length ≤ 2000 → lexA r (a + d) q = .ok (ts.map (sh d))) ∧ (2000 < q + ts.length → ∃ p, a + d ≤ p ∧ lexA r (a + d) q = .err 2 p) := by
  intro N
  induction N with
  | zero =>
    intro r a n ts d q hr h hq
    obtain rfl : r = [] := List.eq_nil_of_length_eq_zero (by omega)
    rcases lexA_ok h with ⟨_, rfl⟩ | ⟨c, t, rest, h1, _⟩
    · exact ⟨fun _ => by rw [lexA_eq]; rfl, fun hh => by simp at hh; omega⟩
    · simp at h1
  | succ N ih =>
    intro r a n ts d q hr h hq
    rcases lexA_ok h with ⟨h1, rfl⟩ | ⟨c, t, rest, h1, h2, h3, h4, rfl⟩
    · exact ⟨fun _ => by rw [lexA_eq, h1]; rfl, fun hh => by simp at hh; omega⟩
    · have hl : (r.drop (gapN false r)).length = t.length + 1 := by rw [h1]; rfl
      rw [List.length_drop] at hl
      by_cases hq2 : q = 2000
      · subst hq2
        refine ⟨fun hh => (by simp only [List.length_cons] at hh; omega), fun _ => ⟨a + d + gapN false r, by omega, ?_⟩⟩
        rw [lexA_eq, h1]
        simp [lexB]
      · obtain ⟨i1, i2⟩ := ih _ _ _ _ d (q + 1) (by simp; omega) h4 (by omega)
        have e0 : a + d + gapN false r = a + gapN false r + d := by omega
        have e1 : a + d + gapN false r + (tok1 (c :: t)).2.1 = a + gapN false r + (tok1 (c :: t)).2.1 + d := by omega
        have e2 : lexA r (a + d) q = (lexA (t.drop ((tok1 (c :: t)).2.1 - 1)) (a + gapN false r + (tok1 (c :: t)).2.1 + d) (q + 1)).pre ((tok1 (c :: t)).1.1, (tok1 (c :: t)).1.2.1, (tok1 (c :: t)).1.2.2, a + gapN false r + d) := by
          rw [lexA_eq, h1]
          simp only [lexB, if_neg hq2, if_pos h3]
          rw [e1, e0]
        rw [e2]
        constructor
        · intro hh
          rw [i1 (by simp only [List.length_cons] at hh; omega)]
          rfl
        · intro hh
          obtain ⟨p, hp, hx⟩ := i2 (by simp only [List.length_cons] at hh; omega)
          exact ⟨p, by omega, by rw [hx]; rfl⟩
end Go.Proofs.Ytkmjflkodckflaa
