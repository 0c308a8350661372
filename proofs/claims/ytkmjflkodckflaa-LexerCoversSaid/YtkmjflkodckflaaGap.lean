/-
  THE PLAIN LAW of lexing, second part: one step of the loop.
-/
import Derived.Test.YtkmjflkodckflaaPlain
namespace Go.Proofs.Ytkmjflkodckflaa
set_option linter.unusedVariables false
set_option linter.unusedSimpArgs false

/-- from a token's first byte on -/
def lexB (r : List Nat) (at_ n : Nat) : Res :=
  match r with
  | [] => .ok []
  | c :: t =>
    if n = 2000 then .err 2 at_
    else if (tok1 (c :: t)).2.2 = 0 then (lexA (t.drop ((tok1 (c :: t)).2.1 - 1)) (at_ + (tok1 (c :: t)).2.1) (n + 1)).pre ((tok1 (c :: t)).1.1, (tok1 (c :: t)).1.2.1, (tok1 (c :: t)).1.2.2, at_)
    else .err (tok1 (c :: t)).2.2 at_
theorem lexA_eq (r : List Nat) (at_ n : Nat) : lexA r at_ n = lexB (r.drop (gapN false r)) (at_ + gapN false r) n := by
  rw [lexA]
  unfold lexB
  split
  · rename_i h; rw [h]
  · rename_i c t h; rw [h]
theorem gapN_gap : ∀ (r : List Nat), gapN false r = (r.takeWhile gapB).length + gapN false (r.drop (r.takeWhile gapB).length) := by
  intro r
  induction r with
  | nil => rfl
  | cons c t ih =>
    by_cases h : gapB c = true
    · simp only [gapN, h, if_true, List.takeWhile_cons, List.length_cons, List.drop_succ_cons]
      omega
    · simp [gapN, h]
theorem gapN_nl : ∀ (r : List Nat), gapN true r = (r.takeWhile nlB).length + gapN false (r.drop (r.takeWhile nlB).length) := by
  intro r
  induction r with
  | nil => rfl
  | cons c t ih =>
    by_cases h : c = 10
    · subst h
      simp [gapN, nlB, gapB]
    · have : nlB c = true := by simp [nlB, h]
      simp only [gapN, h, if_false, List.takeWhile_cons, this, if_true, List.length_cons, List.drop_succ_cons]
      omega
theorem lexA_skip {r : List Nat} {m : Nat} (h : gapN false r = m + gapN false (r.drop m)) (at_ n : Nat) : lexA r at_ n = lexA (r.drop m) (at_ + m) n := by
  rw [lexA_eq, lexA_eq (r.drop m), List.drop_drop, h, Nat.add_assoc]
theorem lexA_gap (l : List Nat) (k n : Nat) : lexA (l.drop k) k n = lexA (l.drop (spn gapB l k)) (spn gapB l k) n := by
  rw [lexA_skip (gapN_gap (l.drop k)), List.drop_drop]
  rfl
theorem lexA_com {l : List Nat} {k : Nat} (h : l[k]? = some 35) (n : Nat) : lexA (l.drop k) k n = lexA (l.drop (spn nlB l k)) (spn nlB l k) n := by
  have h1 := drop_cons h
  have h2 : gapN false (l.drop k) = ((l.drop k).takeWhile nlB).length + gapN false ((l.drop k).drop ((l.drop k).takeWhile nlB).length) := by
    rw [h1]
    have e1 : nlB 35 = true := by decide
    have e2 : gapB 35 = false := by decide
    simp only [gapN, e2, Bool.false_eq_true, if_false, if_true, List.takeWhile_cons, e1, List.length_cons, List.drop_succ_cons]
    have := gapN_nl (l.drop (k + 1))
    omega
  rw [lexA_skip h2, List.drop_drop]
  rfl
theorem lexA_end {l : List Nat} {k : Nat} (h : l.length ≤ k) (n : Nat) : lexA (l.drop k) k n = .ok [] := by
  rw [List.drop_eq_nil_of_le h, lexA_eq]; rfl
theorem lexA_here {l : List Nat} {k c : Nat} (h : l[k]? = some c) (hg : gapB c = false) (hc : c ≠ 35) (n : Nat) : lexA (l.drop k) k n = lexB (l.drop k) k n := by
  rw [lexA_eq]
  have : gapN false (l.drop k) = 0 := by rw [drop_cons h]; simp [gapN, hg, hc]
  rw [this, List.drop_zero, Nat.add_zero]
theorem tok1_pos {c : Nat} {t : List Nat} (h : (tok1 (c :: t)).2.2 = 0) : 1 ≤ (tok1 (c :: t)).2.1 := by
  simp only [tok1] at h ⊢
  split
  · rename_i hl
    have hn : namB c = true := by simp [namB, hl]
    split <;> simp [hn]
  · split
    · rename_i hl hd
      split <;> simp [hd]
    · split
      · simp
      · rename_i h1 h2 h3
        simp [h1, h2, h3] at h
theorem lexA_full {l : List Nat} {k c : Nat} (h : l[k]? = some c) (hg : gapB c = false) (hc : c ≠ 35) : lexA (l.drop k) k 2000 = .err 2 k := by
  rw [lexA_here h hg hc, drop_cons h]; simp [lexB]
theorem lexA_err {l : List Nat} {k c n : Nat} (h : l[k]? = some c) (hg : gapB c = false) (hc : c ≠ 35) (hn : n ≠ 2000) (he : (tok1 (l.drop k)).2.2 ≠ 0) : lexA (l.drop k) k n = .err (tok1 (l.drop k)).2.2 k := by
  rw [lexA_here h hg hc]
  rw [drop_cons h] at he ⊢
  simp only [lexB, if_neg hn, if_neg he]
theorem lexA_tok {l : List Nat} {k c n : Nat} (h : l[k]? = some c) (hg : gapB c = false) (hc : c ≠ 35) (hn : n ≠ 2000) (he : (tok1 (l.drop k)).2.2 = 0) :
    lexA (l.drop k) k n = (lexA (l.drop (k + (tok1 (l.drop k)).2.1)) (k + (tok1 (l.drop k)).2.1) (n + 1)).pre ((tok1 (l.drop k)).1.1, (tok1 (l.drop k)).1.2.1, (tok1 (l.drop k)).1.2.2, k) := by
  rw [lexA_here h hg hc]
  have hd := drop_cons h
  rw [hd] at he ⊢
  have hp := tok1_pos he
  simp only [lexB, if_neg hn, if_pos he]
  congr 2
  rw [List.drop_drop]
  congr 1
  omega
theorem app_pre (a : List Tok) (t : Tok) (r : Res) : (r.pre t).app a = r.app (a ++ [t]) := by
  cases r <;> simp [Res.pre, Res.app]
/-- the tokens of a source -/
def lexS (l : List Nat) : Res := if 8000 < l.length then .err 2 0 else lexA l 0 0
end Go.Proofs.Ytkmjflkodckflaa
