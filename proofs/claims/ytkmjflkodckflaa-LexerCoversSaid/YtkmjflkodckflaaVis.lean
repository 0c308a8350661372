/-
  THE PLAIN LAW of lexing, fifth part: where errors and tokens stand; gaps put between tokens.
-/
import Derived.Test.YtkmjflkodckflaaPre
namespace Go.Proofs.Ytkmjflkodckflaa
set_option linter.unusedVariables false
set_option linter.unusedSimpArgs false

theorem gap_zero {c : Nat} {x : List Nat} (h : gapB c = false ∧ c ≠ 35) : gapN false (c :: x) = 0 := by simp [gapN, h.1, h.2]
theorem tok1_ne2 (l : List Nat) : (tok1 l).2.2 ≠ 2 := by
  have hG : ∀ (ds : List Nat) (n : Int), (valG n ds).2 ≠ 2 := by
    intro ds
    induction ds with
    | nil => intro n; simp [valG]
    | cons d t ih => intro n; simp only [valG]; split
                     · simp
                     · exact ih _
  have hV : ∀ ds, (valD ds).2 ≠ 2 := by
    intro ds
    unfold valD
    split
    · simp
    · exact hG _ _
  cases l with
  | nil => simp [tok1]
  | cons c t =>
    simp only [tok1]
    split
    · split <;> simp
    · split
      · split
        · simp
        · exact hV _
      · split <;> simp
/-- where an error stands -/
theorem lexA_errV : ∀ (N : Nat) (r : List Nat) (a n : Nat) (e : Int) (p : Nat), r.length ≤ N → n ≤ 2000 → lexA r a n = .err e p →
    ∃ ts c t, V r a p ts ∧ r.drop (p - a) = c :: t ∧ gapB c = false ∧ c ≠ 35 ∧ a ≤ p ∧ p < a + r.length ∧ ((n + ts.length = 2000 ∧ e = 2) ∨ (n + ts.length < 2000 ∧ (tok1 (c :: t)).2.2 = e ∧ e ≠ 0 ∧ e ≠ 2)) := by
  intro N
  induction N with
  | zero =>
    intro r a n e p hr hn h
    obtain rfl : r = [] := List.eq_nil_of_length_eq_zero (by omega)
    rw [lexA_eq] at h
    simp [lexB] at h
  | succ N ih =>
    intro r a n e p hr hn h
    rw [lexA_eq] at h
    cases hd : r.drop (gapN false r) with
    | nil => rw [hd] at h; simp [lexB] at h
    | cons c t =>
      rw [hd] at h
      have hl : (r.drop (gapN false r)).length = t.length + 1 := by rw [hd]; rfl
      rw [List.length_drop] at hl
      have hc := gap_stop hd
      simp only [lexB] at h
      split at h
      · rename_i h2
        injection h with h3 h4
        subst h4
        exact ⟨[], c, t, V.here r a, by rw [Nat.add_sub_cancel_left]; exact hd, hc.1, hc.2, by omega, by omega, .inl ⟨by simpa using h2, h3.symm⟩⟩
      · rename_i h2
        split at h
        · rename_i h3
          cases hx : lexA (t.drop ((tok1 (c :: t)).2.1 - 1)) (a + gapN false r + (tok1 (c :: t)).2.1) (n + 1) with
          | ok rest => rw [hx] at h; simp [Res.pre] at h
          | err e2 p2 =>
            rw [hx] at h
            simp only [Res.pre] at h
            injection h with h4 h5
            subst h4 h5
            have hm := tok1_le (c :: t)
            have hpos := tok1_pos h3
            simp only [List.length_cons] at hm
            obtain ⟨ts, c', t', i1, i2, i3, i4, i5, i6, i7⟩ := ih _ _ _ _ _ (by simp; omega) (by omega) hx
            have hdd : r.drop (p2 - a) = (t.drop ((tok1 (c :: t)).2.1 - 1)).drop (p2 - (a + gapN false r + (tok1 (c :: t)).2.1)) := by
              rw [show p2 - a = gapN false r + (1 + ((tok1 (c :: t)).2.1 - 1 + (p2 - (a + gapN false r + (tok1 (c :: t)).2.1)))) by omega, ← List.drop_drop, hd, ← List.drop_drop]
              simp
            refine ⟨_ :: ts, c', t', V.step hd h3 i1, by rw [hdd]; exact i2, i3, i4, by omega, by simp only [List.length_drop] at i6; omega, ?_⟩
            rcases i7 with ⟨q1, q2⟩ | ⟨q1, q2⟩
            · exact .inl ⟨by simp only [List.length_cons]; omega, q2⟩
            · exact .inr ⟨by simp only [List.length_cons]; omega, q2⟩
        · rename_i h3
          injection h with h4 h5
          subst h5
          exact ⟨[], c, t, V.here r a, by rw [Nat.add_sub_cancel_left]; exact hd, hc.1, hc.2, by omega, by omega, .inr ⟨by simp only [List.length_nil]; omega, h4, by rw [← h4]; exact h3, by rw [← h4]; exact tok1_ne2 _⟩⟩
/-- where a token stands -/
theorem lexA_okV : ∀ (N : Nat) (r : List Nat) (a n : Nat) (ts : List Tok) (k : Nat) (u : Tok), r.length ≤ N → lexA r a n = .ok ts → ts[k]? = some u →
    ∃ c t, V r a u.2.2.2 (ts.take k) ∧ r.drop (u.2.2.2 - a) = c :: t ∧ gapB c = false ∧ c ≠ 35 ∧ a ≤ u.2.2.2 ∧ u.2.2.2 < a + r.length ∧ lexA (c :: t) u.2.2.2 (n + k) = .ok (ts.drop k) := by
  intro N
  induction N with
  | zero =>
    intro r a n ts k u hr h hu
    obtain rfl : r = [] := List.eq_nil_of_length_eq_zero (by omega)
    rcases lexA_ok h with ⟨_, rfl⟩ | ⟨c, t, rest, h1, _⟩
    · simp at hu
    · simp at h1
  | succ N ih =>
    intro r a n ts k u hr h hu
    rcases lexA_ok h with ⟨h1, rfl⟩ | ⟨c, t, rest, h1, h2, h3, h4, rfl⟩
    · simp at hu
    · have hl : (r.drop (gapN false r)).length = t.length + 1 := by rw [h1]; rfl
      rw [List.length_drop] at hl
      have hc := gap_stop h1
      cases k with
      | zero =>
        simp only [List.getElem?_cons_zero, Option.some.injEq] at hu
        subst hu
        refine ⟨c, t, V.here r a, by simp only [Nat.add_sub_cancel_left]; exact h1, hc.1, hc.2, by simp only []; omega, by simp only []; omega, ?_⟩
        rw [lexA_eq, gap_zero hc]
        simp only [List.drop_zero, Nat.add_zero, lexB, if_neg h2, if_pos h3, h4, Res.pre]
      | succ k =>
        rw [List.getElem?_cons_succ] at hu
        have hm := tok1_le (c :: t)
        have hpos := tok1_pos h3
        simp only [List.length_cons] at hm
        obtain ⟨c', t', i1, i2, i3, i4, i5, i6, i7⟩ := ih _ _ _ _ _ _ (by simp; omega) h4 hu
        have hdd : r.drop (u.2.2.2 - a) = (t.drop ((tok1 (c :: t)).2.1 - 1)).drop (u.2.2.2 - (a + gapN false r + (tok1 (c :: t)).2.1)) := by
          rw [show u.2.2.2 - a = gapN false r + (1 + ((tok1 (c :: t)).2.1 - 1 + (u.2.2.2 - (a + gapN false r + (tok1 (c :: t)).2.1)))) by omega, ← List.drop_drop, h1, ← List.drop_drop]
          simp
        refine ⟨c', t', by rw [List.take_succ_cons]; exact V.step h1 h3 i1, by rw [hdd]; exact i2, i3, i4, by omega, by simp only [List.length_drop] at i6; omega, ?_⟩
        rw [List.drop_succ_cons, show n + (k + 1) = n + 1 + k by omega]
        exact i7
/-- a gap, whatever stands before it -/
def GapS (g : List Nat) : Prop := (∀ b x, gapN b (g ++ x) = g.length + gapN (b && decide (g = [32] ∨ g = [9, 9])) x) ∧ ∀ y z, g = y :: z → namB y = false
theorem gapS1 : GapS [32] := ⟨fun b x => by cases b <;> simp [gapN, gapB], fun y z e => by injection e with e _; subst e; decide⟩
theorem gapS2 : GapS [9, 9] := ⟨fun b x => by cases b <;> simp [gapN, gapB] <;> omega, fun y z e => by injection e with e _; subst e; decide⟩
theorem gapS3 : GapS [10] := ⟨fun b x => by cases b <;> simp [gapN, gapB], fun y z e => by injection e with e _; subst e; decide⟩
theorem gapS4 : GapS [32, 35, 32, 97, 32, 55, 59, 10] := ⟨fun b x => by cases b <;> simp [gapN, gapB] <;> omega, fun y z e => by injection e with e _; subst e; decide⟩
theorem gapS5 : GapS [35, 10, 10] := ⟨fun b x => by cases b <;> simp [gapN, gapB] <;> omega, fun y z e => by injection e with e _; subst e; decide⟩
theorem GapS.all {g : List Nat} (h : GapS g) (b : Bool) : gapN b g = g.length := by
  have := h.1 b []
  rw [List.append_nil] at this
  rw [this]
  cases (b && decide (g = [32] ∨ g = [9, 9])) <;> simp [gapN]
theorem GapS.skip {g : List Nat} (h : GapS g) (x : List Nat) : gapN false (g ++ x) = g.length + gapN false x := by
  have := h.1 false x
  simpa using this
theorem gap_tail {g : List Nat} (hg : GapS g) : ∀ {r : List Nat} {b : Bool}, gapN b r = r.length → gapN b (r ++ g) = r.length + g.length := by
  intro r
  induction r with
  | nil => intro b h; simp [hg.all]
  | cons c r ih =>
    intro b h
    have hle := gapN_le true r
    have hle2 := gapN_le false r
    cases b
    · simp only [List.cons_append, gapN, List.length_cons] at h ⊢
      split
      · rename_i hg
        rw [if_pos hg] at h
        rw [ih (by omega)]; omega
      · rename_i hg
        rw [if_neg hg] at h
        split
        · rename_i hc
          rw [if_pos hc] at h
          rw [ih (by omega)]; omega
        · rename_i hc
          rw [if_neg hc] at h
          omega
    · simp only [List.cons_append, gapN, List.length_cons] at h ⊢
      split
      · rename_i hg
        rw [if_pos hg] at h
        rw [ih (by omega)]; omega
      · rename_i hg
        rw [if_neg hg] at h
        rw [ih (by omega)]; omega
/-- a gap behind all tokens -/
theorem lexA_tail {g : List Nat} (hg : GapS g) : ∀ (N : Nat) (r : List Nat) (a n : Nat) (ts : List Tok), r.length ≤ N → lexA r a n = .ok ts → lexA (r ++ g) a n = .ok ts := by
  intro N
  induction N with
  | zero =>
    intro r a n ts hr h
    obtain rfl : r = [] := List.eq_nil_of_length_eq_zero (by omega)
    rcases lexA_ok h with ⟨_, rfl⟩ | ⟨c, t, rest, h1, _⟩
    · rw [List.nil_append, lexA_eq, hg.all, List.drop_length]; rfl
    · simp at h1
  | succ N ih =>
    intro r a n ts hr h
    rcases lexA_ok h with ⟨h1, rfl⟩ | ⟨c, t, rest, h1, h2, h3, h4, rfl⟩
    · have hgr : gapN false r = r.length := by
        have q1 := gapN_le false r
        have q2 : (r.drop (gapN false r)).length = 0 := by rw [h1]; rfl
        rw [List.length_drop] at q2
        omega
      rw [lexA_eq, gap_tail hg hgr, List.drop_eq_nil_of_le (by simp)]
      rfl
    · have hl : (r.drop (gapN false r)).length = t.length + 1 := by rw [h1]; rfl
      rw [List.length_drop] at hl
      have hgi := gap_in (x := g) (r := r) (b := false) (by omega)
      have hd : (r ++ g).drop (gapN false r) = c :: (t ++ g) := by
        rw [List.drop_append_of_le_length (by omega), h1]; rfl
      have hm := tok1_le (c :: t)
      have hp := tok1_pos h3
      simp only [List.length_cons] at hm
      have ht : tok1 (c :: (t ++ g)) = tok1 (c :: t) := tok1_app hg.2
      rw [lexA_eq, hgi, hd]
      simp only [lexB, ht, if_neg h2, if_pos h3]
      have hdt : (t ++ g).drop ((tok1 (c :: t)).2.1 - 1) = t.drop ((tok1 (c :: t)).2.1 - 1) ++ g := List.drop_append_of_le_length (by omega)
      rw [hdt, ih _ _ _ _ (by simp; omega) h4]
      rfl
/-- THE LAW OF GAPS, plain: before a token -/
theorem gaps_at {l g : List Nat} {ts : List Tok} {k : Nat} {u : Tok} (hg : GapS g) (hl : lexS l = .ok ts) (hu : ts[k]? = some u) (h8 : l.length + g.length ≤ 8000) :
    lexS (l.take u.2.2.2 ++ g ++ l.drop u.2.2.2) = .ok (ts.take k ++ (ts.drop k).map (sh g.length)) := by
  obtain ⟨_, hA, hlen, hoff⟩ := lexS_bd hl
  obtain ⟨c, t, i1, i2, i3, i4, _, i6, i7⟩ := lexA_okV _ _ _ _ _ _ _ (Nat.le_refl _) hA hu
  rw [Nat.sub_zero] at i2
  rw [Nat.zero_add] at i6 i7
  have hk : k < ts.length := (List.getElem?_eq_some_iff.1 hu).1
  have htk : (ts.take k).length = k := by rw [List.length_take]; omega
  unfold lexS
  rw [if_neg (by simp only [List.length_append, List.length_take, List.length_drop]; omega), List.append_assoc]
  have hput := i1.put (g ++ l.drop u.2.2.2) 0 (by omega) (by omega) (fun y z e => by
    cases hgc : g with
    | nil => have := hg.1 true [65]; rw [hgc] at this; simp [gapN, gapB] at this
    | cons y' z' =>
      rw [hgc] at e
      injection e with e1 _
      subst e1
      exact .inl (hg.2 _ _ hgc))
  rw [Nat.sub_zero, Nat.zero_add, htk] at hput
  rw [hput]
  have hd : (g ++ l.drop u.2.2.2).drop g.length = l.drop u.2.2.2 := List.drop_left
  rw [lexA_skip (m := g.length) (by rw [hd]; exact hg.skip _), hd, i2]
  have hs := (lexA_sh _ _ _ _ _ g.length k (Nat.le_refl _) i7 (by omega)).1 (by rw [List.length_drop]; omega)
  rw [hs]
  rfl
/-- THE LAW OF GAPS, plain: at the end -/
theorem gaps_end {l g : List Nat} {ts : List Tok} (hg : GapS g) (hl : lexS l = .ok ts) (h8 : l.length + g.length ≤ 8000) : lexS (l ++ g) = .ok ts := by
  obtain ⟨_, hA, hlen, hoff⟩ := lexS_bd hl
  unfold lexS
  rw [if_neg (by simp only [List.length_append]; omega)]
  exact lexA_tail hg _ _ _ _ _ (Nat.le_refl _) hA
/-- THE LAW OF ERRORS, plain -/
theorem errs {l : List Nat} {e : Int} {p : Nat} (h8 : l.length ≤ 8000) (hl : lexS l = .err e p) :
    p < l.length ∧ ∃ ts, lexS (l.take p) = .ok ts ∧ (e = 2 → ts.length = 2000) ∧
      ∀ tail : List Nat, (l.take (max (p + 1) (p + (tok1 (l.drop p)).2.1)) ++ 32 :: tail).length ≤ 8000 → lexS (l.take (max (p + 1) (p + (tok1 (l.drop p)).2.1)) ++ 32 :: tail) = .err e p := by
  unfold lexS at hl
  rw [if_neg (by omega)] at hl
  obtain ⟨ts, c, t, i1, i2, i3, i4, _, i6, i7⟩ := lexA_errV _ _ _ _ _ _ (Nat.le_refl _) (by omega) hl
  rw [Nat.sub_zero] at i2
  rw [Nat.zero_add] at i6 i7
  have hts : ts.length ≤ 2000 := by rcases i7 with i7 | i7 <;> omega
  refine ⟨i6, ts, ?_, ?_, ?_⟩
  · have hput := i1.put [] 0 (by omega) (by omega) (fun y z e => by simp at e)
    rw [Nat.sub_zero, Nat.zero_add, List.append_nil] at hput
    unfold lexS
    rw [if_neg (by rw [List.length_take]; omega), hput, lexA_eq]
    simp [gapN, lexB, Res.app]
  · intro he
    rcases i7 with i7 | i7
    · exact i7.1
    · exact absurd he i7.2.2.2
  · intro tail ht
    have hm := tok1_le (l.drop p)
    have hlc : (l.drop p).length = t.length + 1 := by rw [i2]; rfl
    rw [List.length_drop] at hlc hm
    obtain ⟨j, hj⟩ : ∃ j, max (p + 1) (p + (tok1 (l.drop p)).2.1) = p + j := ⟨max (p + 1) (p + (tok1 (l.drop p)).2.1) - p, by omega⟩
    rw [hj] at ht ⊢
    have e1 : l.take (p + j) ++ 32 :: tail = l.take p ++ ((c :: t).take j ++ 32 :: tail) := by rw [List.take_add, i2, List.append_assoc]
    have hj1 : 1 ≤ j := by omega
    have hj2 : (tok1 (c :: t)).2.1 ≤ j := by rw [← i2]; omega
    obtain ⟨i, rfl⟩ : ∃ i, j = i + 1 := ⟨j - 1, by omega⟩
    have e2 : (c :: t).take (i + 1) ++ 32 :: tail = c :: (t.take i ++ 32 :: tail) := by simp
    have htok := tok1_cut (x := 32 :: tail) hj1 hj2 (fun y z e => by injection e with e _; subst e; exact .inl (by decide))
    unfold lexS
    rw [if_neg (by omega), e1, e2]
    rw [e2] at htok
    have hput := i1.put (c :: (t.take i ++ 32 :: tail)) 0 (by omega) (by omega) (fun y z e => by
      injection e with e _
      subst e
      right
      have q : (l.drop p)[0]? = some c := by rw [i2]; rfl
      rw [List.getElem?_drop] at q
      simpa using q)
    rw [Nat.sub_zero, Nat.zero_add] at hput
    rw [hput, lexA_eq, gap_zero ⟨i3, i4⟩, List.drop_zero, Nat.add_zero]
    simp only [lexB, htok]
    rcases i7 with ⟨q1, q2⟩ | ⟨q1, q2, q3, q4⟩
    · rw [if_pos q1, q2]; rfl
    · rw [if_neg (by omega), if_neg (by rw [q2]; exact q3), q2]; rfl
end Go.Proofs.Ytkmjflkodckflaa
