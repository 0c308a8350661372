/-
  THE PLAIN LAW of lexing, sixth part: the texts of tokens.
-/
import Derived.Test.YtkmjflkodckflaaVis
namespace Go.Proofs.Ytkmjflkodckflaa
set_option linter.unusedVariables false
set_option linter.unusedSimpArgs false

/-- the digits of a number -/
def digs (n : Nat) : List Nat := if h : n < 10 then [48 + n] else digs (n / 10) ++ [48 + n % 10]
termination_by n
decreasing_by omega
theorem digs_lt {n : Nat} (h : n < 10) : digs n = [48 + n] := by rw [digs, dif_pos h]
theorem digs_ge {n : Nat} (h : ¬ n < 10) : digs n = digs (n / 10) ++ [48 + n % 10] := by rw [digs, dif_neg h]
theorem valG_snoc : ∀ (ds : List Nat) (m : Int) (d : Nat) (n : Int), valG m (ds ++ [d]) = (n, 0) → ∃ q, valG m ds = (q, 0) ∧ n = 10 * q + ((d : Int) - 48) ∧ n ≤ 1000000 := by
  intro ds
  induction ds with
  | nil =>
    intro m d n h
    simp only [List.nil_append, valG] at h
    split at h
    · injection h with _ h; simp at h
    · injection h with h _; exact ⟨m, rfl, h.symm, by omega⟩
  | cons c t ih =>
    intro m d n h
    simp only [List.cons_append, valG] at h
    split at h
    · injection h with _ h; simp at h
    · rename_i hc
      obtain ⟨q, h1, h2⟩ := ih _ _ _ h
      exact ⟨q, by simp only [valG, if_neg hc]; exact h1, h2⟩
theorem valG_ge : ∀ (ds : List Nat) (m n : Int), 0 ≤ m → (∀ d ∈ ds, digB d = true) → valG m ds = (n, 0) → m ≤ n := by
  intro ds
  induction ds with
  | nil => intro m n hm hd h; simp only [valG] at h; injection h with h _; omega
  | cons c t ih =>
    intro m n hm hd h
    have hc : 48 ≤ c ∧ c ≤ 57 := by simpa [digB] using hd c (by simp)
    simp only [valG] at h
    split at h
    · injection h with _ h; simp at h
    · have := ih _ _ (by omega) (fun d hd' => hd d (by simp [hd'])) h
      omega
/-- digits without a zero ahead are those of their value -/
theorem digs_val : ∀ (N : Nat) (ds : List Nat) (n : Int), ds.length ≤ N → ds ≠ [] → (∀ d ∈ ds, digB d = true) → ¬ (1 < ds.length ∧ ds.head? = some 48) → valG 0 ds = (n, 0) → 0 ≤ n ∧ n ≤ 1000000 ∧ digs n.toNat = ds := by
  intro N
  induction N with
  | zero => intro ds n hl hne; exact absurd (List.eq_nil_of_length_eq_zero (by omega)) hne
  | succ N ih =>
    intro ds n hl hne hd hz h
    have hsn : ds = ds.dropLast ++ [ds.getLast hne] := (List.dropLast_concat_getLast hne).symm
    obtain ⟨is, d, rfl⟩ : ∃ is d, ds = is ++ [d] := ⟨_, _, hsn⟩
    have hdd : 48 ≤ d ∧ d ≤ 57 := by simpa [digB] using hd d (by simp)
    obtain ⟨q, h1, h2, h3⟩ := valG_snoc is 0 d n h
    cases is with
    | nil =>
      simp only [valG] at h1
      injection h1 with h1 _
      subst h1
      refine ⟨by omega, h3, ?_⟩
      rw [digs_lt (by omega)]
      simp only [List.nil_append, List.cons.injEq, and_true]
      omega
    | cons c t =>
      have hz2 : c ≠ 48 := fun e => hz ⟨by simp, by simp [e]⟩
      have hc : 48 ≤ c ∧ c ≤ 57 := by simpa [digB] using hd c (by simp)
      obtain ⟨i1, i2, i3⟩ := ih (c :: t) q (by simp only [List.length_append, List.length_cons, List.length_nil] at hl ⊢; omega) (by simp) (fun x hx => hd x (by simp only [List.mem_append]; exact .inl hx)) (fun hh => hz2 (by simpa using hh.2)) h1
      have hq : 1 ≤ q := by
        simp only [valG] at h1
        split at h1
        · injection h1 with _ h1; simp at h1
        · have := valG_ge t _ q (by omega) (fun x hx => hd x (by simp [hx])) h1
          omega
      refine ⟨by omega, h3, ?_⟩
      obtain ⟨Q, rfl⟩ : ∃ Q : Nat, q = Q := ⟨q.toNat, by omega⟩
      have e1 : n.toNat = 10 * Q + (d - 48) := by omega
      rw [Int.toNat_natCast] at i3
      rw [e1, digs_ge (by omega), show (10 * Q + (d - 48)) / 10 = Q by omega, i3, show (10 * Q + (d - 48)) % 10 = d - 48 by omega]
      congr 2
      omega
/-- the text of a token -/
def txt (t : Tok) : List Nat := if t.1 = 2 then digs t.2.2.1.toNat else t.2.1
theorem tw_all {p : Nat → Bool} (l : List Nat) : ∀ d ∈ l.takeWhile p, p d = true := by
  induction l with
  | nil => intro d hd; simp at hd
  | cons c l ih =>
    intro d hd
    rw [List.takeWhile_cons] at hd
    split at hd
    · rename_i hc
      rcases List.mem_cons.1 hd with rfl | h
      · exact hc
      · exact ih d h
    · simp at hd
/-- a token's text stands there; kinds and numbers -/
theorem tok1_txt {c : Nat} {t : List Nat} {a : Nat} (h : (tok1 (c :: t)).2.2 = 0) :
    txt ((tok1 (c :: t)).1.1, (tok1 (c :: t)).1.2.1, (tok1 (c :: t)).1.2.2, a) = (c :: t).take (tok1 (c :: t)).2.1 ∧ 0 ≤ (tok1 (c :: t)).1.2.2 ∧ (tok1 (c :: t)).1.2.2 ≤ 1000000 ∧ ((tok1 (c :: t)).1.1 = 2 ∨ (tok1 (c :: t)).1.1 = 1 ∨ (tok1 (c :: t)).1.1 = 3) := by
  by_cases hl : lowB c = true
  · simp only [tok1, hl, if_true] at h ⊢
    split at h
    · simp at h
    · rename_i hn
      simp only [hn, if_false]
      exact ⟨by simp [txt, take_while], by omega, by omega, by simp⟩
  · by_cases hd : digB c = true
    · simp only [tok1, hl, hd, if_true, if_false, Bool.false_eq_true] at h ⊢
      split at h
      · rename_i hv
        simp only [hv, if_true]
        have hne : (c :: t).takeWhile digB ≠ [] := by simp [List.takeWhile_cons, hd]
        unfold valD at hv ⊢
        split at hv
        · simp at hv
        · rename_i hz
          simp only [hz, if_false]
          have := digs_val _ _ (valG 0 ((c :: t).takeWhile digB)).1 (Nat.le_refl _) hne (tw_all _) hz (Prod.ext rfl hv)
          exact ⟨by simp only [txt, if_true]; rw [this.2.2, take_while], this.1, this.2.1, by simp⟩
      · exact absurd h ‹_›
    · simp only [tok1, hl, hd, if_false, Bool.false_eq_true] at h ⊢
      split at h
      · rename_i hp
        simp only [hp, if_true]
        exact ⟨by simp [txt], by omega, by omega, by simp⟩
      · simp at h
/-- the tokens cover the source -/
def Cov (l : List Nat) : Nat → List Tok → Prop
  | at_, [] => at_ ≤ l.length ∧ gapE l at_ = l.length
  | at_, t :: ts => at_ ≤ l.length ∧ gapE l at_ = t.2.2.2 ∧ txt t ≠ [] ∧ at_ ≤ t.2.2.2 ∧ t.2.2.2 + (txt t).length ≤ l.length ∧ (l.drop t.2.2.2).take (txt t).length = txt t ∧ (0 ≤ t.2.2.1 ∧ t.2.2.1 ≤ 1000000) ∧ Cov l (t.2.2.2 + (txt t).length) ts
theorem lexA_cov : ∀ (N : Nat) (l : List Nat) (a n : Nat) (ts : List Tok), (l.drop a).length ≤ N → a ≤ l.length → lexA (l.drop a) a n = .ok ts → Cov l a ts := by
  intro N
  induction N with
  | zero =>
    intro l a n ts hN ha h
    rw [List.length_drop] at hN
    obtain rfl : a = l.length := by omega
    rcases lexA_ok h with ⟨_, rfl⟩ | ⟨c, t, rest, h1, _⟩
    · exact ⟨ha, by simp [gapE, gapN]⟩
    · simp at h1
  | succ N ih =>
    intro l a n ts hN ha h
    rcases lexA_ok h with ⟨h1, rfl⟩ | ⟨c, t, rest, h1, h2, h3, h4, rfl⟩
    · refine ⟨ha, ?_⟩
      have q1 := gapN_le false (l.drop a)
      have q2 : ((l.drop a).drop (gapN false (l.drop a))).length = 0 := by rw [h1]; rfl
      rw [List.length_drop, List.length_drop] at q2
      rw [List.length_drop] at q1
      unfold gapE
      omega
    · have hl : ((l.drop a).drop (gapN false (l.drop a))).length = t.length + 1 := by rw [h1]; rfl
      rw [List.length_drop, List.length_drop] at hl
      have hm := tok1_le (c :: t)
      have hp := tok1_pos h3
      simp only [List.length_cons] at hm
      obtain ⟨e1, e2, e3, _⟩ := tok1_txt (a := a + gapN false (l.drop a)) h3
      have hdr : l.drop (a + gapN false (l.drop a)) = c :: t := by rw [← List.drop_drop]; exact h1
      have hlen : ((c :: t).take (tok1 (c :: t)).2.1).length = (tok1 (c :: t)).2.1 := by rw [List.length_take, List.length_cons]; omega
      refine ⟨ha, rfl, ?_, by simp only []; omega, ?_, ?_, ⟨e2, e3⟩, ?_⟩
      · rw [e1]; intro hh; rw [hh] at hlen; simp only [List.length_nil] at hlen; omega
      · rw [e1, hlen]; simp only []; omega
      · simp only []; rw [e1, hlen, hdr]
      · simp only []; rw [e1, hlen]
        have hdd : t.drop ((tok1 (c :: t)).2.1 - 1) = l.drop (a + gapN false (l.drop a) + (tok1 (c :: t)).2.1) := by
          rw [← List.drop_drop, hdr]
          obtain ⟨i, hi⟩ : ∃ i, (tok1 (c :: t)).2.1 = i + 1 := ⟨(tok1 (c :: t)).2.1 - 1, by omega⟩
          rw [hi]; rfl
        rw [hdd] at h4
        exact ih l _ _ _ (by rw [List.length_drop] at hN ⊢; omega) (by omega) h4
theorem lexS_cov {l : List Nat} {ts : List Tok} (h : lexS l = .ok ts) : Cov l 0 ts := by
  obtain ⟨_, hA, _⟩ := lexS_bd h
  exact lexA_cov _ l 0 0 ts (Nat.le_refl _) (by omega) (by simpa using hA)
/-- the texts, each followed by a blank -/
def wrT : List Tok → List Nat
  | [] => []
  | t :: ts => txt t ++ [32] ++ wrT ts
/-- tokens alike apart from offsets -/
def AlikeT (a b : List Tok) : Prop := a.length = b.length ∧ ∀ i, i < a.length → (atK a i).1 = (atK b i).1 ∧ (atK a i).2.1 = (atK b i).2.1 ∧ (atK a i).2.2.1 = (atK b i).2.2.1
theorem AlikeT.cons {a b : List Tok} {t u : Tok} (h : AlikeT a b) (h1 : t.1 = u.1) (h2 : t.2.1 = u.2.1) (h3 : t.2.2.1 = u.2.2.1) : AlikeT (t :: a) (u :: b) := by
  refine ⟨by simp [h.1], fun i hi => ?_⟩
  cases i with
  | zero => simpa [atK] using ⟨h1, h2, h3⟩
  | succ i =>
    have := h.2 i (by simpa using hi)
    simpa [atK] using this
theorem lexA_wr : ∀ (N : Nat) (r : List Nat) (a n : Nat) (ts : List Tok) (p : Nat), r.length ≤ N → lexA r a n = .ok ts → ∃ us, lexA (wrT ts) p n = .ok us ∧ AlikeT ts us := by
  intro N
  induction N with
  | zero =>
    intro r a n ts p hr h
    obtain rfl : r = [] := List.eq_nil_of_length_eq_zero (by omega)
    rcases lexA_ok h with ⟨_, rfl⟩ | ⟨c, t, rest, h1, _⟩
    · exact ⟨[], by rw [lexA_eq]; rfl, rfl, fun i hi => by simp at hi⟩
    · simp at h1
  | succ N ih =>
    intro r a n ts p hr h
    rcases lexA_ok h with ⟨h1, rfl⟩ | ⟨c, t, rest, h1, h2, h3, h4, rfl⟩
    · exact ⟨[], by rw [wrT, lexA_eq]; rfl, rfl, fun i hi => by simp at hi⟩
    · have hl : (r.drop (gapN false r)).length = t.length + 1 := by rw [h1]; rfl
      rw [List.length_drop] at hl
      have hc := gap_stop h1
      have hm := tok1_le (c :: t)
      have hp := tok1_pos h3
      simp only [List.length_cons] at hm
      obtain ⟨us, i1, i2⟩ := ih _ _ _ _ (p + (tok1 (c :: t)).2.1 + 1) (by simp; omega) h4
      obtain ⟨e1, _⟩ := tok1_txt (a := a + gapN false r) h3
      have htk := tok1_cut (x := 32 :: wrT rest) (j := (tok1 (c :: t)).2.1) hp (Nat.le_refl _) (fun y z e => by injection e with e _; subst e; exact .inl (by decide))
      obtain ⟨i, hi⟩ : ∃ i, (tok1 (c :: t)).2.1 = i + 1 := ⟨(tok1 (c :: t)).2.1 - 1, by omega⟩
      have e2 : wrT (((tok1 (c :: t)).1.1, (tok1 (c :: t)).1.2.1, (tok1 (c :: t)).1.2.2, a + gapN false r) :: rest) = c :: (t.take i ++ 32 :: wrT rest) := by
        rw [wrT, e1, hi]; simp
      have e3 : (c :: t).take (tok1 (c :: t)).2.1 ++ 32 :: wrT rest = c :: (t.take i ++ 32 :: wrT rest) := by rw [hi]; simp
      rw [e3] at htk
      have hdd : (t.take i ++ 32 :: wrT rest).drop ((tok1 (c :: t)).2.1 - 1) = 32 :: wrT rest := by
        have : (t.take i).length = i := by rw [List.length_take]; omega
        rw [hi, Nat.add_sub_cancel]
        conv => lhs; arg 1; rw [← this]
        exact List.drop_left
      refine ⟨((tok1 (c :: t)).1.1, (tok1 (c :: t)).1.2.1, (tok1 (c :: t)).1.2.2, p) :: us, ?_, i2.cons rfl rfl rfl⟩
      rw [e2, lexA_eq, gap_zero hc, List.drop_zero, Nat.add_zero]
      simp only [lexB, htk, if_neg h2, if_pos h3, hdd]
      rw [lexA_skip (m := 1) (by simp [gapN, gapB]), List.drop_succ_cons, List.drop_zero, i1]
      rfl
theorem lexS_wr {l : List Nat} {ts : List Tok} (h : lexS l = .ok ts) : ((wrT ts).length ≤ 8000 → ∃ us, lexS (wrT ts) = .ok us ∧ AlikeT ts us) ∧ (8000 < (wrT ts).length → lexS (wrT ts) = .err 2 0) := by
  obtain ⟨_, hA, _⟩ := lexS_bd h
  obtain ⟨us, h1, h2⟩ := lexA_wr _ _ _ _ _ 0 (Nat.le_refl _) hA
  refine ⟨fun h8 => ⟨us, ?_, h2⟩, fun h8 => ?_⟩
  · unfold lexS; rw [if_neg (by omega)]; exact h1
  · unfold lexS; rw [if_pos h8]
end Go.Proofs.Ytkmjflkodckflaa
