/-
  steps.Share in plain words; it shares as fair.Share does.
-/
import Derived.Test.YtkhmlbkkdflnoaaFpl
import Derived.Test.YtkhmlbkkdflnoaaRis
namespace Go.Proofs.Ytkhmlbkkdflnoaa.Nm
open Go.RowKit Go.Proofs.Ytkhmlbkkdflnoaa Go
set_option linter.unusedVariables false
set_option linter.unusedSimpArgs false

structure GSt where
  some : Bool
  su : Nat → Int
  lv : Nat → Int
def mayG (P : List (Nat × Nat)) (cap lim su lv : Nat → Int) (level : Int) (m : Nat) : Bool := decide (lv m = level - 1) && (decide (level ≤ lim m) && (inL P m).all fun i => decide (su i + 1 ≤ cap i))
def grise (P : List (Nat × Nat)) (cap lim : Nat → Int) (level : Int) (s : GSt) (m : Nat) : GSt :=
  if mayG P cap lim s.su s.lv level m = true then ⟨true, inc (inL P m) s.su, fun j => if j = m then s.lv m + 1 else s.lv j⟩ else s
def gpass (P : List (Nat × Nat)) (cap lim : Nat → Int) (level : Int) (zs : List Nat) (su lv : Nat → Int) : GSt := zs.foldl (grise P cap lim level) ⟨false, su, lv⟩
theorem gpass_snoc (P : List (Nat × Nat)) (cap lim : Nat → Int) (level : Int) (zs : List Nat) (m : Nat) (su lv : Nat → Int) : gpass P cap lim level (zs ++ [m]) su lv = grise P cap lim level (gpass P cap lim level zs su lv) m := by simp [gpass, List.foldl_append]
def grun (P : List (Nat × Nat)) (cap lim : Nat → Int) (zs : List Nat) : Nat → Int → (Nat → Int) → (Nat → Int) → (Nat → Int)
  | 0, _, _, lv => lv
  | f + 1, level, su, lv => if (gpass P cap lim level zs su lv).some = true then grun P cap lim zs f (level + 1) (gpass P cap lim level zs su lv).su (gpass P cap lim level zs su lv).lv else (gpass P cap lim level zs su lv).lv
theorem dec_inc (l : List Nat) (cap su lf : Nat → Int) (h : ∀ i, lf i = cap i - su i) : ∀ i, dec l lf i = cap i - inc l su i := by
  induction l using rev_ind with
  | h0 => simpa [dec, inc] using h
  | h1 pre x ih =>
    intro i
    rw [dec_snoc, inc_snoc]
    have h1 := ih i
    have h2 := ih x
    by_cases e : i = x
    · subst e; simp; omega
    · simp [e]; omega
theorem mayG_iff {P : List (Nat × Nat)} {cap lim su lv : Nat → Int} {level : Int} {m : Nat} : mayG P cap lim su lv level m = true ↔ lv m = level - 1 ∧ level ≤ lim m ∧ ∀ i ∈ inL P m, su i + 1 ≤ cap i := by
  unfold mayG
  simp only [Bool.and_eq_true, decide_eq_true_eq, List.all_eq_true]
structure Same (R n : Nat) (P : List (Nat × Nat)) (top cap x : Nat → Int) (level : Int) (pre : List Nat) (F : FSt) (G : GSt) : Prop where
  lv : G.lv = F.x
  su : ∀ i, F.lf i = cap i - G.su i
  kept : F.kept = pre.filter fun m => decide (F.x m = level)
  some : G.some = decide (¬ F.kept.length = 0)
  out : ∀ m, m ∉ pre → F.x m = x m
  le : ∀ m, m < n → F.x m ≤ level
theorem pass_eq {R n : Nat} {P : List (Nat × Nat)} {top cap lf x su : Nat → Int} {level : Int} (hN : ∀ m, m < n → (inL P m).Nodup) (hR : ∀ m, m < n → ∀ i ∈ inL P m, i < R) (hG : Gd R n top lf x) (hl : ∀ i, lf i = cap i - su i) (hx : ∀ m, m < n → x m ≤ level - 1) :
    ∀ pre : List Nat, pre.Nodup → (∀ m ∈ pre, m < n) → Same R n P top cap x level pre (fpass P top (pre.filter fun m => decide (x m = level - 1)) lf x) (gpass P cap top level pre su x) := by
  intro pre
  induction pre using rev_ind with
  | h0 => intro _ _; exact ⟨rfl, hl, by simp [fpass], by simp [fpass, gpass], fun _ _ => rfl, fun m hm => by have := hx m hm; simp only [fpass, List.filter_nil, List.foldl_nil]; omega⟩
  | h1 pre m ih =>
    intro hnd hlt
    rw [List.nodup_append] at hnd
    obtain ⟨d1, _, d3⟩ := hnd
    have hnm : m ∉ pre := fun h => d3 m h m (by simp) rfl
    have hmn := hlt m (by simp)
    have i0 := ih d1 (fun a ha => hlt a (by simp [ha]))
    have hok := (fpass_ok (P := P) (top := top) hN hR (pre.filter fun m => decide (x m = level - 1)) lf x (fun a ha => hlt a (by simp [(List.mem_filter.1 ha).1])) hG).1
    rw [gpass_snoc, List.filter_append]
    obtain ⟨F, hF⟩ : ∃ F, fpass P top (pre.filter fun m => decide (x m = level - 1)) lf x = F := ⟨_, rfl⟩
    obtain ⟨G, hGG⟩ : ∃ G, gpass P cap top level pre su x = G := ⟨_, rfl⟩
    rw [hF, hGG] at i0
    rw [hF] at hok
    rw [hGG]
    obtain ⟨s1, s2, s3, s4, s5, s6⟩ := i0
    have hxm := s5 m hnm
    have hxl := hx m hmn
    by_cases hc : x m = level - 1
    · rw [show List.filter (fun m => decide (x m = level - 1)) [m] = [m] by simp [hc], fpass_snoc, hF]
      have hiff : mayG P cap top G.su G.lv level m = mayB top F.x F.lf (inL P m) m := by
        rw [Bool.eq_iff_iff, mayG_iff, mayB_iff, s1]
        have ht := (hok.x m hmn).2
        constructor
        · rintro ⟨_, h2, h3⟩
          refine ⟨by omega, fun i hi => ?_⟩
          have := h3 i hi
          have := s2 i
          omega
        · rintro ⟨h2, h3⟩
          refine ⟨by omega, by omega, fun i hi => ?_⟩
          have h4 := h3 i hi
          have h5 := s2 i
          have h6 := (hok.lf i (hR m hmn i hi)).1
          omega
      unfold grise frise
      rw [hiff]
      by_cases hy : mayB top F.x F.lf (inL P m) m = true
      · rw [if_pos hy, if_pos hy]
        refine ⟨by simp [s1], dec_inc _ _ _ _ s2, ?_, by simp, fun a ha => ?_, fun a ha => ?_⟩
        · rw [List.filter_append]
          have e1 : List.filter (fun a => decide ((if a = m then F.x m + 1 else F.x a) = level)) pre = pre.filter fun a => decide (F.x a = level) := List.filter_congr fun a ha => by have h8 : a ≠ m := fun e => hnm (by rw [← e]; exact ha); simp only [if_neg h8]
          have e2 : List.filter (fun a => decide ((if a = m then F.x m + 1 else F.x a) = level)) [m] = [m] := by simp; omega
          rw [e1, e2, s3]
        · have : a ≠ m := fun e => ha (by simp [e])
          simp only [if_neg this]
          exact s5 a (fun h => ha (by simp [h]))
        · have h9 := s6 a ha
          simp only
          split
          · omega
          · exact h9
      · rw [if_neg hy, if_neg hy]
        refine ⟨s1, s2, ?_, s4, fun a ha => s5 a (fun h => ha (by simp [h])), s6⟩
        rw [List.filter_append, ← s3]
        have : List.filter (fun a => decide (F.x a = level)) [m] = [] := by simp; omega
        rw [this, List.append_nil]
    · rw [show List.filter (fun m => decide (x m = level - 1)) [m] = [] by simp [hc], List.append_nil, hF]
      have hno : ¬ mayG P cap top G.su G.lv level m = true := fun h => hc (by have := (mayG_iff.1 h).1; rw [s1] at this; omega)
      unfold grise
      rw [if_neg hno]
      refine ⟨s1, s2, ?_, s4, fun a ha => s5 a (fun h => ha (by simp [h])), s6⟩
      rw [List.filter_append, ← s3]
      have : List.filter (fun a => decide (F.x a = level)) [m] = [] := by simp; omega
      rw [this, List.append_nil]
theorem run_eq {R n : Nat} {P : List (Nat × Nat)} {top cap : Nat → Int} {zs : List Nat} (hN : ∀ m, m < n → (inL P m).Nodup) (hR : ∀ m, m < n → ∀ i ∈ inL P m, i < R) (hz : zs.Nodup) (hzn : ∀ m ∈ zs, m < n) : ∀ (k : Nat) (level : Int) (lf x su : Nat → Int), Gd R n top lf x → (∀ i, lf i = cap i - su i) → (∀ m, m < n → x m ≤ level - 1) →
    frun P top k (zs.filter fun m => decide (x m = level - 1)) lf x = grun P cap top zs k level su x := by
  intro k
  induction k with
  | zero => intro level lf x su _ _ _; rfl
  | succ k ih =>
    intro level lf x su hG hl hx
    have hs := pass_eq hN hR hG hl hx zs hz hzn
    have hok := (fpass_ok (P := P) (top := top) hN hR (zs.filter fun m => decide (x m = level - 1)) lf x (fun a ha => hzn a (List.mem_filter.1 ha).1) hG).1
    unfold frun grun
    obtain ⟨F, hF⟩ : ∃ F, fpass P top (zs.filter fun m => decide (x m = level - 1)) lf x = F := ⟨_, rfl⟩
    obtain ⟨G, hGG⟩ : ∃ G, gpass P cap top level zs su x = G := ⟨_, rfl⟩
    rw [hF, hGG] at hs
    rw [hF] at hok
    rw [hF, hGG]
    obtain ⟨s1, s2, s3, s4, s5, s6⟩ := hs
    by_cases h0 : F.kept.length = 0
    · rw [if_pos h0, if_neg (by rw [s4]; simp [h0]), s1]
    · rw [if_neg h0, if_pos (by rw [s4]; simp [h0]), s1]
      have h := ih (level + 1) F.lf F.x G.su hok s2 (fun m hm => by have := s6 m hm; omega)
      rw [← h, s3, show level + 1 - 1 = level by omega]
end Go.Proofs.Ytkhmlbkkdflnoaa.Nm
