/-
  THE LAW: the memory of the chargers that are copied, and laid to steps of one ampere.
-/
import Derived.Test.YtkhmlbkkdflnoaaW17
namespace Go.Proofs.Ytkhmlbkkdflnoaa.Nm
open Go.RowKit Go.Proofs.Ytkhmlbkkdflnoaa Go
set_option linter.unusedVariables false
set_option linter.unusedSimpArgs false

/-- what is read of a site as it comes in -/
structure SMr (w : World) (S : Sit) : Prop where
  rows : ∀ t, t < 5 → RV w (S.A t) (wid t) (S.n t) (S.N t) (S.Z t)
  cap : ∀ t, t < 5 → S.n t ≤ S.c t ∧ S.c t ≤ 9223372036854775807
  short : ∀ t, t < 5 → ∀ i, i < S.n t → (S.N t i).size ≤ maxLen
  none : ∀ t, t < 5 → S.A t = none → S.n t = 0 ∧ S.c t = 0
theorem SMr.keep {w w' : World} {S : Sit} (x : SMr w S) (hb : Below w.heap.size w w') : SMr w' S := ⟨fun t h => (x.rows t h).keep hb, x.cap, x.short, x.none⟩
def chf (N : Nat → ByteArray) (Z : Nat → Nat → Int) (q : Nat) : Value := if q % 8 = 0 then .string (N (q / 8)) else .int .i64 (Z (q / 8) (q % 8))
def chl (N : Nat → ByteArray) (Z : Nat → Nat → Int) (n : Nat) : List Value := (List.range (n * 8)).map (chf N Z)
theorem chl_get (N : Nat → ByteArray) (Z : Nat → Nat → Int) (n q : Nat) (h : q < n * 8) : (chl N Z n)[q]? = some (chf N Z q) := by simp [chl, h]
theorem chl_set (N : Nat → ByteArray) (Z Z' : Nat → Nat → Int) (n q : Nat) (u : Value) (h : ∀ p, p < n * 8 → (if p = q then u else chf N Z p) = chf N Z' p) : (chl N Z n).set q u = chl N Z' n := by
  apply List.ext_getElem?
  intro p
  by_cases hp : p < n * 8
  · rw [chl_get _ _ _ _ hp, List.getElem?_set, ← h p hp]
    by_cases e : q = p
    · subst e; simp [chl, hp]
    · rw [if_neg e, chl_get _ _ _ _ hp, if_neg (fun e' => e e'.symm)]
  · rw [List.getElem?_eq_none (by simp [chl]; omega), List.getElem?_eq_none (by simp [chl]; omega)]
/-- one cell otherwise -/
def updZ (Z : Nat → Nat → Int) (i j : Nat) (x : Int) : Nat → Nat → Int := fun a b => if a = i ∧ b = j then x else Z a b
theorem chf_upd (N : Nat → ByteArray) (Z : Nat → Nat → Int) (i j : Nat) (x : Int) (hj : 1 ≤ j ∧ j < 8) (p : Nat) : (if p = i * 8 + j then .int .i64 x else chf N Z p) = chf N (updZ Z i j x) p := by
  unfold chf updZ
  by_cases e : p = i * 8 + j
  · subst e
    have h1 : (i * 8 + j) % 8 = j := by omega
    have h2 : (i * 8 + j) / 8 = i := by omega
    rw [if_pos rfl, h1, h2, if_neg (by omega), if_pos ⟨rfl, rfl⟩]
  · rw [if_neg e]
    by_cases h0 : p % 8 = 0
    · rw [if_pos h0, if_pos h0]
    · rw [if_neg h0, if_neg h0, if_neg (fun h => e (by omega))]
/-- own chargers -/
def CHS (w : World) (B : Nat) (v : Value) (n : Nat) (N : Nat → ByteArray) (Z : Nat → Nat → Int) : Prop := w.ownsRow B 83 8 v n (chl N Z n)
theorem CHS.set {w : World} {B g n c : Nat} {N : Nat → ByteArray} {Z : Nat → Nat → Int} (h : CHS w B (.slice (some ⟨g, 0, none⟩) n c) n N Z) (i j : Nat) (x : Int) (hj : 1 ≤ j ∧ j < 8) : CHS (w.setCell ⟨g, i * 8 + j, none⟩ (.int .i64 x)) B (.slice (some ⟨g, 0, none⟩) n c) n N (updZ Z i j x) := by
  have h1 := World.ownsRow.stored h (i * 8 + j) (.int .i64 x)
  unfold CHS
  rw [← chl_set N Z (updZ Z i j x) n (i * 8 + j) (.int .i64 x) (fun p _ => chf_upd N Z i j x hj p)]
  exact h1.1
theorem CHS.cell {w : World} {B g n c : Nat} {N : Nat → ByteArray} {Z : Nat → Nat → Int} (h : CHS w B (.slice (some ⟨g, 0, none⟩) n c) n N Z) {i j : Nat} (hi : i < n) (hj : 1 ≤ j ∧ j < 8) : w.cell? ⟨g, i * 8 + j, none⟩ = some (.int .i64 (Z i j)) ∧ w.frozen? ⟨g, i * 8 + j, none⟩ = false := by
  refine ⟨?_, World.ownsRow.frozenAt h _⟩
  rw [World.ownsRow.cellAt h _ (by omega), chl_get _ _ _ _ (by omega)]
  have h1 : (i * 8 + j) % 8 = j := by omega
  have h2 : (i * 8 + j) / 8 = i := by omega
  unfold chf
  rw [h1, h2, if_neg (by omega)]
theorem CHS.rv {w : World} {B n c : Nat} {A : Option Addr} {N : Nat → ByteArray} {Z : Nat → Nat → Int} (h : CHS w B (.slice A n c) n N Z) : RV w A 8 n N Z := fun i hi => by
  obtain ⟨g, cap, e, hB, hlt⟩ := World.ownsRow.form h (by omega)
  cases e
  refine ⟨g, 0, rfl, hlt, ?_, fun j h1 h2 => ?_⟩
  · rw [Nat.zero_add, World.ownsRow.cellAt h _ (by omega), chl_get _ _ _ _ (by omega)]
    unfold chf
    rw [if_pos (by omega), show i * 8 / 8 = i by omega]
  · rw [Nat.zero_add]
    exact (CHS.cell h hi ⟨h1, h2⟩).1
/-- the chargers' copy -/
theorem chr_copy {r0 : TypeInfo} (hJ : Try.prog.info? 83 = some r0) (h0 : r0.zero = some (.agg #[.string ⟨#[]⟩, .int .i64 0, .int .i64 0, .int .i64 0, .int .i64 0, .int .i64 0, .int .i64 0, .int .i64 0])) (h1 : r0.size = 8) (h2 : r0.bytes = 72)
    (A : Option Addr) (n c : Nat) (N : Nat → ByteArray) (Z : Nat → Nat → Int) (W : World) (hn : n ≤ 40) (hA : A = none → n = 0 ∧ c = 0) (hR : RV W A 8 n N Z) (cs : Array Value) (hcs : cs.size = n * 8) :
    ∃ v' w', Sem.run Try.prog (appF #[77, 77] 77 #[.slice (some ⟨W.heap.size, 0, none⟩) 0 n, .slice A n c]) (W.alloc (.cells cs 83)) = .ok v' w' ∧ CHS w' W.heap.size v' n N Z ∧ Below W.heap.size W w' := by
  have hown : (W.alloc (.cells cs 83)).ownsRow W.heap.size 83 8 (.slice (some ⟨W.heap.size, 0, none⟩) 0 n) 0 [] := World.ownsRow_made W cs n (Nat.le_refl _) (by unfold maxLen; omega) hcs
  cases A with
  | none =>
    obtain ⟨rfl, rfl⟩ := hA rfl
    have hr := run_append_owned_none (P := Try.prog) (W.alloc (.cells cs 83)) W.heap.size 77 77 83 r0 8 Try.underlying77 hJ _ 0 [] hown
    exact ⟨_, _, hr, by simpa [CHS, chl] using hown, bel_alloc (Below.refl _ _) _⟩
  | some a =>
    obtain ⟨ab, ao, asp⟩ := a
    have hsp : 0 < n → asp = none := fun h => by
      obtain ⟨b, o, e, _⟩ := hR 0 h
      cases e
      rfl
    obtain ⟨v', w', hr, hown', hgrow, _, hat⟩ := run_append_own_at (P := Try.prog) (W.alloc (.cells cs 83)) W.heap.size 77 77 83 r0 _ 8 72 Try.underlying77 hJ h0 h1 h2 rfl (by decide) (.slice (some ⟨W.heap.size, 0, none⟩) 0 n) 0 [] hown ⟨ab, ao, asp⟩ n c (chl N Z n) (by simp [chl]) (fun j u hu => by
        have hj : j < n * 8 := by have := (List.getElem?_eq_some_iff.1 hu).1; simpa [chl] using this
        have hs := hsp (by omega)
        subst hs
        rw [chl_get _ _ _ _ hj] at hu
        cases hu
        obtain ⟨b, o, e, hl, h3, h4⟩ := hR (j / 8) (by omega)
        cases e
        have hadd : (⟨ab, ao, none⟩ : Addr).add j = ⟨ab, ao + j, none⟩ := by unfold Addr.add; split <;> simp_all
        rw [hadd, under hl]
        unfold chf
        by_cases h8 : j % 8 = 0
        · rw [if_pos h8, show ao + j = ao + j / 8 * 8 by omega]
          exact h3
        · rw [if_neg h8, show ao + j = ao + j / 8 * 8 + j % 8 by omega]
          exact h4 _ (by omega) (by omega)) (by
        intro u hu
        unfold chl at hu
        rw [List.mem_map] at hu
        obtain ⟨q, _, rfl⟩ := hu
        unfold chf
        split <;> rfl) (by unfold maxLen; omega) (by omega) (by simp)
    refine ⟨v', w', hr, by simpa [CHS] using hown', ?_⟩
    exact ((Below.refl _ W).alloc (Nat.le_refl _) _).grown hgrow (by simp) (fun k e => by cases e; exact Nat.le_refl _)
end Go.Proofs.Ytkhmlbkkdflnoaa.Nm
