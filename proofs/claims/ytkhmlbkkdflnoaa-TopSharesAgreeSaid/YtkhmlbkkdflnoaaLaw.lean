/-
  THE LAW TopSharesAgree: its own walk. (Printed by gen_law.py.)
-/
import Derived.Test.YtkhmlbkkdflnoaaLwa
import Derived.Test.YtkhmlbkkdflnoaaFits
namespace Go.Proofs.Ytkhmlbkkdflnoaa.Nm
open Go.RowKit Go.Proofs.Ytkhmlbkkdflnoaa Go
set_option linter.unusedVariables false
set_option linter.unusedSimpArgs false
attribute [local go_sem ↓] Go.wp_at_zero Go.wp_at_succ
attribute [local go_sem ↓] appF_fold

/-- the site's box -/
def boxS (S : Sit) (v : Value) : Obj := .cells #[.slice (S.A 0) (S.n 0) (S.c 0), .slice (S.A 1) (S.n 1) (S.c 1), .slice (S.A 2) (S.n 2) (S.c 2), v, .slice (S.A 4) (S.n 4) (S.c 4)] 80 (0, 0)
/-- the chargers' numbers, those below k laid to steps of one ampere -/
def oneZ (Z : Nat → Nat → Int) (k i j : Nat) : Int := if i < k then (if j = 3 then 1 else if j = 5 then 1 else if j = 6 then 0 else Z i j) else Z i j
/-- the site with the copy of its chargers -/
def Sit.with3 (S : Sit) (A : Option Addr) (c : Nat) (Z : Nat → Nat → Int) : Sit where
  A := fun t => if t = 3 then A else S.A t
  n := S.n
  c := fun t => if t = 3 then c else S.c t
  N := S.N
  Z := fun t => if t = 3 then Z else S.Z t
/-- what stands while the copy is laid out -/
structure LC (S : Sit) (v : Value) (B k : Nat) (w0 w : World) : Prop where
  box : w.heap[w0.heap.size]? = some (boxS S v)
  chs : CHS w B v (S.n 3) (S.N 3) (oneZ (S.Z 3) k)
  bel : Below w0.heap.size w0 w
  sz : B ≤ w.heap.size
theorem oneZ_zero (Z : Nat → Nat → Int) : oneZ Z 0 = Z := by funext i j; simp [oneZ]
theorem LC.three {S : Sit} {B k g c : Nat} {w0 w : World} (h : LC S (.slice (some ⟨g, 0, none⟩) (S.n 3) c) B k w0 w) (hB : w0.heap.size < B) (hg : B ≤ g) (j1 j2 j3 : Nat) (x1 x2 x3 : Int)
    (hp : (j1 = 3 ∧ x1 = 1 ∧ j2 = 5 ∧ x2 = 1 ∧ j3 = 6 ∧ x3 = 0) ∨ (j1 = 3 ∧ x1 = 1 ∧ j2 = 6 ∧ x2 = 0 ∧ j3 = 5 ∧ x3 = 1) ∨ (j1 = 5 ∧ x1 = 1 ∧ j2 = 3 ∧ x2 = 1 ∧ j3 = 6 ∧ x3 = 0) ∨ (j1 = 5 ∧ x1 = 1 ∧ j2 = 6 ∧ x2 = 0 ∧ j3 = 3 ∧ x3 = 1) ∨ (j1 = 6 ∧ x1 = 0 ∧ j2 = 3 ∧ x2 = 1 ∧ j3 = 5 ∧ x3 = 1) ∨ (j1 = 6 ∧ x1 = 0 ∧ j2 = 5 ∧ x2 = 1 ∧ j3 = 3 ∧ x3 = 1)) :
    LC S (.slice (some ⟨g, 0, none⟩) (S.n 3) c) B (k + 1) w0 (((w.setCell ⟨g, k * 8 + j1, none⟩ (.int .i64 x1)).setCell ⟨g, k * 8 + j2, none⟩ (.int .i64 x2)).setCell ⟨g, k * 8 + j3, none⟩ (.int .i64 x3)).drew := by
  have hj : (1 ≤ j1 ∧ j1 < 8) ∧ (1 ≤ j2 ∧ j2 < 8) ∧ 1 ≤ j3 ∧ j3 < 8 := by omega
  have e : updZ (updZ (updZ (oneZ (S.Z 3) k) k j1 x1) k j2 x2) k j3 x3 = oneZ (S.Z 3) (k + 1) := by
    funext a b
    unfold updZ oneZ
    by_cases ha : a = k
    · subst ha
      simp only [true_and, show ¬ a < a by omega, if_false, show a < a + 1 by omega, if_true]
      rcases hp with ⟨rfl, rfl, rfl, rfl, rfl, rfl⟩ | ⟨rfl, rfl, rfl, rfl, rfl, rfl⟩ | ⟨rfl, rfl, rfl, rfl, rfl, rfl⟩ | ⟨rfl, rfl, rfl, rfl, rfl, rfl⟩ | ⟨rfl, rfl, rfl, rfl, rfl, rfl⟩ | ⟨rfl, rfl, rfl, rfl, rfl, rfl⟩ <;>
        (by_cases h3 : b = 3
         · subst h3; simp
         · by_cases h5 : b = 5
           · subst h5; simp
           · by_cases h6 : b = 6
             · subst h6; simp
             · simp [h3, h5, h6])
    · simp only [ha, false_and, if_false]
      by_cases hl : a < k
      · simp only [hl, if_true, show a < k + 1 by omega]
      · simp only [hl, if_false, show ¬ a < k + 1 by omega]
  have hc := ((h.chs.set k j1 x1 hj.1).set k j2 x2 hj.2.1).set k j3 x3 hj.2.2
  rw [e] at hc
  have hbx : ∀ (W : World) (q : Nat) (u : Value), (W.setCell ⟨g, q, none⟩ u).heap[w0.heap.size]? = W.heap[w0.heap.size]? := fun W q u => Below.heap_setCell _ ⟨g, q, none⟩ _ _ (by simp only; omega)
  refine ⟨(hbx _ _ _).trans ((hbx _ _ _).trans ((hbx _ _ _).trans h.box)), hc, (((h.bel.setCell (p := ⟨g, _, none⟩) (by simp only; omega) _).setCell (p := ⟨g, _, none⟩) (by simp only; omega) _).setCell (p := ⟨g, _, none⟩) (by simp only; omega) _).drew, ?_⟩
  have := h.sz
  show B ≤ (World.setCell _ _ _).heap.size
  simpa [World.setCell] using this
theorem sm_with3 {S : Sit} {A' : Option Addr} {c' B : Nat} {Z' : Nat → Nat → Int} {w : World} (h : SMr w S) (hf : ∀ t, t < 5 → S.n t ≤ 40) (hc : S.n 3 ≤ c' ∧ c' ≤ 9223372036854775807) (hn : A' = none → S.n 3 = 0 ∧ c' = 0) (hch : CHS w B (.slice A' (S.n 3) c') (S.n 3) (S.N 3) Z') : SM5 w (S.with3 A' c' Z') := by
  refine ⟨fun t ht => ?_, hf, fun t ht => ?_, h.short, fun t ht e => ?_⟩
  · have h5 : t = 0 ∨ t = 1 ∨ t = 2 ∨ t = 3 ∨ t = 4 := by omega
    rcases h5 with rfl | rfl | rfl | rfl | rfl
    · exact h.rows 0 ht
    · exact h.rows 1 ht
    · exact h.rows 2 ht
    · exact hch.rv
    · exact h.rows 4 ht
  · have h5 : t = 0 ∨ t = 1 ∨ t = 2 ∨ t = 3 ∨ t = 4 := by omega
    rcases h5 with rfl | rfl | rfl | rfl | rfl
    · exact h.cap 0 ht
    · exact h.cap 1 ht
    · exact h.cap 2 ht
    · exact hc
    · exact h.cap 4 ht
  · have h5 : t = 0 ∨ t = 1 ∨ t = 2 ∨ t = 3 ∨ t = 4 := by omega
    rcases h5 with rfl | rfl | rfl | rfl | rfl
    · exact (h.none 0 ht e).1
    · exact (h.none 1 ht e).1
    · exact (h.none 2 ht e).1
    · exact (hn e).1
    · exact (h.none 4 ht e).1
/-- the row of the numbers that are no more than the chargers' -/
def TopL (W0 : World) (lim : Nat → Int) (k : Nat) (v : Value) (w : World) : Prop := w.ownsRow W0.heap.size 3 1 v k ((List.range k).map fun i => .int .i64 (lim i)) ∧ Below W0.heap.size W0 w
theorem TopL.rz {W0 w : World} {lim : Nat → Int} {k : Nat} {v : Value} (h : TopL W0 lim k v w) : ∃ A c, v = .slice A k c ∧ (k ≤ c ∧ c ≤ 9223372036854775807) ∧ RZ w A k lim := by
  obtain ⟨A, c, rfl, hc, hn, hs⟩ := own_form h.1
  refine ⟨A, c, rfl, hc, fun i hi => ?_⟩
  cases A with
  | none => have := (hn rfl).1; omega
  | some a =>
    obtain ⟨g, rfl⟩ := hs a rfl
    refine ⟨g, 0, rfl, (h.1.lt g rfl).2, ?_⟩
    rw [Nat.zero_add, h.1.cellAt i (by omega)]
    simp [hi]
theorem TopL.alloc {W0 w : World} {lim : Nat → Int} {k : Nat} {v : Value} (h : TopL W0 lim k v w) (o : Obj) : TopL W0 lim k v (w.alloc o).drew := ⟨h.1.alloc o, (bel_alloc h.2 o).drew⟩
theorem TopL.app {r0 : TypeInfo} (hJ : Try.prog.info? 3 = some r0) (h0 : r0.zero = some (.int .i64 0)) (h1 : r0.size = 1) (h2 : r0.bytes = 8) {W0 w : World} {lim : Nat → Int} {k : Nat} {v : Value} (h : TopL W0 lim k v w) (hk : k ≤ 1000) (x : Int) (hx : lim k = x) :
    ∃ v' w', Sem.run Try.prog (appF #[46, 46] 46 #[v, .slice (some ⟨w.heap.size, 0, none⟩) 1 1]) (w.alloc (.cells #[.int .i64 x] 3)) = .ok v' w' ∧ TopL W0 lim (k + 1) v' w' := by
  obtain ⟨v', w', hr, hown, hgrow, _, hat⟩ := run_append_own_at (P := Try.prog) (w.alloc (.cells #[.int .i64 x] 3)) W0.heap.size 46 46 3 r0 _ 1 8 Try.underlying46 hJ h0 h1 h2 rfl (by decide) v k _ (h.1.alloc _) ⟨w.heap.size, 0, none⟩ 1 1 [.int .i64 x] rfl (World.news_of_block (heap_alloc_new w _)) (by simp [Value.oneCell']) (by unfold maxLen; omega) (by omega) (by have := h.2.size; simp; omega)
  refine ⟨v', w', hr, ?_, ?_⟩
  · rw [List.range_succ, List.map_append, List.map_singleton, hx]
    exact hown
  · have := h.2.size
    exact (h.2.alloc this _).grown hgrow (by simp; omega) (fun j e => (h.1.lt j e).1)
theorem TopL.nil (W0 : World) (lim : Nat → Int) : TopL W0 lim 0 (.slice none 0 0) W0 := ⟨World.ownsRow_nil _ _ _ _, Below.refl _ _⟩
set_option maxRecDepth 100000 in
set_option maxHeartbeats 16000000 in
theorem law_walk (S : Sit) (BM : Option Addr) (nm cm : Nat) (mo : Nat → Int) (C : Option Addr) (no cz : Nat) (z : Nat → Int) (w : World) (hM : SMr w S) (hB : RZ w BM nm mo) (hbm : nm ≤ cm ∧ cm ≤ 9223372036854775807) (hC : RZ w C no z) (hbc : no ≤ cz ∧ cz ≤ 9223372036854775807) :
    Calls Try.prog 8 #[.agg #[.slice (S.A 0) (S.n 0) (S.c 0), .slice (S.A 1) (S.n 1) (S.c 1), .slice (S.A 2) (S.n 2) (S.c 2), .slice (S.A 3) (S.n 3) (S.c 3), .slice (S.A 4) (S.n 4) (S.c 4)], .slice BM nm cm, .slice C no cz] w fun e w' => e = .returned (.bool true) ∧ Below w.heap.size w w' := by
  have HM := Lib.hid hM
  have HB := Lib.hid hB
  have HC := Lib.hid hC
  have HT : Hid (∀ {a b c : World}, Below a.heap.size a b → Below b.heap.size b c → Below a.heap.size a c) := Lib.hid fun h k => h.trans (k.mono h.size)
  have HFEW : Hid (∀ W, Calls Try.prog 25 #[.agg #[.slice (S.A 0) (S.n 0) (S.c 0), .slice (S.A 1) (S.n 1) (S.c 1), .slice (S.A 2) (S.n 2) (S.c 2), .slice (S.A 3) (S.n 3) (S.c 3), .slice (S.A 4) (S.n 4) (S.c 4)]] W fun e w' => yesP (∀ t, t < 5 → S.n t ≤ 40) e ∧ Below W.heap.size W w') := Lib.hid fun W => few_any S.A S.n S.c W
  have HW17 : Hid (∀ W, Calls Try.prog 24 #[] W fun e w' => e = .returned (.bool true) ∧ Below W.heap.size W w') := Lib.hid w17_walk
  clear hM hB hC
  go_enter Try.func8, Try.ntmps8
  go_upto_region 1 with fail
  refine nameW ?_
  intro W0 hW0
  have HB0 : Hid (Below w.heap.size w W0) := Lib.hid (by rw [← hW0]; exact bel_alloc (Below.refl _ _) _)
  have HBX : Hid (W0.heap[w.heap.size]? = some (.cells #[.slice (S.A 0) (S.n 0) (S.c 0), .slice (S.A 1) (S.n 1) (S.c 1), .slice (S.A 2) (S.n 2) (S.c 2), .slice (S.A 3) (S.n 3) (S.c 3), .slice (S.A 4) (S.n 4) (S.c 4)] 80 (0, 0))) := Lib.hid (by rw [← hW0]; exact World.alloc_heap_new w _)
  clear hW0
  go_upto_region 2 with (go_at_call 24; with_reducible refine (HW17.out _).mono ?_; rintro e W1 ⟨rfl, hb1⟩)
  have HX1 := Lib.hid hb1
  have HB1 := Lib.hid (HT.out HB0.out hb1)
  have hbx := (hb1.block _ (Array.getElem?_eq_some_iff.1 HBX.out).1).trans HBX.out
  have HBX1 := Lib.hid hbx
  have c0 : W1.cell? ⟨w.heap.size, 0, none⟩ = some (.slice (S.A 0) (S.n 0) (S.c 0)) := by rw [cell_of_row W1 _ _ _ _ (0, 0) hbx]; rfl
  have c1 : W1.cell? ⟨w.heap.size, 1, none⟩ = some (.slice (S.A 1) (S.n 1) (S.c 1)) := by rw [cell_of_row W1 _ _ _ _ (0, 0) hbx]; rfl
  have c2 : W1.cell? ⟨w.heap.size, 2, none⟩ = some (.slice (S.A 2) (S.n 2) (S.c 2)) := by rw [cell_of_row W1 _ _ _ _ (0, 0) hbx]; rfl
  have c3 : W1.cell? ⟨w.heap.size, 3, none⟩ = some (.slice (S.A 3) (S.n 3) (S.c 3)) := by rw [cell_of_row W1 _ _ _ _ (0, 0) hbx]; rfl
  have c4 : W1.cell? ⟨w.heap.size, 4, none⟩ = some (.slice (S.A 4) (S.n 4) (S.c 4)) := by rw [cell_of_row W1 _ _ _ _ (0, 0) hbx]; rfl
  clear hb1 hbx
  go_upto_region 3 with (go_at_call 25; with_reducible refine (HFEW.out _).mono ?_; rintro e W2 ⟨hy, hb2⟩; obtain ⟨r, rfl, hr⟩ := yes_open hy)
  have HB2 := Lib.hid (HT.out HB1.out hb2)
  have hbx := (hb2.block _ (Array.getElem?_eq_some_iff.1 HBX1.out).1).trans HBX1.out
  have HBX2 := Lib.hid hbx
  have HR := Lib.hid hr
  clear hb2 hbx c0 c1 c2 c3 c4 hy hr
  cases r
  · go_wp2_with fail
    all_goals (try (exfalso; omega))
    go_ret
    exact ⟨rfl, HB2.out⟩
  · have hfew := HR.out rfl
    by_cases hm40 : nm ≤ 40
    · by_cases ho40 : no ≤ 40
      · go_upto_region 5 with fail
        all_goals (try (exfalso; omega))
        have hbx := HBX2.out
        have c3 : W2.cell? ⟨w.heap.size, 3, none⟩ = some (.slice (S.A 3) (S.n 3) (S.c 3)) := by rw [cell_of_row W2 _ _ _ _ (0, 0) hbx]; rfl
        have hn3 := hfew 3 (by omega)
        obtain ⟨i0, hi, hz0, hz1, hz2⟩ := info_parts infoChr
        have hmk : ∀ W : World, (Instr.makeSlice 77 (.int .i64 0) (.int .i64 ((S.n 3 : Nat) : Int))).run Try.prog W = .ok (.slice (some ⟨W.heap.size, 0, none⟩) 0 (S.n 3)) (W.alloc (.cells (madeCells (Value.agg #[.string ⟨#[]⟩, .int .i64 0, .int .i64 0, .int .i64 0, .int .i64 0, .int .i64 0, .int .i64 0, .int .i64 0]).cells (S.n 3 * 8)) 83)) := fun W => by
          have := run_make_rowN (P := Try.prog) 77 83 i0 _ Try.underlying77 hi hz0 .i64 .i64 0 (S.n 3) (by omega) (by rw [hz2]; omega) (by omega) W
          rw [hz1] at this
          exact this
        obtain ⟨cs, hcs⟩ : ∃ cs, madeCells (Value.agg #[.string ⟨#[]⟩, .int .i64 0, .int .i64 0, .int .i64 0, .int .i64 0, .int .i64 0, .int .i64 0, .int .i64 0]).cells (S.n 3 * 8) = cs := ⟨_, rfl⟩
        rw [hcs] at hmk
        obtain ⟨v', w', hrun, hchs, hbw⟩ := chr_copy hi hz0 hz1 hz2 (S.A 3) (S.n 3) (S.c 3) (S.N 3) (S.Z 3) W2.drew hn3 (HM.out.none 3 (by omega)) ((HM.out.keep HB2.out.drew).rows 3 (by omega)) cs (by rw [← hcs]; exact size_madeCells _ _)
        obtain ⟨A', c', rfl, hc', hA'⟩ := own_form hchs
        have hrun' : Sem.run Try.prog (appF #[77, 77] 77 #[.slice (some ⟨W2.heap.size, 0, none⟩) 0 (S.n 3), .slice (S.A 3) (S.n 3) (S.c 3)]) (W2.alloc (.cells cs 83)).drew = .ok (.slice A' (S.n 3) c') w' := hrun
        have hbw2 : Below W2.heap.size W2 w' := ⟨hbw.os, hbw.tape, hbw.output, hbw.size, hbw.block⟩
        have hbx' := (hbw2.block _ (Array.getElem?_eq_some_iff.1 hbx).1).trans hbx
        have c3' : w'.cell? ⟨w.heap.size, 3, none⟩ = some (.slice (S.A 3) (S.n 3) (S.c 3)) := by rw [cell_of_row w' _ _ _ _ (0, 0) hbx']; rfl
        have f3' : w'.frozen? ⟨w.heap.size, 3, none⟩ = false := by simp [World.frozen?, hbx']
        obtain ⟨B, hBB⟩ : ∃ B, W2.heap.size = B := ⟨_, rfl⟩
        have hwB : w.heap.size < B := by have := (Array.getElem?_eq_some_iff.1 hbx).1; omega
        have HCUT : Hid ((w'.setCell ⟨w.heap.size, 3, none⟩ (.slice A' (S.n 3) c')).heap[w.heap.size]? = some (boxS S (.slice A' (S.n 3) c')) ∧ CHS (w'.setCell ⟨w.heap.size, 3, none⟩ (.slice A' (S.n 3) c')) B (.slice A' (S.n 3) c') (S.n 3) (S.N 3) (S.Z 3) ∧ Below w.heap.size w (w'.setCell ⟨w.heap.size, 3, none⟩ (.slice A' (S.n 3) c')) ∧ B ≤ (w'.setCell ⟨w.heap.size, 3, none⟩ (.slice A' (S.n 3) c')).heap.size) := Lib.hid (by
          refine ⟨by simp [World.setCell, Array.getElem?_modify, hbx', boxS], ?_, ?_, ?_⟩
          · have h1 : w'.ownsRow B 83 8 (.slice A' (S.n 3) c') (S.n 3) (chl (S.N 3) (S.Z 3) (S.n 3)) := by rw [← hBB]; exact hchs
            exact own_at h1 (fun g hg _ => Below.heap_setCell _ ⟨w.heap.size, 3, none⟩ _ g (by simp only; omega))
          · exact (HT.out HB2.out hbw2).setCell (p := ⟨w.heap.size, 3, none⟩) (Nat.le_refl _) _
          · have := hbw2.size
            simp [World.setCell]
            omega)
        have HCX : Hid ((S.n 3 ≤ c' ∧ c' ≤ 9223372036854775807) ∧ (A' = none → S.n 3 = 0 ∧ c' = 0)) := Lib.hid ⟨hc', hA'.1⟩
        have hwz : w.heap.size < W2.heap.size := (Array.getElem?_eq_some_iff.1 hbx).1
        clear hrun hchs hbw hbw2 hbx' hbx hi hz0 hz1 hz2 hcs hBB
        go_cut [] from 142 (fun wc => wc.heap[w.heap.size]? = some (boxS S (.slice A' (S.n 3) c')) ∧ CHS wc B (.slice A' (S.n 3) c') (S.n 3) (S.N 3) (S.Z 3) ∧ Below w.heap.size w wc ∧ B ≤ wc.heap.size)
        case first =>
          go_region
          all_goals
            go_wp2_with fail
            go_meet
            exact HCUT.out
        case rest =>
          obtain ⟨q1, q2, q3, q4⟩ := hcut
          obtain ⟨W5, hW5⟩ : ∃ x, x = wc := ⟨_, rfl⟩
          subst hW5
          have HLC0 : Hid (LC S (.slice A' (S.n 3) c') B 0 w W5) := Lib.hid ⟨q1, by rw [oneZ_zero]; exact q2, q3, q4⟩
          have c35 : W5.cell? ⟨w.heap.size, 3, none⟩ = some (.slice A' (S.n 3) c') := by rw [cell_of_row W5 _ _ _ _ (0, 0) q1]; rfl
          clear q1 q2 q3 q4 c3 c3' f3' hmk hrun' HCUT
          go_wp2_with fail
          clear c35
          go_loopw [46] (fun i wr => ∃ k : Nat, k ≤ S.n 3 ∧ i = .int .i64 k ∧ LC S (.slice A' (S.n 3) c') B k w wr) (fun i _ => S.n 3 - (intOf i).toNat)
          case atStart => exact ⟨0, by omega, rfl, HLC0.out⟩
          case round =>
            obtain ⟨k, hk, rfl, hlc⟩ := hrel
            obtain ⟨wb, hwb⟩ : ∃ x, x = wr := ⟨_, rfl⟩
            subst hwb
            have HLC := Lib.hid hlc
            by_cases hlt : k < S.n 3
            · obtain ⟨g, cap, e9, hBg, hglt⟩ := World.ownsRow.form hlc.chs (by omega)
              cases e9
              have c3 : wb.cell? ⟨w.heap.size, 3, none⟩ = some (.slice (some ⟨g, 0, none⟩) (S.n 3) c') := by rw [cell_of_row wb _ _ _ _ (0, 0) hlc.box]; rfl
              obtain ⟨a3, f3⟩ := CHS.cell hlc.chs hlt (j := 3) ⟨by omega, by omega⟩
              obtain ⟨a5, f5⟩ := CHS.cell hlc.chs hlt (j := 5) ⟨by omega, by omega⟩
              obtain ⟨a6, f6⟩ := CHS.cell hlc.chs hlt (j := 6) ⟨by omega, by omega⟩
              have hne : w.heap.size ≠ g := by omega
              have HTHREE := Lib.hid (fun j1 j2 j3 x1 x2 x3 hp => HLC.out.three hwB hBg j1 j2 j3 x1 x2 x3 hp)
              clear hlc
              go_upto_region 9 with fail
              all_goals (try (exfalso; omega))
              go_region
              all_goals
                go_wp2_with fail
                go_roundw
                case rel =>
                  refine ⟨k + 1, by omega, by go_num, ?_⟩
                  first
                    | exact HTHREE.out 3 5 6 1 1 0 (by simp)
                    | exact HTHREE.out 3 6 5 1 0 1 (by simp)
                    | exact HTHREE.out 5 3 6 1 1 0 (by simp)
                    | exact HTHREE.out 5 6 3 1 0 1 (by simp)
                    | exact HTHREE.out 6 3 5 0 1 1 (by simp)
                    | exact HTHREE.out 6 5 3 0 1 1 (by simp)
                case measure => simp [intOf] <;> omega
            · have hkn : k = S.n 3 := by omega
              subst hkn
              have hwbs : w.heap.size < wb.heap.size := by have := hlc.sz; omega
              have HM5 : Hid (SM5 wb (S.with3 A' c' (oneZ (S.Z 3) (S.n 3)))) := Lib.hid (sm_with3 (HM.out.keep hlc.bel) hfew HCX.out.1 HCX.out.2 hlc.chs)
              have HBM := Lib.hid (HB.out.keep hlc.bel)
              have HCM := Lib.hid (HC.out.keep hlc.bel)
              have HBW := Lib.hid hlc.bel
              have HT3 : Hid (∀ {b c : World}, Below wb.heap.size wb b → Below b.heap.size b c → Below wb.heap.size wb c) := Lib.hid fun h k => h.trans (k.mono h.size)
              have HF3 : Hid (∀ {W : World}, Below wb.heap.size wb W → Below w.heap.size w W) := Lib.hid fun h => hlc.bel.trans (h.mono hlc.bel.size)
              have HRV : Hid (Calls Try.prog 26 #[.agg #[.slice (S.A 0) (S.n 0) (S.c 0), .slice (S.A 1) (S.n 1) (S.c 1), .slice (S.A 2) (S.n 2) (S.c 2), .slice A' (S.n 3) c', .slice (S.A 4) (S.n 4) (S.c 4)]] wb fun e w' => yesP (SitP (S.with3 A' c' (oneZ (S.Z 3) (S.n 3)))) e ∧ Below wb.heap.size wb w') := Lib.hid (rvalid_any (S.with3 A' c' (oneZ (S.Z 3) (S.n 3))) wb HM5.out)
              have HCU : Hid (∀ W, Below wb.heap.size wb W → Calls Try.prog 27 #[.agg #[.slice (S.A 0) (S.n 0) (S.c 0), .slice (S.A 1) (S.n 1) (S.c 1), .slice (S.A 2) (S.n 2) (S.c 2), .slice A' (S.n 3) c', .slice (S.A 4) (S.n 4) (S.c 4)], .slice BM nm cm] W fun e w' => yesP (CuP nm (S.n 3) mo) e ∧ Below W.heap.size W w') := Lib.hid fun W hW => currents_any (S.with3 A' c' (oneZ (S.Z 3) (S.n 3))) BM nm cm mo W hm40 hbm (HBM.out.keep hW)
              have HOR : Hid (∀ W, Below wb.heap.size wb W → Calls Try.prog 28 #[.slice C no cz, .int .i64 ((S.n 3 : Nat) : Int)] W fun e w' => yesP (OrP no (S.n 3) z) e ∧ Below W.heap.size W w') := Lib.hid fun W hW => order_any C no cz (S.n 3) z W ho40 hn3 (HCM.out.keep hW)
              have HBOX : Hid (∀ W, Below wb.heap.size wb W → W.cell? ⟨w.heap.size, 0, none⟩ = some (.slice (S.A 0) (S.n 0) (S.c 0)) ∧ W.cell? ⟨w.heap.size, 1, none⟩ = some (.slice (S.A 1) (S.n 1) (S.c 1)) ∧ W.cell? ⟨w.heap.size, 2, none⟩ = some (.slice (S.A 2) (S.n 2) (S.c 2)) ∧ W.cell? ⟨w.heap.size, 3, none⟩ = some (.slice A' (S.n 3) c') ∧ W.cell? ⟨w.heap.size, 4, none⟩ = some (.slice (S.A 4) (S.n 4) (S.c 4))) := Lib.hid fun W hW => by
                have hx := (hW.block _ hwbs).trans hlc.box
                refine ⟨?_, ?_, ?_, ?_, ?_⟩ <;> (rw [cell_of_row W _ _ _ _ (0, 0) hx]; rfl)
              obtain ⟨c0, c1, c2, c3, c4⟩ := HBOX.out wb (Below.refl _ _)
              clear hlc
              go_upto_region 13 with (first
                | (go_at_call 26; with_reducible refine HRV.out.mono ?_; rintro e W7 ⟨hy, hb7⟩; obtain ⟨r7, rfl, hr7⟩ := yes_open hy; obtain ⟨c0, c1, c2, c3, c4⟩ := HBOX.out _ hb7)
                | (go_at_call 27; with_reducible refine (HCU.out _ hb7).mono ?_; rintro e W8 ⟨hy, hb8⟩; obtain ⟨r8, rfl, hr8⟩ := yes_open hy; obtain ⟨c0, c1, c2, c3, c4⟩ := HBOX.out _ (HT3.out hb7 hb8))
                | (go_at_call 28; with_reducible refine (HOR.out _ (HT3.out hb7 hb8)).mono ?_; rintro e W9 ⟨hy, hb9⟩; obtain ⟨r9, rfl, hr9⟩ := yes_open hy; obtain ⟨c0, c1, c2, c3, c4⟩ := HBOX.out _ (HT3.out (HT3.out hb7 hb8) hb9)))
              all_goals (try (exfalso; omega))
              all_goals (try (go_ret; exact ⟨rfl, by first | exact HF3.out hb7 | exact HF3.out (HT3.out hb7 hb8) | exact HF3.out (HT3.out (HT3.out hb7 hb8) hb9)⟩))
              have hrt : r9 = true := by first | assumption | (simpa using ‹(!r9) = false›)
              have hSP := hr7 ‹_›
              obtain ⟨rfl, hmo⟩ := hr8 ‹_›
              have hOP := hr9 hrt
              obtain rfl : no = S.n 3 := hOP.1
              subst hrt
              have HSP := Lib.hid hSP
              have HMO := Lib.hid hmo
              have HOP := Lib.hid hOP
              have HB9 := Lib.hid (HT3.out (HT3.out hb7 hb8) hb9)
              have hn16 : S.n 3 ≤ 16 := hSP.sizes.2.2.2.1
              have HZM : Hid (∀ i, i < S.n 3 → 1 ≤ S.Z 3 i 4 ∧ S.Z 3 i 4 ≤ 80) := Lib.hid fun i hi => by
                obtain ⟨⟨_, h3, h4, _⟩, _⟩ := hSP.chr i hi
                have e3 : oneZ (S.Z 3) (S.n 3) i 3 = 1 := by simp [oneZ, show i < S.n 3 from hi]
                have e4 : oneZ (S.Z 3) (S.n 3) i 4 = S.Z 3 i 4 := by simp [oneZ]
                have h4' : oneZ (S.Z 3) (S.n 3) i 3 ≤ oneZ (S.Z 3) (S.n 3) i 4 ∧ oneZ (S.Z 3) (S.n 3) i 4 ≤ 80 := h4
                rw [e3, e4] at h4'
                exact h4'
              obtain ⟨r0, hJ, h0, h1, h2⟩ := info_parts infoInt
              clear hSP hmo hOP hr7 hr8 hr9 hb7 hb8 hb9 hy
              go_wp2_with fail
              go_loopw [10, 86] (fun v i wr => ∃ k : Nat, k ≤ S.n 3 ∧ i = .int .i64 k ∧ TopL W9 (fun m => min (mo m) (S.Z 3 m 4)) k v wr) (fun v i _ => S.n 3 - (intOf i).toNat)
              case atStart => exact ⟨0, by omega, rfl, TopL.nil _ _⟩
              case round =>
                obtain ⟨wt, hwt⟩ : ∃ x, x = wr := ⟨_, rfl⟩
                subst hwt
                obtain ⟨v, hv⟩ : ∃ x, x = u10 := ⟨_, rfl⟩
                subst hv
                obtain ⟨k, hk, rfl, htl⟩ := hrel
                have HTL := Lib.hid htl
                have HBT := Lib.hid (HT3.out HB9.out htl.2)
                obtain ⟨c0, c1, c2, c3, c4⟩ := HBOX.out _ HBT.out
                clear htl
                by_cases hlt : k < S.n 3
                · obtain ⟨bm, om, rfl, hlm, hm0⟩ := (HBM.out.keep HBT.out) k hlt
                  obtain ⟨bc, oc, hAc, hlc, hs0, hz0⟩ := (HM5.out.keep HBT.out).rows 3 (by omega) k hlt
                  have hAc' : A' = some ⟨bc, oc, none⟩ := hAc
                  subst hAc'
                  have s0 : wt.cell? ⟨bc, oc + k * 8, none⟩ = some (.string (S.N 3 k)) := hs0
                  have z1 : wt.cell? ⟨bc, oc + k * 8 + 1, none⟩ = some (.int .i64 (oneZ (S.Z 3) (S.n 3) k 1)) := hz0 1 (by omega) (by decide)
                  have z2 : wt.cell? ⟨bc, oc + k * 8 + 2, none⟩ = some (.int .i64 (oneZ (S.Z 3) (S.n 3) k 2)) := hz0 2 (by omega) (by decide)
                  have z3 : wt.cell? ⟨bc, oc + k * 8 + 3, none⟩ = some (.int .i64 (oneZ (S.Z 3) (S.n 3) k 3)) := hz0 3 (by omega) (by decide)
                  have z4 : wt.cell? ⟨bc, oc + k * 8 + 4, none⟩ = some (.int .i64 (S.Z 3 k 4)) := by
                    have e4 : oneZ (S.Z 3) (S.n 3) k 4 = S.Z 3 k 4 := by simp [oneZ]
                    rw [← e4]
                    exact hz0 4 (by omega) (by decide)
                  have z5 : wt.cell? ⟨bc, oc + k * 8 + 5, none⟩ = some (.int .i64 (oneZ (S.Z 3) (S.n 3) k 5)) := hz0 5 (by omega) (by decide)
                  have z6 : wt.cell? ⟨bc, oc + k * 8 + 6, none⟩ = some (.int .i64 (oneZ (S.Z 3) (S.n 3) k 6)) := hz0 6 (by omega) (by decide)
                  have z7 : wt.cell? ⟨bc, oc + k * 8 + 7, none⟩ = some (.int .i64 (oneZ (S.Z 3) (S.n 3) k 7)) := hz0 7 (by omega) (by decide)
                  clear hAc hs0 hz0
                  go_upto_region 17 with fail
                  all_goals (try (exfalso; omega))
                  obtain ⟨o, ho⟩ : ∃ o, (Obj.cells #[.string (S.N 3 k), .int .i64 (oneZ (S.Z 3) (S.n 3) k 1), .int .i64 (oneZ (S.Z 3) (S.n 3) k 2), .int .i64 (oneZ (S.Z 3) (S.n 3) k 3), .int .i64 (S.Z 3 k 4), .int .i64 (oneZ (S.Z 3) (S.n 3) k 5), .int .i64 (oneZ (S.Z 3) (S.n 3) k 6), .int .i64 (oneZ (S.Z 3) (S.n 3) k 7)] 83 (0, 0)) = o := ⟨_, rfl⟩
                  have x4 : (wt.alloc o).cell? ⟨wt.heap.size, 4, none⟩ = some (.int .i64 (S.Z 3 k 4)) := by rw [← ho]; simp
                  have x0 : (wt.alloc o).cell? ⟨bm, om + k, none⟩ = some (.int .i64 (mo k)) := by rw [under hlm]; exact hm0
                  rw [ho]
                  have HTA := Lib.hid (HTL.out.alloc o)
                  clear s0 z1 z2 z3 z4 z5 z6 z7 c0 c1 c2 c3 c4 ho hm0
                  by_cases hmn : mo k ≤ S.Z 3 k 4
                  · obtain ⟨v', w', hrun, htl'⟩ := HTA.out.app hJ h0 h1 h2 (by omega) (mo k) (by show min (mo k) (S.Z 3 k 4) = _; omega)
                    have hrun' : Sem.run Try.prog (appF #[46, 46] 46 #[v, .slice (some ⟨(wt.alloc o).heap.size, 0, none⟩) 1 1]) ((wt.alloc o).alloc (.cells #[.int .i64 (mo k)] 3)).drew = .ok v' w' := hrun
                    rw [World.size_alloc] at hrun'
                    have HTN := Lib.hid htl'
                    clear htl' hrun
                    go_region
                    all_goals
                      go_wp2_with fail
                      go_roundw
                      case rel => exact ⟨k + 1, by omega, by go_num, HTN.out⟩
                      case measure => simp [intOf] <;> omega
                  · obtain ⟨v', w', hrun, htl'⟩ := HTA.out.app hJ h0 h1 h2 (by omega) (S.Z 3 k 4) (by show min (mo k) (S.Z 3 k 4) = _; omega)
                    have hrun' : Sem.run Try.prog (appF #[46, 46] 46 #[v, .slice (some ⟨(wt.alloc o).heap.size, 0, none⟩) 1 1]) ((wt.alloc o).alloc (.cells #[.int .i64 (S.Z 3 k 4)] 3)).drew = .ok v' w' := hrun
                    rw [World.size_alloc] at hrun'
                    have HTN := Lib.hid htl'
                    clear htl' hrun
                    go_region
                    all_goals
                      go_wp2_with fail
                      go_roundw
                      case rel => exact ⟨k + 1, by omega, by go_num, HTN.out⟩
                      case measure => simp [intOf] <;> omega
                · have hkn : k = S.n 3 := by omega
                  subst hkn
                  obtain ⟨At, ct, hv, hct, hrt⟩ := HTL.out.rz
                  subst hv
                  have HRT := Lib.hid hrt
                  have HLIM : Hid (∀ i, i < S.n 3 → 0 ≤ min (mo i) (S.Z 3 i 4) ∧ min (mo i) (S.Z 3 i 4) ≤ 80) := Lib.hid fun i hi => by
                    have h1 := HMO.out i hi
                    have h2 := HZM.out i hi
                    omega
                  have HRW : Hid (Calls Try.prog 29 #[.agg #[.slice (S.A 0) (S.n 0) (S.c 0), .slice (S.A 1) (S.n 1) (S.c 1), .slice (S.A 2) (S.n 2) (S.c 2), .slice A' (S.n 3) c', .slice (S.A 4) (S.n 4) (S.c 4)]] wt fun e w' => OkW (rowsL (S.with3 A' c' (oneZ (S.Z 3) (S.n 3)))) e w' ∧ Below wt.heap.size wt w') := Lib.hid (rows_any (S.with3 A' c' (oneZ (S.Z 3) (S.n 3))) wt (HM5.out.keep HBT.out) HSP.out)
                  obtain ⟨L, hL⟩ : ∃ L, rowsL (S.with3 A' c' (oneZ (S.Z 3) (S.n 3))) = L := ⟨_, rfl⟩
                  have HFA : Hid (∀ (A : Option Addr) (c : Nat) (W : World), RW W A L → Below wt.heap.size wt W → Calls Try.prog 30 #[.slice A L.length c, .slice At (S.n 3) ct, .slice C (S.n 3) cz] W fun e' w' => OkN (S.n 3) (stepX L (S.n 3) (fun m => min (mo m) (S.Z 3 m 4)) z) e' w' ∧ Below W.heap.size W w') := Lib.hid (by
                    subst hL
                    exact fun A c W h1 h2 => fair_all (S.with3 A' c' (oneZ (S.Z 3) (S.n 3))) A c At ct _ C cz z W HSP.out h1 (HRT.out.keep h2) HLIM.out hct ((HCM.out.keep HBT.out).keep h2) HOP.out)
                  have HSS : Hid (∀ (Aa : Option Addr) (W : World), RZ W Aa (S.n 3) (fun _ => 0) → Below wb.heap.size wb W → Calls Try.prog 31 #[.agg #[.slice (S.A 0) (S.n 0) (S.c 0), .slice (S.A 1) (S.n 1) (S.c 1), .slice (S.A 2) (S.n 2) (S.c 2), .slice A' (S.n 3) c', .slice (S.A 4) (S.n 4) (S.c 4)], .slice Aa (S.n 3) (S.n 3), .slice BM (S.n 3) cm, .slice C (S.n 3) cz] W fun e' w' => OkN (S.n 3) (stepX L (S.n 3) (fun m => min (mo m) (S.Z 3 m 4)) z) e' w' ∧ Below W.heap.size W w') := Lib.hid (by
                    subst hL
                    intro Aa W h1 h2
                    have h := ssh_all (S.with3 A' c' (oneZ (S.Z 3) (S.n 3))) Aa (S.n 3) BM cm mo C cz z W (HM5.out.keep h2) HSP.out (fun i hi => ⟨by show oneZ (S.Z 3) (S.n 3) i 3 = 1; simp [oneZ, show i < S.n 3 from hi], by show oneZ (S.Z 3) (S.n 3) i 5 = 1; simp [oneZ, show i < S.n 3 from hi]⟩) h1 (HBM.out.keep h2) HMO.out (HCM.out.keep h2) HOP.out
                    have e4 : (fun m => min (mo m) ((S.with3 A' c' (oneZ (S.Z 3) (S.n 3))).Z 3 m 4)) = (fun m => min (mo m) (S.Z 3 m 4)) := by
                      funext m
                      show min (mo m) (oneZ (S.Z 3) (S.n 3) m 4) = _
                      simp [oneZ]
                    rw [e4] at h
                    exact h)
                  rw [hL] at HRW
                  clear hL hrt HTL hJ h0 h1 h2
                  go_upto_region 20 with (go_at_call 29; with_reducible refine HRW.out.mono ?_; rintro e w6 ⟨hok, hb6⟩; obtain ⟨Ar, cr, rfl, hrw⟩ := okW_open hok)
                  all_goals (try (exfalso; omega))
                  have HB6 := Lib.hid (HT3.out HBT.out hb6)
                  have HFA' := Lib.hid (HFA.out Ar cr w6 hrw hb6)
                  clear hok hrw hb6 c0 c1 c2 c3 c4 HRW HFA
                  go_upto_region 21 with (go_at_call 30; with_reducible refine HFA'.out.mono ?_; rintro e w7 ⟨hok, hb7⟩; obtain ⟨gx, rfl, hrow⟩ := okN_open hok)
                  all_goals (try (exfalso; omega))
                  have HB7 := Lib.hid (HT3.out HB6.out hb7)
                  have HX := Lib.hid (rowIs_rz hrow)
                  clear hok hrow hb7 HFA' HB6
                  have hmk := run_make_row' (P := Try.prog) 46 3 (.int .i64 0) 8 Try.underlying46 infoInt rfl .i64 .i64 (S.n 3) (by omega) (by omega)
                  obtain ⟨oz, hoz⟩ : ∃ oz, (Obj.cells (madeCells #[Value.int .i64 0] (S.n 3)) 3 (0, 0)) = oz := ⟨_, rfl⟩
                  have HZ1 : Hid (RZ ((w7.alloc oz).drew) (some ⟨w7.heap.size, 0, none⟩) (S.n 3) (fun _ => 0)) := Lib.hid (by
                    rw [← hoz]
                    exact rowIs_rz (World.rowIs_made w7 (.int .i64 0) (S.n 3) 3))
                  have HZ2 : Hid (Below wb.heap.size wb ((w7.alloc oz).drew)) := Lib.hid (bel_alloc HB7.out _).drew
                  have HZ3 : Hid (∀ {W' : World}, Below (w7.alloc oz).drew.heap.size (w7.alloc oz).drew W' → Below w7.heap.size w7 W') := Lib.hid fun h => (bel_alloc (Below.refl _ _) oz).drew.trans (h.mono (bel_alloc (Below.refl _ _) oz).drew.size)
                  rw [hoz] at hmk
                  obtain ⟨b0, b1, b2, b3, b4⟩ := HBOX.out w7 HB7.out
                  have hwz7 : w.heap.size < w7.heap.size := by have := HB7.out.size; omega
                  clear hoz
                  go_cut [17, 18] from 142 (fun v e wc => ∃ g, v = .slice (some ⟨g, 0, none⟩) (S.n 3) (S.n 3) ∧ e = .int .i64 0 ∧ RZ wc (some ⟨g, 0, none⟩) (S.n 3) (stepX L (S.n 3) (fun m => min (mo m) (S.Z 3 m 4)) z) ∧ Below w7.heap.size w7 wc)
                  case first =>
                    go_region_held3 (fun W => W.cell? ⟨w.heap.size, 0, none⟩ = some (.slice (S.A 0) (S.n 0) (S.c 0)) ∧ W.cell? ⟨w.heap.size, 1, none⟩ = some (.slice (S.A 1) (S.n 1) (S.c 1)) ∧ W.cell? ⟨w.heap.size, 2, none⟩ = some (.slice (S.A 2) (S.n 2) (S.c 2)) ∧ W.cell? ⟨w.heap.size, 3, none⟩ = some (.slice A' (S.n 3) c') ∧ W.cell? ⟨w.heap.size, 4, none⟩ = some (.slice (S.A 4) (S.n 4) (S.c 4))) ((refine HBOX.out _ ?_; repeat (first | with_reducible exact Hid.out (by with_reducible assumption) | with_reducible apply Below.drew | with_reducible apply bel_alloc))) (first | (go_at_call 31; with_reducible refine (HSS.out _ _ HZ1.out HZ2.out).mono ?_; rintro e w8 ⟨hok, hb8⟩; obtain ⟨gy, rfl, hrow⟩ := okN_open hok; have HB8 := Lib.hid (HZ3.out hb8); have HBK := Lib.hid (HT3.out HB7.out (HZ3.out hb8)); have HY := Lib.hid (rowIs_rz hrow); clear hok hrow hb8))
                    all_goals
                      go_wp2_with fail
                      go_meet
                      exact ⟨gy, rfl, rfl, HY.out, HB8.out⟩
                  case rest =>
                    obtain ⟨gy, rfl, rfl, hy, hb8⟩ := hcut
                    obtain ⟨w8, hw8⟩ : ∃ x, x = wc := ⟨_, rfl⟩
                    subst hw8
                    have HX8 := Lib.hid (HX.out.keep hb8)
                    have HY8 := Lib.hid hy
                    have HB8 := Lib.hid (HT3.out HB7.out hb8)
                    clear hy hb8 b0 b1 b2 b3 b4 hmk
                    go_wp2_with (go_at_call 32; with_reducible refine (ints_yes _ _ (S.n 3) _ _ _ _ hn3 HX8.out HY8.out).mono ?_; rintro e w9 ⟨rfl, hb9⟩)
                    all_goals (try (exfalso; omega))
                    go_ret
                    exact ⟨rfl, HF3.out (HT3.out HB8.out hb9)⟩
      · go_wp2_with fail
        all_goals (try (exfalso; omega))
        all_goals (go_ret; exact ⟨rfl, HB2.out⟩)
    · go_wp2_with fail
      all_goals (try (exfalso; omega))
      all_goals (go_ret; exact ⟨rfl, HB2.out⟩)
end Go.Proofs.Ytkhmlbkkdflnoaa.Nm
