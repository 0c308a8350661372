/-
  package steps: newTrial. (Printed by gen_nt.py.)
-/
import Derived.Test.YtkhmlbkkdflnoaaOf
import Derived.Test.YtkhmlbkkdflnoaaSt1
import Derived.StillTailTactics
namespace Go.Proofs.Ytkhmlbkkdflnoaa.Nm
open Go.RowKit Go.Proofs.Ytkhmlbkkdflnoaa Go
set_option linter.unusedVariables false
set_option linter.unusedSimpArgs false
attribute [local go_sem ↓] Go.wp_at_zero Go.wp_at_succ
attribute [local go_sem ↓] appF_fold

/-- the cells of a trial -/
def trc (S : Sit) (RA : Option Addr) (R rc : Nat) (V : Nat → Value) (bs : Nat) (AA : Option Addr) (n ca bl : Nat) (j : Nat) : Value :=
  if j = 0 then .slice (S.A 0) (S.n 0) (S.c 0) else if j = 1 then .slice (S.A 1) (S.n 1) (S.c 1) else if j = 2 then .slice (S.A 2) (S.n 2) (S.c 2) else if j = 3 then .slice (S.A 3) (S.n 3) (S.c 3) else if j = 4 then .slice (S.A 4) (S.n 4) (S.c 4)
  else if j = 5 then .slice RA R rc else if j < 22 then V (j - 6) else if j = 22 then .slice (some ⟨bs, 0, none⟩) R R else if j = 23 then .slice AA n ca else .slice (some ⟨bl, 0, none⟩) n n
theorem trc_get (S : Sit) (RA : Option Addr) (R rc bs : Nat) (AA : Option Addr) (n ca bl : Nat) : ∀ j, j < 25 → (#[.slice (S.A 0) (S.n 0) (S.c 0), .slice (S.A 1) (S.n 1) (S.c 1), .slice (S.A 2) (S.n 2) (S.c 2), .slice (S.A 3) (S.n 3) (S.c 3), .slice (S.A 4) (S.n 4) (S.c 4), .slice RA R rc, .slice none 0 0, .slice none 0 0, .slice none 0 0, .slice none 0 0, .slice none 0 0, .slice none 0 0, .slice none 0 0, .slice none 0 0, .slice none 0 0, .slice none 0 0, .slice none 0 0, .slice none 0 0, .slice none 0 0, .slice none 0 0, .slice none 0 0, .slice none 0 0, .slice (some ⟨bs, 0, none⟩) R R, .slice AA n ca, .slice (some ⟨bl, 0, none⟩) n n] : Array Value)[j]? = some (trc S RA R rc (fun _ => .slice none 0 0) bs AA n ca bl j) := fun j hj => match j, hj with
  | 0, _ => rfl
  | 1, _ => rfl
  | 2, _ => rfl
  | 3, _ => rfl
  | 4, _ => rfl
  | 5, _ => rfl
  | 6, _ => rfl
  | 7, _ => rfl
  | 8, _ => rfl
  | 9, _ => rfl
  | 10, _ => rfl
  | 11, _ => rfl
  | 12, _ => rfl
  | 13, _ => rfl
  | 14, _ => rfl
  | 15, _ => rfl
  | 16, _ => rfl
  | 17, _ => rfl
  | 18, _ => rfl
  | 19, _ => rfl
  | 20, _ => rfl
  | 21, _ => rfl
  | 22, _ => rfl
  | 23, _ => rfl
  | 24, _ => rfl
  | k + 25, h => absurd h (by omega)
theorem trc_new (S : Sit) (RA : Option Addr) (R rc bs : Nat) (AA : Option Addr) (n ca bl : Nat) (w : World) (t : TypeId) : (w.alloc (.cells #[.slice (S.A 0) (S.n 0) (S.c 0), .slice (S.A 1) (S.n 1) (S.c 1), .slice (S.A 2) (S.n 2) (S.c 2), .slice (S.A 3) (S.n 3) (S.c 3), .slice (S.A 4) (S.n 4) (S.c 4), .slice RA R rc, .slice none 0 0, .slice none 0 0, .slice none 0 0, .slice none 0 0, .slice none 0 0, .slice none 0 0, .slice none 0 0, .slice none 0 0, .slice none 0 0, .slice none 0 0, .slice none 0 0, .slice none 0 0, .slice none 0 0, .slice none 0 0, .slice none 0 0, .slice none 0 0, .slice (some ⟨bs, 0, none⟩) R R, .slice AA n ca, .slice (some ⟨bl, 0, none⟩) n n] t)).rowIs w.heap.size t 25 (trc S RA R rc (fun _ => .slice none 0 0) bs AA n ca bl) := World.rowIs_alloc w #[.slice (S.A 0) (S.n 0) (S.c 0), .slice (S.A 1) (S.n 1) (S.c 1), .slice (S.A 2) (S.n 2) (S.c 2), .slice (S.A 3) (S.n 3) (S.c 3), .slice (S.A 4) (S.n 4) (S.c 4), .slice RA R rc, .slice none 0 0, .slice none 0 0, .slice none 0 0, .slice none 0 0, .slice none 0 0, .slice none 0 0, .slice none 0 0, .slice none 0 0, .slice none 0 0, .slice none 0 0, .slice none 0 0, .slice none 0 0, .slice none 0 0, .slice none 0 0, .slice none 0 0, .slice none 0 0, .slice (some ⟨bs, 0, none⟩) R R, .slice AA n ca, .slice (some ⟨bl, 0, none⟩) n n] t _ (fun i hi => trc_get S RA R rc bs AA n ca bl i hi)
theorem trc_of (S : Sit) (RA : Option Addr) (R rc : Nat) (V : Nat → Value) (bs : Nat) (AA : Option Addr) (n ca bl m : Nat) (hm : m < 16) : trc S RA R rc V bs AA n ca bl (6 + m) = V m := by
  unfold trc
  rw [if_neg (by omega), if_neg (by omega), if_neg (by omega), if_neg (by omega), if_neg (by omega), if_neg (by omega), if_pos (by omega), show 6 + m - 6 = m by omega]
theorem trc_set (S : Sit) (RA : Option Addr) (R rc : Nat) (V : Nat → Value) (bs : Nat) (AA : Option Addr) (n ca bl m : Nat) (hm : m < 16) (v : Value) (j : Nat) : (if j = 6 + m then v else trc S RA R rc V bs AA n ca bl j) = trc S RA R rc (fun k => if k = m then v else V k) bs AA n ca bl j := by
  by_cases h : j = 6 + m
  · subst h
    rw [if_pos rfl, trc_of _ _ _ _ _ _ _ _ _ _ _ hm]
    simp
  · rw [if_neg h]
    unfold trc
    by_cases h5 : j < 6
    · have : j = 0 ∨ j = 1 ∨ j = 2 ∨ j = 3 ∨ j = 4 ∨ j = 5 := by omega
      rcases this with rfl | rfl | rfl | rfl | rfl | rfl <;> rfl
    · have h6 : ¬ j - 6 = m := by omega
      simp only [show ¬ j = 0 by omega, show ¬ j = 1 by omega, show ¬ j = 2 by omega, show ¬ j = 3 by omega, show ¬ j = 4 by omega, show ¬ j = 5 by omega, if_false, h6]
/-- a trial, while it is laid out -/
structure NT (S : Sit) (RA : Option Addr) (R rc : Nat) (AA : Option Addr) (n ca T bs bl B1 : Nat) (P : List (Nat × Nat)) (w0 w : World) : Prop where
  fam : ∃ V, Fam B1 16 V (inL P) w ∧ w.rowIs T 176 25 (trc S RA R rc V bs AA n ca bl)
  su : w.rowIs bs 3 R (fun _ => .int .i64 0)
  lv : w.rowIs bl 3 n (fun _ => .int .i64 0)
  lt : T < B1 ∧ bs < B1 ∧ bl < B1 ∧ B1 ≤ w.heap.size
  ne : T ≠ bs ∧ T ≠ bl ∧ bs ≠ bl
  low : w0.heap.size ≤ T ∧ w0.heap.size ≤ bs ∧ w0.heap.size ≤ bl
  bel : Below w0.heap.size w0 w
theorem NT.keep {S : Sit} {RA : Option Addr} {R rc : Nat} {AA : Option Addr} {n ca T bs bl B1 : Nat} {P : List (Nat × Nat)} {w0 w w' : World} (h : NT S RA R rc AA n ca T bs bl B1 P w0 w) (hb : Below w.heap.size w w') : NT S RA R rc AA n ca T bs bl B1 P w0 w' := by
  obtain ⟨V, f1, f2⟩ := h.fam
  exact ⟨⟨V, f1.keep hb, rowIs_below f2 hb⟩, rowIs_below h.su hb, rowIs_below h.lv hb, ⟨h.lt.1, h.lt.2.1, h.lt.2.2.1, Nat.le_trans h.lt.2.2.2 hb.size⟩, h.ne, h.low, h.bel.trans (hb.mono h.bel.size)⟩
theorem NT.new1 (S : Sit) (RA : Option Addr) (R rc : Nat) (AA : Option Addr) (n ca : Nat) (w0 W0 : World) (hb : Below w0.heap.size w0 W0) :
    NT S RA R rc AA n ca (W0.heap.size + 1 + 1) W0.heap.size (W0.heap.size + 1) (W0.heap.size + 3) [] w0 (((W0.alloc (.cells (madeCells #[.int .i64 0] R) 3)).alloc (.cells (madeCells #[.int .i64 0] n) 3)).alloc (.cells #[.slice (S.A 0) (S.n 0) (S.c 0), .slice (S.A 1) (S.n 1) (S.c 1), .slice (S.A 2) (S.n 2) (S.c 2), .slice (S.A 3) (S.n 3) (S.c 3), .slice (S.A 4) (S.n 4) (S.c 4), .slice RA R rc, .slice none 0 0, .slice none 0 0, .slice none 0 0, .slice none 0 0, .slice none 0 0, .slice none 0 0, .slice none 0 0, .slice none 0 0, .slice none 0 0, .slice none 0 0, .slice none 0 0, .slice none 0 0, .slice none 0 0, .slice none 0 0, .slice none 0 0, .slice none 0 0, .slice (some ⟨W0.heap.size, 0, none⟩) R R, .slice AA n ca, .slice (some ⟨W0.heap.size + 1, 0, none⟩) n n] 176)).drew := by
  have h1 := hb.size
  refine ⟨⟨fun _ => .slice none 0 0, Fam.nil _ _ _, ?_⟩, ?_, ?_, ⟨by omega, by omega, by omega, by show _ ≤ (World.alloc _ _).heap.size; simp⟩, ⟨by omega, by omega, by omega⟩, ⟨by omega, by omega, by omega⟩, (bel_alloc (bel_alloc (bel_alloc hb _) _) _).drew⟩
  · have h := trc_new S RA R rc W0.heap.size AA n ca (W0.heap.size + 1) ((W0.alloc (.cells (madeCells #[.int .i64 0] R) 3)).alloc (.cells (madeCells #[.int .i64 0] n) 3)) 176
    rw [World.size_alloc, World.size_alloc] at h
    exact h
  · exact ((World.rowIs_made W0 (.int .i64 0) R 3).alloc _).alloc _
  · have h := (World.rowIs_made (W0.alloc (.cells (madeCells #[.int .i64 0] R) 3)) (.int .i64 0) n 3).alloc (.cells #[.slice (S.A 0) (S.n 0) (S.c 0), .slice (S.A 1) (S.n 1) (S.c 1), .slice (S.A 2) (S.n 2) (S.c 2), .slice (S.A 3) (S.n 3) (S.c 3), .slice (S.A 4) (S.n 4) (S.c 4), .slice RA R rc, .slice none 0 0, .slice none 0 0, .slice none 0 0, .slice none 0 0, .slice none 0 0, .slice none 0 0, .slice none 0 0, .slice none 0 0, .slice none 0 0, .slice none 0 0, .slice none 0 0, .slice none 0 0, .slice none 0 0, .slice none 0 0, .slice none 0 0, .slice none 0 0, .slice (some ⟨W0.heap.size, 0, none⟩) R R, .slice AA n ca, .slice (some ⟨W0.heap.size + 1, 0, none⟩) n n] 176)
    rw [World.size_alloc] at h
    exact h
theorem NT.new2 (S : Sit) (RA : Option Addr) (R rc : Nat) (AA : Option Addr) (n ca : Nat) (w0 W0 : World) (hb : Below w0.heap.size w0 W0) :
    NT S RA R rc AA n ca (W0.heap.size + 1 + 1) (W0.heap.size + 1) W0.heap.size (W0.heap.size + 3) [] w0 (((W0.alloc (.cells (madeCells #[.int .i64 0] n) 3)).alloc (.cells (madeCells #[.int .i64 0] R) 3)).alloc (.cells #[.slice (S.A 0) (S.n 0) (S.c 0), .slice (S.A 1) (S.n 1) (S.c 1), .slice (S.A 2) (S.n 2) (S.c 2), .slice (S.A 3) (S.n 3) (S.c 3), .slice (S.A 4) (S.n 4) (S.c 4), .slice RA R rc, .slice none 0 0, .slice none 0 0, .slice none 0 0, .slice none 0 0, .slice none 0 0, .slice none 0 0, .slice none 0 0, .slice none 0 0, .slice none 0 0, .slice none 0 0, .slice none 0 0, .slice none 0 0, .slice none 0 0, .slice none 0 0, .slice none 0 0, .slice none 0 0, .slice (some ⟨W0.heap.size + 1, 0, none⟩) R R, .slice AA n ca, .slice (some ⟨W0.heap.size, 0, none⟩) n n] 176)).drew := by
  have h1 := hb.size
  refine ⟨⟨fun _ => .slice none 0 0, Fam.nil _ _ _, ?_⟩, ?_, ?_, ⟨by omega, by omega, by omega, by show _ ≤ (World.alloc _ _).heap.size; simp⟩, ⟨by omega, by omega, by omega⟩, ⟨by omega, by omega, by omega⟩, (bel_alloc (bel_alloc (bel_alloc hb _) _) _).drew⟩
  · have h := trc_new S RA R rc (W0.heap.size + 1) AA n ca W0.heap.size ((W0.alloc (.cells (madeCells #[.int .i64 0] n) 3)).alloc (.cells (madeCells #[.int .i64 0] R) 3)) 176
    rw [World.size_alloc, World.size_alloc] at h
    exact h
  · have h := (World.rowIs_made (W0.alloc (.cells (madeCells #[.int .i64 0] n) 3)) (.int .i64 0) R 3).alloc (.cells #[.slice (S.A 0) (S.n 0) (S.c 0), .slice (S.A 1) (S.n 1) (S.c 1), .slice (S.A 2) (S.n 2) (S.c 2), .slice (S.A 3) (S.n 3) (S.c 3), .slice (S.A 4) (S.n 4) (S.c 4), .slice RA R rc, .slice none 0 0, .slice none 0 0, .slice none 0 0, .slice none 0 0, .slice none 0 0, .slice none 0 0, .slice none 0 0, .slice none 0 0, .slice none 0 0, .slice none 0 0, .slice none 0 0, .slice none 0 0, .slice none 0 0, .slice none 0 0, .slice none 0 0, .slice none 0 0, .slice (some ⟨W0.heap.size + 1, 0, none⟩) R R, .slice AA n ca, .slice (some ⟨W0.heap.size, 0, none⟩) n n] 176)
    rw [World.size_alloc] at h
    exact h
  · exact ((World.rowIs_made W0 (.int .i64 0) n 3).alloc _).alloc _
theorem NT.zero {S : Sit} {RA : Option Addr} {R rc : Nat} {AA : Option Addr} {n ca T bs bl B1 : Nat} {P : List (Nat × Nat)} {w0 w : World} (h : NT S RA R rc AA n ca T bs bl B1 P w0 w) (i : Nat) : NT S RA R rc AA n ca T bs bl B1 P w0 (w.setCell ⟨bs, i, none⟩ (.int .i64 0)).drew := by
  obtain ⟨⟨V, f1, f2⟩, fsu, flv, ⟨l1, l2, l3, l4⟩, ⟨n1, n2, n3⟩, flow, fb⟩ := h
  refine ⟨⟨V, f1.set (p := ⟨bs, i, none⟩) l2 _, (f2.setOther (a := ⟨bs, i, none⟩) n1 _)⟩, (fsu.set i _).congr (fun j hj => by simp), flv.setOther (a := ⟨bs, i, none⟩) (fun e => n3 e.symm) _, ⟨l1, l2, l3, by show B1 ≤ (World.setCell _ _ _).heap.size; simpa [World.setCell] using l4⟩, ⟨n1, n2, n3⟩, flow, (fb.setCell (p := ⟨bs, i, none⟩) flow.2.1 _).drew⟩
theorem NT.app {S : Sit} {RA : Option Addr} {R rc : Nat} {AA : Option Addr} {n ca T bs bl B1 : Nat} {P P' : List (Nat × Nat)} {w0 w wB : World} {m i : Nat} {v : Value} {V : Nat → Value} (h : NT S RA R rc AA n ca T bs bl B1 P w0 w) (hm : m < 16) (hp : P' = P ++ [(i, m)])
    (f2 : w.rowIs T 176 25 (trc S RA R rc V bs AA n ca bl)) (hF : Fam B1 16 (fun j => if j = m then v else V j) (fun j => if j = m then inL P m ++ [i] else inL P j) wB) (hk : ∀ k, k < B1 → k < w.heap.size → wB.heap[k]? = w.heap[k]?) (hb : Below B1 w wB) :
    wB.rowIs T 176 25 (trc S RA R rc V bs AA n ca bl) ∧ NT S RA R rc AA n ca T bs bl B1 P' w0 (wB.setCell ⟨T, 6 + m, none⟩ v) := by
  obtain ⟨_, fsu, flv, ⟨l1, l2, l3, l4⟩, ⟨n1, n2, n3⟩, flow, fb⟩ := h
  have g2 := f2.of_block (hk T l1 f2.lt)
  refine ⟨g2, ⟨_, ?_, (g2.set (6 + m) v).congr (fun j hj => trc_set _ _ _ _ _ _ _ _ _ _ _ hm v j)⟩, (fsu.of_block (hk bs l2 fsu.lt)).setOther (a := ⟨T, 6 + m, none⟩) (fun e => n1 e.symm) _, (flv.of_block (hk bl l3 flv.lt)).setOther (a := ⟨T, 6 + m, none⟩) (fun e => n2 e.symm) _, ⟨l1, l2, l3, ?_⟩, ⟨n1, n2, n3⟩, flow, ?_⟩
  · rw [hp, inL_snoc]
    exact hF.set (p := ⟨T, 6 + m, none⟩) l1 _
  · have := hb.size
    simp [World.setCell]
    omega
  · exact (fb.trans (hb.mono (by omega))).setCell (p := ⟨T, 6 + m, none⟩) flow.1 _
/-- a trial, and its place -/
def OkT (S : Sit) (RA : Option Addr) (R rc : Nat) (AA : Option Addr) (n ca : Nat) (P : List (Nat × Nat)) (w0 : World) (e : Ending) (w : World) : Prop := ∃ T bs bl B1, e = .returned (.pointer (some ⟨T, 0, none⟩)) ∧ NT S RA R rc AA n ca T bs bl B1 P w0 w
set_option maxRecDepth 100000 in
set_option maxHeartbeats 8000000 in
theorem newTrial_any (S : Sit) (n : Nat) (A : Option Addr) (c : Nat) (L : List (Int × List Nat)) (AA : Option Addr) (ca : Nat) (w : World) (hn : n ≤ 16) (hL : L.length ≤ 48) (hP : ∀ i, i < L.length → RowP n (L.getD i (0, []))) (hR : RW w A L) (hA : RZ w AA n (fun _ => 0)) :
    Calls Try.prog 86 #[.agg #[.slice (S.A 0) (S.n 0) (S.c 0), .slice (S.A 1) (S.n 1) (S.c 1), .slice (S.A 2) (S.n 2) (S.c 2), .slice (S.A 3) (S.n 3) (S.c 3), .slice (S.A 4) (S.n 4) (S.c 4)], .slice A L.length c, .slice AA n ca] w fun e w' => OkT S A L.length c AA n ca (prs L L.length) w e w' := by
  obtain ⟨r0, hr, hr0, hr1, hr2⟩ := info_parts infoInt
  have HAPP : Hid (∀ (B n m s : Nat) (V : Nat → Value) (Lf : Nat → List Nat) (w : World), Fam B n V Lf w → m < n → B ≤ w.heap.size → (Lf m).length ≤ 1000 →
    ∃ g c w', Sem.run Try.prog (appF #[46, 46] 46 #[V m, .slice (some ⟨w.heap.size, 0, none⟩) 1 1]) (w.alloc (.cells #[.int .i64 (s : Int)] 3)) = .ok (.slice (some ⟨g, 0, none⟩) ((Lf m).length + 1) c) w' ∧
      Fam B n (fun j => if j = m then .slice (some ⟨g, 0, none⟩) ((Lf m).length + 1) c else V j) (fun j => if j = m then Lf m ++ [s] else Lf j) w' ∧ (∀ k, k < B → k < w.heap.size → w'.heap[k]? = w.heap[k]?) ∧ Below B w w') := Lib.hid fun B n m s V Lf w a b c d => app_run hr hr0 hr1 hr2 B n m s V Lf w a b c d
  clear hr hr0 hr1 hr2
  have HR := Lib.hid hR
  have HA := Lib.hid hA
  have HP := Lib.hid hP
  have HPL := Lib.hid (prs_len L fun i hi => (hP i hi).len)
  clear hR hP hA
  obtain ⟨R, hRl⟩ : ∃ x, L.length = x := ⟨_, rfl⟩
  have HRL := Lib.hid hRl
  have hmk1 := run_make_row' (P := Try.prog) 46 3 (.int .i64 0) 8 Try.underlying46 infoInt rfl .i64 .i64 R (by omega) (by omega)
  have hmk2 := run_make_row' (P := Try.prog) 46 3 (.int .i64 0) 8 Try.underlying46 infoInt rfl .i64 .i64 n (by omega) (by omega)
  rw [hRl] at hL HP HPL ⊢
  clear hRl
  go_enter Try.func86, Try.ntmps86
  go_upto_region 1 with fail
  refine nameW ?_
  intro W0 hW0
  have hb0 : Below w.heap.size w W0 := by rw [← hW0]; exact bel_alloc (Below.refl _ _) _
  have HB0 := Lib.hid hb0
  have HC0 : Hid (W0.cell? ⟨w.heap.size, 0, none⟩ = some (.slice (S.A 0) (S.n 0) (S.c 0)) ∧ W0.cell? ⟨w.heap.size, 1, none⟩ = some (.slice (S.A 1) (S.n 1) (S.c 1)) ∧ W0.cell? ⟨w.heap.size, 2, none⟩ = some (.slice (S.A 2) (S.n 2) (S.c 2)) ∧ W0.cell? ⟨w.heap.size, 3, none⟩ = some (.slice (S.A 3) (S.n 3) (S.c 3)) ∧ W0.cell? ⟨w.heap.size, 4, none⟩ = some (.slice (S.A 4) (S.n 4) (S.c 4))) := Lib.hid (by
    refine ⟨?_, ?_, ?_, ?_, ?_⟩ <;> (rw [← hW0]; simp))
  have hz0 : w.heap.size < W0.heap.size := by rw [← hW0]; simp
  clear hW0 hb0
  obtain ⟨d0, d1, d2, d3, d4⟩ := HC0.out
  go_cut [7] from 8 (fun u wc => ∃ T bs bl, u = .pointer (some ⟨T, 0, none⟩) ∧ NT S A R c AA n ca T bs bl (W0.heap.size + 3) [] w wc)
  case first =>
    go_region
    all_goals
      go_wp2_with fail
      go_meet
      first
        | exact ⟨_, _, _, rfl, NT.new1 S A R c AA n ca w W0 HB0.out⟩
        | exact ⟨_, _, _, rfl, NT.new2 S A R c AA n ca w W0 HB0.out⟩
  case rest =>
    obtain ⟨T, bs, bl, rfl, hnt⟩ := hcut
    obtain ⟨W1, hW1⟩ : ∃ x, x = wc := ⟨_, rfl⟩
    subst hW1
    obtain ⟨B1, hB1⟩ : ∃ x, W0.heap.size + 3 = x := ⟨_, rfl⟩
    rw [hB1] at hnt
    have HNT0 : Hid (NT S A R c AA n ca T bs bl B1 (prs L 0) w W1) := Lib.hid (by rw [prs_zero]; exact hnt)
    clear d0 d1 d2 d3 d4 hnt HC0 hB1 hmk1 hmk2 HB0 hz0
    go_wp2_with fail
    go_loopw [25] (fun i wr => ∃ k : Nat, k ≤ R ∧ i = .int .i64 k ∧ NT S A R c AA n ca T bs bl B1 (prs L k) w wr) (fun i _ => R - (intOf i).toNat)
    case atStart => exact ⟨0, by omega, rfl, HNT0.out⟩
    case round =>
      obtain ⟨i, hi, rfl, hnt⟩ := hrel
      obtain ⟨wa, hwa⟩ : ∃ x, x = wr := ⟨_, rfl⟩
      subst hwa
      have HNa := Lib.hid hnt
      have HBa := Lib.hid hnt.bel
      clear hnt HNT0
      by_cases hlt : i < R
      · obtain ⟨b, o, rfl, hl, h0w, MA, mc, h1w, ⟨h2, h3⟩, h4⟩ := HR.out i (by rw [HRL.out]; exact hlt)
        have h0 := old_at h0w HBa.out
        have h1 := old_at h1w HBa.out
        clear h0w h1w
        have hrp := HP.out i hlt
        have hps := prs_succ L i
        have hrs := rowP_succ L i
        have hrz := rowP_zero L i
        have hrle := rowP_len L i
        have hpl := HPL.out i hi
        obtain ⟨r, hr⟩ : ∃ x, L.getD i (0, []) = x := ⟨_, rfl⟩
        rw [hr] at h0 h1 h2 h4 hrp hps hrs
        have hrl := hrp.len
        have HLT := Lib.hid hrp.lt
        have HPS := Lib.hid hps
        have HRS := Lib.hid hrs
        have HRZ := Lib.hid hrz
        have HRE := Lib.hid hrle
        clear hr hrp hps hrs hrz hrle
        obtain ⟨cp, ml⟩ := r
        simp only at h0 h1 h2 h4 hrl HLT HPS HRS
        obtain ⟨n1, hn1⟩ : ∃ x, ml.length = x := ⟨_, rfl⟩
        rw [hn1] at h1 h2 h4 hrl HLT HPS HRS
        have HM := Lib.hid h4
        clear hn1 h4
        go_upto_region 5 with fail
        all_goals (try (exfalso; omega))
        refine nameW ?_
        intro wd hwd
        have hbc : Below wa.heap.size wa wd := by rw [← hwd]; exact bel_alloc (Below.refl _ _) _
        have e1 : wd.cell? ⟨wa.heap.size, 1, none⟩ = some (.slice MA n1 mc) := by rw [← hwd]; simp
        have HNd : Hid (NT S (some ⟨b, o, none⟩) R c AA n ca T bs bl B1 (prs L i ++ rowP L i 0) w wd) := Lib.hid (by rw [HRZ.out]; exact HNa.out.keep hbc)
        clear hwd hbc h0 h1 HNa HBa
        go_wp2_with fail
        clear e1
        go_loopw [33] (fun x wr => ∃ k : Nat, k ≤ n1 ∧ x = .int .i64 k ∧ NT S (some ⟨b, o, none⟩) R c AA n ca T bs bl B1 (prs L i ++ rowP L i k) w wr) (fun x _ => n1 - (intOf x).toNat)
        case atStart => exact ⟨0, by omega, rfl, HNd.out⟩
        case round =>
          obtain ⟨k, hk, rfl, hnt⟩ := hrel
          obtain ⟨wb, hwb⟩ : ∃ x, x = wr := ⟨_, rfl⟩
          subst hwb
          have HNb := Lib.hid hnt
          have hbel := hnt.bel
          have HBb := Lib.hid hbel
          clear hnt hbel HNd
          by_cases hlk : k < n1
          · obtain ⟨b', o', rfl, hl', hc⟩ := (HM.out.keep HBb.out) k hlk
            have hm0 := HLT.out k hlk
            have hrs := HRS.out k hlk
            have hrk := HRE.out k
            obtain ⟨m, hm⟩ : ∃ x, ml.getD k 0 = x := ⟨_, rfl⟩
            have hc' : wb.cell? ⟨b', o' + k, none⟩ = some (.int .i64 ((m : Nat) : Int)) := by rw [hc, ← hm]
            rw [hm] at hm0 hrs
            obtain ⟨⟨V, f1, f2⟩, fsu, flv, ⟨l1, l2, l3, l4⟩, ⟨n1', n2', n3'⟩, flow, _⟩ := HNb.out
            have hm16 : m < 16 := by omega
            have hln : (inL (prs L i ++ rowP L i k) m).length ≤ 1000 := by
              have h9 := inL_len (prs L i ++ rowP L i k) m
              rw [List.length_append] at h9
              omega
            obtain ⟨g', c', wB, hrun, hF', hkp, hbl⟩ := HAPP.out B1 16 m i V (inL (prs L i ++ rowP L i k)) wb.drew f1 hm16 l4 hln
            have cV := f2.cell (i := 6 + m) (by omega)
            rw [trc_of _ _ _ _ _ _ _ _ _ _ _ hm16] at cV
            obtain ⟨g2, hnt'⟩ := NT.app (P' := prs L i ++ rowP L i (k + 1)) (wB := wB) HNb.out hm16 hrs f2 hF' hkp ⟨hbl.os, hbl.tape, hbl.output, hbl.size, hbl.block⟩
            have hTz : T < wb.heap.size := f2.lt
            have hm16i : ((m : Nat) : Int) < 16 := by omega
            have cB := g2.cell (i := 6 + m) (by omega)
            rw [trc_of _ _ _ _ _ _ _ _ _ _ _ hm16] at cB
            have fB := g2.frozen (6 + m)
            have HNT' := Lib.hid hnt'
            have hrun' : Sem.run Try.prog (appF #[46, 46] 46 #[V m, .slice (some ⟨wb.heap.size, 0, none⟩) 1 1]) (wb.alloc (.cells #[.int .i64 (i : Int)] 3)).drew = .ok (.slice (some ⟨g', 0, none⟩) ((inL (prs L i ++ rowP L i k) m).length + 1) c') wB := hrun
            clear hc hm hrs hrk hrun hF' hkp hbl g2 hnt' f1 f2 fsu flv l1 l2 l3 l4 n1' n2' n3' flow
            go_upto_region 8 with fail
            all_goals (try (exfalso; omega))
            go_region
            all_goals
              refine nameW ?_
              intro wC hwC
              have hnc : NT S (some ⟨b, o, none⟩) R c AA n ca T bs bl B1 (prs L i ++ rowP L i (k + 1)) w wC := by rw [← hwC]; exact HNT'.out
              have HNC := Lib.hid hnc
              obtain ⟨⟨V', f1, f2⟩, fsu, flv, ⟨l1, l2, l3, l4⟩, ⟨n1', n2', n3'⟩, flow, fb⟩ := hnc
              have c22 : wC.cell? ⟨T, 22, none⟩ = some (.slice (some ⟨bs, 0, none⟩) R R) := f2.cell (i := 22) (by omega)
              have cs := fsu.cell hlt
              have fs := fsu.frozen i
              obtain ⟨ba, oa, rfl, hla, hca⟩ := (HA.out.keep fb) m hm0
              clear f1 f2 fsu flv l1 l2 l3 l4 n1' n2' n3' flow fb hwC cV cB fB hrun'
              go_upto_region 9 with fail
              have hw0 : IntKind.i64.wrap 0 = 0 := IntWalk.i64_in _ (by omega)
              have hiR : (i : Int) < (R : Int) := by omega
              have hmn : (m : Int) < (n : Int) := by omega
              go_still_tail 13, (by kernel_rfl)
              (try change wpList _ _ _ _ _ (World.drew wC))
              go_wp2_with fail
              all_goals (try (exfalso; omega))
              go_roundw
              case rel => exact ⟨k + 1, by omega, by go_num, HNC.out.zero i⟩
              case measure => simp [intOf] <;> omega
          · obtain rfl : k = n1 := by omega
            have hF : Hid (NT S (some ⟨b, o, none⟩) R c AA n ca T bs bl B1 (prs L (i + 1)) w wb) := Lib.hid (by rw [HPS.out]; exact HNb.out)
            go_wp2_with fail
            all_goals (try (exfalso; omega))
            go_roundw
            case rel => exact ⟨i + 1, by omega, by go_num, hF.out⟩
            case measure => simp [intOf] <;> omega
      · obtain rfl : i = R := by omega
        go_wp2_with fail
        all_goals (try (exfalso; omega))
        go_ret
        exact ⟨T, bs, bl, B1, rfl, HNa.out⟩
end Go.Proofs.Ytkhmlbkkdflnoaa.Nm
