/-
  THE WALKS over package share, third part: inserted, deleted, duplicate.
-/
import Derived.Test.YteeohndgkfilaaaWalksb
import Derived.Test.YteeohndgkfilaaaFits
namespace Go.Proofs.Yteeohndgkfilaaa
open Go.RowKit
set_option linter.unusedVariables false
attribute [local go_sem ↓] Go.wp_at_zero Go.wp_at_succ

theorem infoInt : (Try.prog.info? 3).map (fun i => (i.zero, i.size, i.bytes)) = some (some (.int .i64 0), 1, 8) := by kernel_rfl
theorem infoTr : (Try.prog.info? 27).map (fun i => (i.zero, i.size, i.bytes)) = some (some (.agg #[.int .i64 0, .int .i64 0]), 2, 16) := by kernel_rfl
theorem made_list (z : Array Value) (m : Nat) : ∃ M : List Value, madeCells z m = M.toArray ∧ M.length = m := ⟨(madeCells z m).toList, by simp, by simp [madeCells]⟩
theorem spl0 (M A : List Value) (h : A.length ≤ M.length) : splice M 0 A = A ++ M.drop A.length := by simp [splice]
theorem spl_end (A D B : List Value) (h : D.length = B.length) : splice (A ++ D) A.length B = A ++ B := by simp [splice, ← h]
theorem ins1 {M A B : List Value} {v : Value} (h : M.length = A.length + 1 + B.length) : splice ((splice M 0 A).set A.length v) (A.length + 1) B = A ++ v :: B := by
  rw [spl0 M A (by omega)]
  have hd : (M.drop A.length).length = 1 + B.length := by simp; omega
  cases hD : M.drop A.length with
  | nil => rw [hD] at hd; simp at hd; omega
  | cons d D =>
    rw [hD] at hd
    have e : (A ++ d :: D).set A.length v = (A ++ [v]) ++ D := by simp
    rw [e, show A.length + 1 = (A ++ [v]).length by simp, spl_end (A ++ [v]) D B (by simp at hd; omega)]
    simp
theorem ins2 {M A B : List Value} {v u : Value} (h : M.length = A.length + 2 + B.length) : splice (((splice M 0 A).set A.length v).set (A.length + 1) u) (A.length + 2) B = A ++ v :: u :: B := by
  rw [spl0 M A (by omega)]
  have hd : (M.drop A.length).length = 2 + B.length := by simp; omega
  cases hD : M.drop A.length with
  | nil => rw [hD] at hd; simp at hd; omega
  | cons d D0 =>
    rw [hD] at hd
    cases hD0 : D0 with
    | nil => rw [hD0] at hd; simp at hd; omega
    | cons d' D =>
    rw [hD0] at hd
    have e : ((A ++ d :: d' :: D).set A.length v).set (A.length + 1) u = (A ++ [v, u]) ++ D := by simp
    rw [e, show A.length + 2 = (A ++ [v, u]).length by simp, spl_end (A ++ [v, u]) D B (by simp at hd; omega)]
    simp
theorem del1 {M A B : List Value} (h : M.length = A.length + B.length) : splice (splice M 0 A) A.length B = A ++ B := by
  rw [spl0 M A (by omega)]
  exact spl_end A _ B (by simp; omega)
theorem copy1 {M A : List Value} (h : M.length = A.length) : splice M 0 A = A := by
  rw [spl0 M A (by omega), List.drop_of_length_le (by omega), List.append_nil]
theorem splice_nil {L A : List Value} {o m : Nat} (h : A.length = m) (hm : m = 0) : splice L o A = L := by
  obtain rfl : A = [] := List.eq_nil_of_length_eq_zero (by omega)
  simp [splice]
theorem grown_bel {B : Nat} {w0 w w' : World} {g : Nat} (hb : Below B w0 w) (hg : w.grownBy w' (some g)) (h : B ≤ g) (hs : B ≤ w.heap.size) : Below B w0 w' := hb.grown hg hs (fun g' e => by cases e; exact h)
theorem OW.grown {w w' : World} {g b : Nat} {t : TypeId} {cs : List Value} (h : OW w g t cs) (hg : w.grownBy w' (some b)) (hne : g ≠ b) : OW w' g t cs := (hg.block _ h.lt (by simpa using hne)).trans h
theorem RL.grown {w w' : World} {A : Option Addr} {cs : List Value} {b : Nat} (h : RL w A cs) (hg : w.grownBy w' (some b)) (hne : ∀ g o, A = some ⟨g, o, none⟩ → g ≠ b) : RL w' A cs := fun j v hv => by
  obtain ⟨g, o, e, hl, hc⟩ := h j v hv
  have e2 := hg.block g hl (by simpa using hne g o e)
  exact ⟨g, o, e, Nat.lt_of_lt_of_le hl hg.size, by
    have : w'.cell? ⟨g, o + j, none⟩ = w.cell? ⟨g, o + j, none⟩ := by simp [World.cell?, e2]
    rw [this]; exact hc⟩

set_option maxRecDepth 100000 in
set_option maxHeartbeats 2000000 in
theorem ins_int (g n k : Nat) (l : List Int) (x : Int) (w : World) (hn : n ≤ 100) (hl : l.length = n) (hk : k ≤ n) (hO : OW w g 3 (cI l)) :
    Calls Try.prog 28 #[.slice (some ⟨g, 0, none⟩) n n, .int .i64 (k : Int), .int .i64 x] w
      fun e w' => (∃ g', e = .returned (.slice (some ⟨g', 0, none⟩) (n + 1) (n + 1)) ∧ OW w' g' 3 (cI (l.take k ++ x :: l.drop k)) ∧ w.heap.size ≤ g') ∧ Below w.heap.size w w' := by
  obtain ⟨i0, hi, hz0, hz1, hz2⟩ := info_parts infoInt
  have HI := Lib.hid hi
  have HZ1 := Lib.hid hz1
  obtain ⟨M, hM, hMl⟩ := made_list (Value.int .i64 0).cells (n + 1)
  have hmk : ∀ W : World, (Instr.makeSlice 23 (.int .i64 ((n : Int) + 1)) (.int .i64 ((n : Int) + 1))).run Try.prog W = .ok (.slice (some ⟨W.heap.size, 0, none⟩) (n + 1) (n + 1)) (W.alloc (.cells M.toArray 3)) := fun W => by
    have := run_make_rowN (P := Try.prog) 23 3 i0 _ Try.underlying23 hi hz0 .i64 .i64 (n + 1) (n + 1) (by omega) (by rw [hz2]; omega) (by omega) W
    rw [hz1, Nat.mul_one, hM] at this
    exact this
  have HO := Lib.hid hO
  have HL := Lib.hid hl
  have HMl := Lib.hid hMl
  have hgl := hO.lt
  clear hM hMl hi hz0 hz1 hz2 hO hl
  obtain ⟨X1, hX1⟩ : ∃ X1, X1 = cI (l.take k) := ⟨_, rfl⟩
  obtain ⟨X2, hX2⟩ : ∃ X2, X2 = cI (l.drop k) := ⟨_, rfl⟩
  have HL1 : Hid (X1.length = k) := Lib.hid (by rw [hX1, cI_len]; have := HL.out; simp; omega)
  have HL2 : Hid (X2.length = n - k) := Lib.hid (by rw [hX2, cI_len]; have := HL.out; simp; omega)
  have HX1 : Hid (∀ W, OW W g 3 (cI l) → RL W (some ⟨g, 0, none⟩) X1) := Lib.hid fun W h => by rw [hX1, ← cI_take]; exact h.rl.take k
  have HX2 : Hid (∀ W, OW W g 3 (cI l) → RL W (some ⟨g, k, none⟩) X2) := Lib.hid fun W h => by rw [hX2, ← cI_drop]; exact h.drop k
  have HO1 : Hid (∀ v ∈ X1, v.oneCell' = true) := Lib.hid (by rw [hX1]; exact cI_one _)
  have HO2 : Hid (∀ v ∈ X2, v.oneCell' = true) := Lib.hid (by rw [hX2]; exact cI_one _)
  have HFIN : Hid (splice ((splice M 0 X1).set k (.int .i64 x)) (k + 1) X2 = cI (l.take k ++ x :: l.drop k)) := Lib.hid (by
    have h := ins1 (M := M) (A := X1) (B := X2) (v := .int .i64 x) (by rw [HMl.out, HL1.out, HL2.out]; omega)
    rw [HL1.out] at h
    rw [h, hX1, hX2, cI_app]
    rfl)
  clear hX1 hX2
  have k1 : (0 : Int) ≤ (k : Int) := by omega
  have k2 : (k : Int) ≤ (n : Int) := by omega
  have k3 : (k : Int) < (n : Int) + 1 := by omega
  go_enter Try.func28, Try.ntmps28
  go_wp2_with fail
  obtain ⟨w2, hrun, how2, hgr2⟩ := run_copy_sz (P := Try.prog) (w.alloc (.cells M.toArray 3)) 23 23 3 3 i0 w.heap.size 0 (n + 1) (n + 1) (some ⟨g, 0, none⟩) k n 1 M X1 3 Try.underlying23 HI.out HZ1.out (OW.new w _ _) (by rw [HL1.out, Nat.mul_one]; exact (Nat.min_eq_left (by omega)).symm) (HX1.out _ (HO.out.keep (bel_a w _))) (fun e => by cases e) (by rw [HL1.out, HMl.out]; omega) HO1.out (by omega)
  rw [hrun]
  clear hrun
  have hb2 : Below w.heap.size w w2 := grown_bel (bel_a w _) hgr2 (Nat.le_refl _) (bel_a w _).size
  have HOG : Hid (OW w2 g 3 (cI l)) := Lib.hid ((HO.out.keep (bel_a w _)).grown hgr2 (by omega))
  have HOW := Lib.hid how2
  have HB2 := Lib.hid hb2
  have hs2 := hb2.size
  have hg2 := how2.lt
  obtain ⟨old, hold⟩ : ∃ v, (splice M 0 X1)[k]? = some v := by
    have : k < (splice M 0 X1).length := by rw [length_splice _ _ _ (by rw [HL1.out, HMl.out]; omega), HMl.out]; omega
    exact ⟨_, List.getElem?_eq_getElem this⟩
  have c1 := how2.at hold
  have z1 := how2.thaw k
  obtain ⟨B, hB⟩ : ∃ B, w.heap.size = B := ⟨_, rfl⟩
  have HBQ := Lib.hid hB
  rw [hB] at HOW HB2 hs2 hg2 hgr2 how2 hb2 c1 z1 hgl ⊢
  clear how2 hgr2 hb2 hold hB hmk
  go_upto_region 4 with (fail)
  have HOW3 := Lib.hid (HOW.out.set k (.int .i64 x))
  have HOG3 := Lib.hid (HOG.out.far (b := B) (by omega) k (.int .i64 x))
  have HB3 : Hid (Below B w (w2.setCell ⟨B, k, none⟩ (.int .i64 x))) := Lib.hid (HB2.out.setCell (Nat.le_refl _) _)
  obtain ⟨w3, hw3⟩ : ∃ w3, w2.setCell ⟨B, k, none⟩ (.int .i64 x) = w3 := ⟨_, rfl⟩
  rw [hw3] at HOW3 HOG3 HB3 ⊢
  have hs3 := HB3.out.size
  clear hw3 c1 z1 HOW HOG HB2
  have t2 : IntKind.i64.wrap ((k : Int) + 1) = (k : Int) + 1 := IntWalk.i64_in _ (by omega)
  have t3 : ((k : Int) + 1).toNat = k + 1 := by omega
  have t4 : (0 : Int) ≤ (k : Int) + 1 := by omega
  have t5 : (k : Int) + 1 ≤ (n : Int) + 1 := by omega
  go_cut [28] (fun _ wx => OW wx B 3 (splice ((splice M 0 X1).set k (.int .i64 x)) (k + 1) X2) ∧ Below B w wx)
  case first =>
    by_cases hkn : k < n
    · have u1 : ¬ n = k := by omega
      have u2 : ¬ n + 1 = k + 1 := by omega
      go_region_held3 (fun _ => True) (trivial) (first
        | (refine step_copy _ (by rfl) (.tmp 24) (.tmp 27) 23 (by rfl) 3 i0 1 Try.underlying23 HI.out HZ1.out (by omega) B (k + 1) _ _ (by rfl) (some ⟨g, k, none⟩) (n - k) (n - k) (by rfl) ((splice M 0 X1).set k (.int .i64 x)) X2 HOW3.out (by rw [HL2.out]; simp <;> omega) (HX2.out _ HOG3.out) (fun e => by cases e) (by rw [HL2.out, List.length_set, length_splice _ _ _ (by rw [HL1.out, HMl.out]; omega), HMl.out]; omega) HO2.out ?_; intro w4 how4 hgr4))
      all_goals ((try go_wp2_with fail); go_meet; exact ⟨how4, grown_bel (by repeat (first | with_reducible exact HB3.out | with_reducible apply below_drew | with_reducible apply below_drewN)) hgr4 (Nat.le_refl _) (by have q := HBQ.out; have q2 := hs3; show B ≤ w3.heap.size; omega)⟩)
    · obtain rfl : k = n := by omega
      go_region_held3 (fun _ => True) (trivial) (first
        | (refine step_copy _ (by rfl) (.tmp 24) (.tmp 27) 23 (by rfl) 3 i0 1 Try.underlying23 HI.out HZ1.out (by omega) B _ _ _ (by rfl) _ _ _ (by rfl) ((splice M 0 X1).set k (.int .i64 x)) X2 HOW3.out (by rw [HL2.out]; simp <;> omega) (fun j v hv => by have := HL2.out; have h := (List.getElem?_eq_some_iff.1 hv).1; omega) (fun e => by cases e) (by rw [HL2.out, List.length_set, length_splice _ _ _ (by rw [HL1.out, HMl.out]; omega), HMl.out]; omega) HO2.out ?_; intro w4 how4 hgr4))
      all_goals ((try go_wp2_with fail); go_meet; exact ⟨by rw [splice_nil HL2.out (by omega)] at how4 ⊢; exact how4, grown_bel (by repeat (first | with_reducible exact HB3.out | with_reducible apply below_drew | with_reducible apply below_drewN)) hgr4 (Nat.le_refl _) (by have q := HBQ.out; have q2 := hs3; show B ≤ w3.heap.size; omega)⟩)
  case rest =>
    obtain ⟨how, hbx⟩ := hcut
    rw [HFIN.out] at how
    have HOW := Lib.hid how
    have HBX := Lib.hid hbx
    clear how hbx
    go_wp2_with fail
    go_ret
    rw [HBQ.out]
    exact ⟨⟨B, rfl, HOW.out, Nat.le_refl _⟩, HBX.out⟩

set_option maxRecDepth 100000 in
set_option maxHeartbeats 2000000 in
theorem ins_tr (g n : Nat) (l : List (Int × Int)) (a b : Int) (w : World) (hn : n ≤ 100) (hl : l.length = n) (hO : OW w g 27 (cT l)) :
    Calls Try.prog 24 #[.slice (some ⟨g, 0, none⟩) n n, .int .i64 (n : Int), .agg #[.int .i64 a, .int .i64 b]] w
      fun e w' => (∃ g', e = .returned (.slice (some ⟨g', 0, none⟩) (n + 1) (n + 1)) ∧ OW w' g' 27 (cT (l ++ [(a, b)])) ∧ w.heap.size ≤ g') ∧ Below w.heap.size w w' := by
  obtain ⟨i0, hi, hz0, hz1, hz2⟩ := info_parts infoTr
  have HI := Lib.hid hi
  have HZ1 := Lib.hid hz1
  obtain ⟨M, hM, hMl⟩ := made_list (Value.agg #[.int .i64 0, .int .i64 0]).cells ((n + 1) * 2)
  have hmk : ∀ W : World, (Instr.makeSlice 22 (.int .i64 ((n : Int) + 1)) (.int .i64 ((n : Int) + 1))).run Try.prog W = .ok (.slice (some ⟨W.heap.size, 0, none⟩) (n + 1) (n + 1)) (W.alloc (.cells M.toArray 27)) := fun W => by
    have := run_make_rowN (P := Try.prog) 22 27 i0 _ Try.underlying22 hi hz0 .i64 .i64 (n + 1) (n + 1) (by omega) (by rw [hz2]; omega) (by omega) W
    rw [hz1, hM] at this
    exact this
  have HO := Lib.hid hO
  have HL := Lib.hid hl
  have HMl := Lib.hid hMl
  have hgl := hO.lt
  clear hM hMl hi hz0 hz1 hz2 hO hl
  obtain ⟨X1, hX1⟩ : ∃ X1, X1 = cT l := ⟨_, rfl⟩
  have HL1 : Hid (X1.length = n * 2) := Lib.hid (by rw [hX1, cT_len, HL.out])
  have HO1 : Hid (∀ v ∈ X1, v.oneCell' = true) := Lib.hid (by rw [hX1]; exact cT_one _)
  have HX1 : Hid (cT l = X1) := Lib.hid hX1.symm
  have HFIN : Hid (((splice M 0 X1).set (n * 2) (.int .i64 a)).set (n * 2 + 1) (.int .i64 b) = cT (l ++ [(a, b)])) := Lib.hid (by
    have h := ins2 (M := M) (A := X1) (B := []) (v := .int .i64 a) (u := .int .i64 b) (by rw [HMl.out, HL1.out]; simp; omega)
    rw [HL1.out, splice_nil (m := 0) rfl rfl] at h
    rw [h, hX1, cT_app]
    rfl)
  clear hX1
  have k1 : (0 : Int) ≤ (n : Int) := by omega
  have k3 : (n : Int) < (n : Int) + 1 := by omega
  go_enter Try.func24, Try.ntmps24
  go_wp2_with fail
  have hbB : Below w.heap.size w ((w.alloc (.cells #[.int .i64 a, .int .i64 b] 27)).alloc (.cells M.toArray 27)) := bel_alloc (bel_a w _) _
  have hMw : OW ((w.alloc (.cells #[.int .i64 a, .int .i64 b] 27)).alloc (.cells M.toArray 27)) (w.heap.size + 1) 27 M := by
    have h := OW.new (w.alloc (.cells #[.int .i64 a, .int .i64 b] 27)) 27 M
    rw [World.size_alloc] at h
    exact h
  have hbx : OW ((w.alloc (.cells #[.int .i64 a, .int .i64 b] 27)).alloc (.cells M.toArray 27)) w.heap.size 27 [.int .i64 a, .int .i64 b] := (OW.new w 27 [.int .i64 a, .int .i64 b]).keep (bel_a _ _)
  obtain ⟨w2, hrun, how2, hgr2⟩ := run_copy_sz (P := Try.prog) _ 22 22 3 27 i0 (w.heap.size + 1) 0 (n + 1) (n + 1) (some ⟨g, 0, none⟩) n n 2 M X1 27 Try.underlying22 HI.out HZ1.out hMw (by rw [HL1.out, show Nat.min n (n + 1) = n from Nat.min_eq_left (by omega)]) (HX1.out ▸ (HO.out.keep hbB).rl) (fun e => by cases e) (by rw [HL1.out, HMl.out]; omega) HO1.out (by omega)
  rw [hrun]
  have hb2 : Below w.heap.size w w2 := grown_bel hbB hgr2 (by omega) hbB.size
  have hbx2 := hbx.grown hgr2 (by omega)
  have HOW := Lib.hid how2
  have HB2 := Lib.hid hb2
  have hlen : (splice M 0 X1).length = (n + 1) * 2 := by rw [length_splice _ _ _ (by rw [HL1.out, HMl.out]; omega), HMl.out]
  obtain ⟨old, hold⟩ : ∃ v, (splice M 0 X1)[n * 2]? = some v := ⟨_, List.getElem?_eq_getElem (by omega)⟩
  obtain ⟨old2, hold2⟩ : ∃ v, (splice M 0 X1)[n * 2 + 1]? = some v := ⟨_, List.getElem?_eq_getElem (by omega)⟩
  have c1 := how2.at hold
  have z1 := how2.thaw (n * 2)
  have c2 : (w2.setCell ⟨w.heap.size + 1, n * 2, none⟩ (.int .i64 a)).cell? ⟨w.heap.size + 1, n * 2 + 1, none⟩ = some old2 := by
    refine (how2.set (n * 2) (.int .i64 a)).at ?_
    rw [List.getElem?_set_ne (by omega)]; exact hold2
  have z2 : (w2.setCell ⟨w.heap.size + 1, n * 2, none⟩ (.int .i64 a)).frozen? ⟨w.heap.size + 1, n * 2 + 1, none⟩ = false := (how2.set (n * 2) (.int .i64 a)).thaw _
  have b0 : w2.cell? ⟨w.heap.size, 0, none⟩ = some (.int .i64 a) := hbx2.at rfl
  have b1 : w2.cell? ⟨w.heap.size, 1, none⟩ = some (.int .i64 b) := hbx2.at rfl
  obtain ⟨Bx, hBx⟩ : ∃ Bx, w.heap.size = Bx := ⟨_, rfl⟩
  obtain ⟨B, hB⟩ : ∃ B, w.heap.size + 1 = B := ⟨_, rfl⟩
  have HBQ := Lib.hid hB
  have hBg : w.heap.size ≤ B := by omega
  rw [hB] at HOW c1 z1 c2 z2 ⊢
  rw [hBx] at b0 b1 ⊢
  clear hrun how2 hgr2 hb2 hbx2 hbx hMw hbB hold hold2 hmk hB hBx
  go_upto_region 4 with (fail)
  have HOW3 := Lib.hid ((HOW.out.set (n * 2) (.int .i64 a)).set (n * 2 + 1) (.int .i64 b))
  have HB3 : Hid (Below w.heap.size w ((w2.setCell ⟨B, n * 2, none⟩ (.int .i64 a)).setCell ⟨B, n * 2 + 1, none⟩ (.int .i64 b))) := Lib.hid ((HB2.out.setCell hBg _).setCell hBg _)
  obtain ⟨w3, hw3⟩ : ∃ w3, (w2.setCell ⟨B, n * 2, none⟩ (.int .i64 a)).setCell ⟨B, n * 2 + 1, none⟩ (.int .i64 b) = w3 := ⟨_, rfl⟩
  rw [hw3] at HOW3 HB3 ⊢
  rw [HFIN.out] at HOW3
  clear hw3 c1 z1 c2 z2 b0 b1 HOW HB2
  have t2 : IntKind.i64.wrap ((n : Int) + 1) = (n : Int) + 1 := IntWalk.i64_in _ (by omega)
  have t3 : ((n : Int) + 1).toNat = n + 1 := by omega
  have t4 : (0 : Int) ≤ (n : Int) + 1 := by omega
  go_cut [28] (fun _ wx => OW wx B 27 (cT (l ++ [(a, b)])) ∧ Below w.heap.size w wx)
  case first =>
    go_region_held3 (fun _ => True) (trivial) (first
      | (refine step_copy _ (by rfl) (.tmp 24) (.tmp 27) 22 (by rfl) 27 i0 2 Try.underlying22 HI.out HZ1.out (by omega) B _ _ _ (by rfl) _ _ _ (by rfl) (cT (l ++ [(a, b)])) [] HOW3.out (by simp) RL_nil (fun e => by cases e) (by simp) (by simp) ?_; intro w4 how4 hgr4))
    all_goals ((try go_wp2_with fail); go_meet; exact ⟨by rw [splice_nil (m := 0) rfl rfl] at how4; exact how4, grown_bel (by repeat (first | with_reducible exact HB3.out | with_reducible apply below_drew | with_reducible apply below_drewN)) hgr4 hBg HB3.out.size⟩)
  case rest =>
    obtain ⟨how, hbx⟩ := hcut
    have HOW := Lib.hid how
    have HBX := Lib.hid hbx
    clear how hbx
    go_wp2_with fail
    go_ret
    exact ⟨⟨B, rfl, HOW.out, hBg⟩, HBX.out⟩

set_option maxRecDepth 100000 in
set_option maxHeartbeats 2000000 in
theorem del_tr (g n m k : Nat) (l : List (Int × Int)) (w : World) (hn : n ≤ 100) (hm : n = m + 1) (hl : l.length = n) (hk : k < n) (hO : OW w g 27 (cT l)) :
    Calls Try.prog 32 #[.slice (some ⟨g, 0, none⟩) n n, .int .i64 (k : Int)] w
      fun e w' => (∃ g', e = .returned (.slice (some ⟨g', 0, none⟩) m m) ∧ OW w' g' 27 (cT (l.take k ++ l.drop (k + 1))) ∧ w.heap.size ≤ g') ∧ Below w.heap.size w w' := by
  obtain ⟨i0, hi, hz0, hz1, hz2⟩ := info_parts infoTr
  have HI := Lib.hid hi
  have HZ1 := Lib.hid hz1
  obtain ⟨M, hM, hMl⟩ := made_list (Value.agg #[.int .i64 0, .int .i64 0]).cells (m * 2)
  have hnm : (n : Int) - 1 = (m : Int) := by omega
  have hmk : ∀ W : World, (Instr.makeSlice 22 (.int .i64 (m : Int)) (.int .i64 (m : Int))).run Try.prog W = .ok (.slice (some ⟨W.heap.size, 0, none⟩) m m) (W.alloc (.cells M.toArray 27)) := fun W => by
    have := run_make_rowN (P := Try.prog) 22 27 i0 _ Try.underlying22 hi hz0 .i64 .i64 m m (by omega) (by rw [hz2]; omega) (by omega) W
    rw [hz1, hM] at this
    exact this
  have HO := Lib.hid hO
  have HL := Lib.hid hl
  have HMl := Lib.hid hMl
  have hgl := hO.lt
  have hm1 : n ≤ m + 1 := by omega
  have hm2 : m + 1 ≤ n := by omega
  clear hM hMl hi hz0 hz1 hz2 hO hl hm
  obtain ⟨X1, hX1⟩ : ∃ X1, X1 = cT (l.take k) := ⟨_, rfl⟩
  obtain ⟨X2, hX2⟩ : ∃ X2, X2 = cT (l.drop (k + 1)) := ⟨_, rfl⟩
  have HL1 : Hid (X1.length = k * 2) := Lib.hid (by rw [hX1, cT_len]; have := HL.out; simp; omega)
  have HL2 : Hid (X2.length = (m - k) * 2) := Lib.hid (by rw [hX2, cT_len]; have := HL.out; simp; omega)
  have HX1 : Hid (∀ W, OW W g 27 (cT l) → RL W (some ⟨g, 0, none⟩) X1) := Lib.hid fun W h => by rw [hX1, ← cT_take]; exact h.rl.take _
  have HX2 : Hid (∀ W, OW W g 27 (cT l) → RL W (some ⟨g, (k + 1) * 2, none⟩) X2) := Lib.hid fun W h => by rw [hX2, ← cT_drop]; exact h.drop _
  have HO1 : Hid (∀ v ∈ X1, v.oneCell' = true) := Lib.hid (by rw [hX1]; exact cT_one _)
  have HO2 : Hid (∀ v ∈ X2, v.oneCell' = true) := Lib.hid (by rw [hX2]; exact cT_one _)
  have HFIN : Hid (splice (splice M 0 X1) (k * 2) X2 = cT (l.take k ++ l.drop (k + 1))) := Lib.hid (by
    have h := del1 (M := M) (A := X1) (B := X2) (by rw [HMl.out, HL1.out, HL2.out]; omega)
    rw [HL1.out] at h
    rw [h, hX1, hX2, cT_app])
  have HFIN0 : Hid (splice M 0 X1 = splice (splice M 0 X1) (k * 2) X2 ∨ k < m) := Lib.hid (by
    rcases Nat.lt_or_ge k m with h | h
    · exact .inr h
    · exact .inl (splice_nil HL2.out (by omega)).symm)
  clear hX1 hX2
  have k1 : (0 : Int) ≤ (k : Int) := by omega
  have k2 : (k : Int) ≤ (n : Int) := by omega
  have k3 : (k : Int) ≤ (m : Int) := by omega
  go_enter Try.func32, Try.ntmps32
  go_wp2_with fail
  obtain ⟨w2, hrun, how2, hgr2⟩ := run_copy_sz (P := Try.prog) (w.alloc (.cells M.toArray 27)) 22 22 3 27 i0 w.heap.size 0 m m (some ⟨g, 0, none⟩) k n 2 M X1 27 Try.underlying22 HI.out HZ1.out (OW.new w _ _) (by rw [HL1.out, show Nat.min k m = k from Nat.min_eq_left (by omega)]) (HX1.out _ (HO.out.keep (bel_a w _))) (fun e => by cases e) (by rw [HL1.out, HMl.out]; omega) HO1.out (by omega)
  rw [hrun]
  have hb2 : Below w.heap.size w w2 := grown_bel (bel_a w _) hgr2 (Nat.le_refl _) (bel_a w _).size
  have HOG : Hid (OW w2 g 27 (cT l)) := Lib.hid ((HO.out.keep (bel_a w _)).grown hgr2 (by omega))
  have HOW := Lib.hid how2
  have HB2 := Lib.hid hb2
  have hs2 := hb2.size
  obtain ⟨B, hB⟩ : ∃ B, w.heap.size = B := ⟨_, rfl⟩
  have hBg : w.heap.size ≤ B := by omega
  rw [hB] at HOW ⊢
  clear hrun how2 hgr2 hb2 hmk hB
  go_upto_region 3 with (fail)
  have t2 : IntKind.i64.wrap ((k : Int) + 1) = (k : Int) + 1 := IntWalk.i64_in _ (by omega)
  have t3 : ((k : Int) + 1).toNat = k + 1 := by omega
  have t4 : (0 : Int) ≤ (k : Int) + 1 := by omega
  have t5 : (k : Int) + 1 ≤ (n : Int) := by omega
  go_cut [22] (fun _ wx => OW wx B 27 (splice (splice M 0 X1) (k * 2) X2) ∧ Below w.heap.size w wx)
  case first =>
    by_cases hkm : k < m
    · have u1 : ¬ n = k + 1 := by omega
      have u2 : ¬ m = k := by omega
      go_region_held3 (fun _ => True) (trivial) (first
        | (refine step_copy _ (by rfl) (.tmp 17) (.tmp 21) 22 (by rfl) 27 i0 2 Try.underlying22 HI.out HZ1.out (by omega) B (k * 2) _ _ (by rfl) (some ⟨g, (k + 1) * 2, none⟩) (n - (k + 1)) (n - (k + 1)) (by rfl) (splice M 0 X1) X2 HOW.out (by rw [HL2.out, show Nat.min (n - (k + 1)) (m - k) = m - k by rw [show n - (k + 1) = m - k by omega]; exact Nat.min_self _]) (HX2.out _ HOG.out) (fun e => by cases e) (by rw [HL2.out, length_splice _ _ _ (by rw [HL1.out, HMl.out]; omega), HMl.out]; omega) HO2.out ?_; intro w4 how4 hgr4))
      all_goals ((try go_wp2_with fail); go_meet; exact ⟨how4, grown_bel (by repeat (first | with_reducible exact HB2.out | with_reducible apply below_drew | with_reducible apply below_drewN)) hgr4 hBg (by simpa using hs2)⟩)
    · obtain rfl : k = m := by omega
      obtain rfl : n = k + 1 := by omega
      go_region_held3 (fun _ => True) (trivial) (first
        | (refine step_copy _ (by rfl) (.tmp 17) (.tmp 21) 22 (by rfl) 27 i0 2 Try.underlying22 HI.out HZ1.out (by omega) B _ _ _ (by rfl) _ _ _ (by rfl) (splice M 0 X1) [] HOW.out (by simp) RL_nil (fun e => by cases e) (by simp) (by simp) ?_; intro w4 how4 hgr4))
      all_goals ((try go_wp2_with fail); go_meet; exact ⟨by rw [splice_nil (m := 0) rfl rfl] at how4; rw [← HFIN0.out.resolve_right (by omega)]; exact how4, grown_bel (by repeat (first | with_reducible exact HB2.out | with_reducible apply below_drew | with_reducible apply below_drewN)) hgr4 hBg (by simpa using hs2)⟩)
  case rest =>
    obtain ⟨how, hbx⟩ := hcut
    rw [HFIN.out] at how
    have HOW := Lib.hid how
    have HBX := Lib.hid hbx
    clear how hbx
    go_wp2_with fail
    go_ret
    exact ⟨⟨B, rfl, HOW.out, hBg⟩, HBX.out⟩
end Go.Proofs.Yteeohndgkfilaaa
