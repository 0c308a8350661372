/-
  THE WALKS over package share, fourth part: duplicate.
-/
import Derived.Test.YteeohndgkfilaaaDup
namespace Go.Proofs.Yteeohndgkfilaaa
open Go.RowKit
set_option linter.unusedVariables false
attribute [local go_sem ↓] Go.wp_at_zero Go.wp_at_succ

theorem OW.new1 (w : World) (o : Obj) (t : TypeId) (cs : List Value) : OW ((w.alloc o).alloc (.cells cs.toArray t)) (w.heap.size + 1) t cs := by
  have h := OW.new (w.alloc o) t cs
  rw [World.size_alloc] at h
  exact h
theorem OW.new2 (w : World) (o o' : Obj) (t : TypeId) (cs : List Value) : OW (((w.alloc o).alloc o').alloc (.cells cs.toArray t)) (w.heap.size + 1 + 1) t cs := by
  have h := OW.new1 (w.alloc o) o' t cs
  rw [World.size_alloc] at h
  exact h
theorem OW.new3 (w : World) (o o' o'' : Obj) (t : TypeId) (cs : List Value) : OW ((((w.alloc o).alloc o').alloc o'').alloc (.cells cs.toArray t)) (w.heap.size + 1 + 1 + 1) t cs := by
  have h := OW.new2 (w.alloc o) o' o'' t cs
  rw [World.size_alloc] at h
  exact h
theorem OW.alloc {w : World} {g : Nat} {t : TypeId} {cs : List Value} (h : OW w g t cs) (o : Obj) : OW (w.alloc o) g t cs := h.keep (bel_a w o)

set_option maxRecDepth 100000 in
set_option maxHeartbeats 2000000 in
theorem dup_any (h nx : Int) (A : Option Addr) (n c : Nat) (B : Option Addr) (m d : Nat) (lO : List (Int × Int)) (lI : List Int) (w : World) (hn : n ≤ 100) (hm : m ≤ 100) (hlO : lO.length = n) (hlI : lI.length = m) (hRO : RL w A (cT lO)) (hRI : RL w B (cI lI)) (hAn : A = none → n = 0 ∧ c = 0) (hBn : B = none → m = 0 ∧ d = 0) :
    Calls Try.prog 23 #[.agg #[.int .i64 h, .int .i64 nx, .slice A n c, .slice B m d]] w
      fun e w' => (∃ gO gI, e = .returned (.agg #[.int .i64 h, .int .i64 nx, .slice (some ⟨gO, 0, none⟩) n n, .slice (some ⟨gI, 0, none⟩) m m]) ∧ OW w' gO 27 (cT lO) ∧ OW w' gI 3 (cI lI) ∧ w.heap.size ≤ gO ∧ w.heap.size ≤ gI) ∧ Below w.heap.size w w' := by
  obtain ⟨i0, hi, hz0, hz1, hz2⟩ := info_parts infoTr
  obtain ⟨j0, hj, hy0, hy1, hy2⟩ := info_parts infoInt
  have HI := Lib.hid hi
  have HZ1 := Lib.hid hz1
  have HJ := Lib.hid hj
  have HY1 := Lib.hid hy1
  obtain ⟨M, hM, hMl⟩ := made_list (Value.agg #[.int .i64 0, .int .i64 0]).cells (n * 2)
  obtain ⟨N, hN, hNl⟩ := made_list (Value.int .i64 0).cells m
  have hmk : ∀ W : World, (Instr.makeSlice 22 (.int .i64 (n : Int)) (.int .i64 (n : Int))).run Try.prog W = .ok (.slice (some ⟨W.heap.size, 0, none⟩) n n) (W.alloc (.cells M.toArray 27)) := fun W => by
    have := run_make_rowN (P := Try.prog) 22 27 i0 _ Try.underlying22 hi hz0 .i64 .i64 n n (by omega) (by rw [hz2]; omega) (by omega) W
    rw [hz1, hM] at this
    exact this
  have hmk2 : ∀ W : World, (Instr.makeSlice 23 (.int .i64 (m : Int)) (.int .i64 (m : Int))).run Try.prog W = .ok (.slice (some ⟨W.heap.size, 0, none⟩) m m) (W.alloc (.cells N.toArray 3)) := fun W => by
    have := run_make_rowN (P := Try.prog) 23 3 j0 _ Try.underlying23 hj hy0 .i64 .i64 m m (by omega) (by rw [hy2]; omega) (by omega) W
    rw [hy1, Nat.mul_one, hN] at this
    exact this
  have HRO := Lib.hid hRO
  have HRI := Lib.hid hRI
  have HLO := Lib.hid hlO
  have HLI := Lib.hid hlI
  have HMl := Lib.hid hMl
  have HNl := Lib.hid hNl
  have HAN := Lib.hid hAn
  have HBN := Lib.hid hBn
  clear hM hMl hN hNl hi hz0 hz1 hz2 hj hy0 hy1 hy2 hRO hRI hlO hlI hAn hBn
  go_enter Try.func23, Try.ntmps23
  go_wp2_with fail
  have p0 := (((OW.new w 25 [.int .i64 h, .int .i64 nx, .slice A n c, .slice B m d]).alloc (.cells #[.int .i64 0, .int .i64 0, .slice none 0 0, .slice none 0 0] 25)).alloc (.cells #[.int .i64 h, .int .i64 nx, .slice (some ⟨w.heap.size + 1 + 1 + 1, 0, none⟩) n n, .slice B m d] 25)).alloc (.cells M.toArray 27)
  have p1 := ((OW.new1 w (.cells #[.int .i64 h, .int .i64 nx, .slice A n c, .slice B m d] 25) 25 [.int .i64 0, .int .i64 0, .slice none 0 0, .slice none 0 0]).alloc (.cells #[.int .i64 h, .int .i64 nx, .slice (some ⟨w.heap.size + 1 + 1 + 1, 0, none⟩) n n, .slice B m d] 25)).alloc (.cells M.toArray 27)
  have p2 := (OW.new2 w (.cells #[.int .i64 h, .int .i64 nx, .slice A n c, .slice B m d] 25) (.cells #[.int .i64 0, .int .i64 0, .slice none 0 0, .slice none 0 0] 25) 25 [.int .i64 h, .int .i64 nx, .slice (some ⟨w.heap.size + 1 + 1 + 1, 0, none⟩) n n, .slice B m d]).alloc (.cells M.toArray 27)
  have p3 := OW.new3 w (.cells #[.int .i64 h, .int .i64 nx, .slice A n c, .slice B m d] 25) (.cells #[.int .i64 0, .int .i64 0, .slice none 0 0, .slice none 0 0] 25) (.cells #[.int .i64 h, .int .i64 nx, .slice (some ⟨w.heap.size + 1 + 1 + 1, 0, none⟩) n n, .slice B m d] 25) 27 M
  have hb4 : Below w.heap.size w ((((w.alloc (.cells #[.int .i64 h, .int .i64 nx, .slice A n c, .slice B m d] 25)).alloc (.cells #[.int .i64 0, .int .i64 0, .slice none 0 0, .slice none 0 0] 25)).alloc (.cells #[.int .i64 h, .int .i64 nx, .slice (some ⟨w.heap.size + 1 + 1 + 1, 0, none⟩) n n, .slice B m d] 25)).alloc (.cells M.toArray 27)) := bel_alloc (bel_alloc (bel_alloc (bel_a w _) _) _) _
  obtain ⟨w2, hrun, how2, hgr2⟩ := run_copy_sz (P := Try.prog) _ 22 22 3 27 i0 (w.heap.size + 1 + 1 + 1) 0 n n A n c 2 M (cT lO) 27 Try.underlying22 HI.out HZ1.out p3 (by rw [cT_len, HLO.out, show Nat.min n n = n from Nat.min_self n]) (HRO.out.keep hb4) HAN.out (by rw [cT_len, HMl.out, HLO.out]; omega) (cT_one _) (by omega)
  rw [hrun]
  rw [copy1 (by rw [HMl.out, cT_len, HLO.out])] at how2
  have hb2 : Below w.heap.size w w2 := grown_bel hb4 hgr2 (by omega) hb4.size
  have q0 := p0.grown hgr2 (by omega)
  have q1 := p1.grown hgr2 (by omega)
  have q2 := p2.grown hgr2 (by omega)
  have hs2 := how2.lt
  have HB2 := Lib.hid hb2
  have HW2 := Lib.hid how2
  have Q0 := Lib.hid q0
  have Q1 := Lib.hid q1
  have Q2 := Lib.hid q2
  obtain ⟨b0, hb0⟩ : ∃ b, w.heap.size = b := ⟨_, rfl⟩
  obtain ⟨b1, hb1⟩ : ∃ b, w.heap.size + 1 = b := ⟨_, rfl⟩
  obtain ⟨b2, hb2'⟩ : ∃ b, w.heap.size + 1 + 1 = b := ⟨_, rfl⟩
  obtain ⟨b3, hb3⟩ : ∃ b, w.heap.size + 1 + 1 + 1 = b := ⟨_, rfl⟩
  have hbs : w.heap.size ≤ b0 ∧ b0 < b1 ∧ b1 < b2 ∧ b2 < b3 := by omega
  rw [hb3] at HW2 Q2 hs2 ⊢
  rw [hb2'] at Q2 ⊢
  rw [hb1] at Q1 ⊢
  rw [hb0] at Q0 ⊢
  clear p0 p1 p2 p3 q0 q1 q2 hb4 hb2 how2 hgr2 hrun hmk hb0 hb1 hb2' hb3
  have c02 := Q0.out.at (j := 2) rfl
  have c03 := Q0.out.at (j := 3) rfl
  have c20 := Q2.out.at (j := 0) rfl
  have c21 := Q2.out.at (j := 1) rfl
  have c22 := Q2.out.at (j := 2) rfl
  have c23 := Q2.out.at (j := 3) rfl
  have z23 := Q2.out.thaw 3
  obtain ⟨s1, s2, s3, s4⟩ := hbs
  have t0 : b0 < w2.heap.size := by omega
  have t1 : b1 < w2.heap.size := by omega
  have t2 : b2 < w2.heap.size := by omega
  go_wp2_with fail
  have e5 : (w2.setCell ⟨b2, 3, none⟩ (.slice (some ⟨w2.heap.size, 0, none⟩) m m)).heap.size = w2.heap.size := by simp [World.setCell]
  have r2 := (Q2.out.set 3 (.slice (some ⟨w2.heap.size, 0, none⟩) m m)).alloc (.cells N.toArray 3)
  have r1 := (Q1.out.far (b := b2) (by omega) 3 (.slice (some ⟨w2.heap.size, 0, none⟩) m m)).alloc (.cells N.toArray 3)
  have r3 := (HW2.out.far (b := b2) (by omega) 3 (.slice (some ⟨w2.heap.size, 0, none⟩) m m)).alloc (.cells N.toArray 3)
  have r4 := OW.new (w2.setCell ⟨b2, 3, none⟩ (.slice (some ⟨w2.heap.size, 0, none⟩) m m)) 3 N
  rw [e5] at r4
  have hb5 : Below w.heap.size w ((w2.setCell ⟨b2, 3, none⟩ (.slice (some ⟨w2.heap.size, 0, none⟩) m m)).alloc (.cells N.toArray 3)) := bel_alloc (HB2.out.setCell (by show w.heap.size ≤ b2; omega) _) _
  obtain ⟨w3, hrun, how3, hgr3⟩ := run_copy_sz (P := Try.prog) _ 23 23 3 3 j0 w2.heap.size 0 m m B m d 1 N (cI lI) 3 Try.underlying23 HJ.out HY1.out r4 (by rw [cI_len, HLI.out, show Nat.min m m = m from Nat.min_self m, Nat.mul_one]) (HRI.out.keep hb5) HBN.out (by rw [cI_len, HNl.out, HLI.out]; omega) (cI_one _) (by omega)
  rw [hrun]
  rw [copy1 (by rw [HNl.out, cI_len, HLI.out])] at how3
  have hb3 : Below w.heap.size w w3 := grown_bel hb5 hgr3 (by omega) hb5.size
  have u1 := r1.grown hgr3 (by omega)
  have u2 := r2.grown hgr3 (by omega)
  have u3 := r3.grown hgr3 (by omega)
  have HB3 := Lib.hid hb3
  have HW3 := Lib.hid how3
  have U1 := Lib.hid u1
  have U2 : Hid (OW w3 b2 25 [.int .i64 h, .int .i64 nx, .slice (some ⟨b3, 0, none⟩) n n, .slice (some ⟨w2.heap.size, 0, none⟩) m m]) := Lib.hid u2
  have U3 := Lib.hid u3
  have hs3 := how3.lt
  obtain ⟨b4, hb4⟩ : ∃ b, w2.heap.size = b := ⟨_, rfl⟩
  have s5 : b3 < b4 := by omega
  rw [hb4] at U2 HW3 hs3 ⊢
  clear c02 c03 c20 c21 c22 c23 z23 r1 r2 r3 r4 u1 u2 u3 hb5 hb3 how3 hgr3 hrun e5 hmk2 t0 t1 t2 hs2 hb4
  have c20 := U2.out.at (j := 0) rfl
  have c21 := U2.out.at (j := 1) rfl
  have c22 := U2.out.at (j := 2) rfl
  have c23 := U2.out.at (j := 3) rfl
  have c10 := U1.out.at (j := 0) rfl
  have c11 := U1.out.at (j := 1) rfl
  have c12 := U1.out.at (j := 2) rfl
  have c13 := U1.out.at (j := 3) rfl
  have z10 := U1.out.thaw 0
  have z11 := U1.out.thaw 1
  have z12 := U1.out.thaw 2
  have z13 := U1.out.thaw 3
  go_wp2_with fail
  have f1 := (((U1.out.set 0 (.int .i64 h)).set 1 (.int .i64 nx)).set 2 (.slice (some ⟨b3, 0, none⟩) n n)).set 3 (.slice (some ⟨b4, 0, none⟩) m m)
  have f3 := (((U3.out.far (b := b1) (by omega) 0 (.int .i64 h)).far (b := b1) (by omega) 1 (.int .i64 nx)).far (b := b1) (by omega) 2 (.slice (some ⟨b3, 0, none⟩) n n)).far (b := b1) (by omega) 3 (.slice (some ⟨b4, 0, none⟩) m m)
  have f4 := (((HW3.out.far (b := b1) (by omega) 0 (.int .i64 h)).far (b := b1) (by omega) 1 (.int .i64 nx)).far (b := b1) (by omega) 2 (.slice (some ⟨b3, 0, none⟩) n n)).far (b := b1) (by omega) 3 (.slice (some ⟨b4, 0, none⟩) m m)
  have fb : Below w.heap.size w ((((w3.setCell ⟨b1, 0, none⟩ (.int .i64 h)).setCell ⟨b1, 1, none⟩ (.int .i64 nx)).setCell ⟨b1, 2, none⟩ (.slice (some ⟨b3, 0, none⟩) n n)).setCell ⟨b1, 3, none⟩ (.slice (some ⟨b4, 0, none⟩) m m)) :=
    (((HB3.out.setCell (by show w.heap.size ≤ b1; omega) _).setCell (by show w.heap.size ≤ b1; omega) _).setCell (by show w.heap.size ≤ b1; omega) _).setCell (by show w.heap.size ≤ b1; omega) _
  obtain ⟨w5, hw5⟩ : ∃ w5, (((w3.setCell ⟨b1, 0, none⟩ (.int .i64 h)).setCell ⟨b1, 1, none⟩ (.int .i64 nx)).setCell ⟨b1, 2, none⟩ (.slice (some ⟨b3, 0, none⟩) n n)).setCell ⟨b1, 3, none⟩ (.slice (some ⟨b4, 0, none⟩) m m) = w5 := ⟨_, rfl⟩
  rw [hw5] at f1 f3 f4 fb ⊢
  have d0 : w5.cell? ⟨b1, 0, none⟩ = some (.int .i64 h) := f1.at rfl
  have d1 : w5.cell? ⟨b1, 1, none⟩ = some (.int .i64 nx) := f1.at rfl
  have d2 : w5.cell? ⟨b1, 2, none⟩ = some (.slice (some ⟨b3, 0, none⟩) n n) := f1.at rfl
  have d3 : w5.cell? ⟨b1, 3, none⟩ = some (.slice (some ⟨b4, 0, none⟩) m m) := f1.at rfl
  (try simp only [Exit.inBlock, Exit.then])
  refine bodyPost_ret (by simp [results, Try.results23, go_sem, d0, d1, d2, d3]; try rfl) rfl ?_
  exact ⟨⟨b3, b4, rfl, f3, f4, by omega, by omega⟩, fb⟩
end Go.Proofs.Yteeohndgkfilaaa
