/-
  THE WALKS over package share, sixth part: Send.
-/
import Derived.Test.YteeohndgkfilaaaVal
namespace Go.Proofs.Yteeohndgkfilaaa
open Go.RowKit
set_option linter.unusedVariables false
attribute [local go_sem ↓] Go.wp_at_zero Go.wp_at_succ

/-- the value v reads as this share -/
def SV (W : World) (v : Value) (h nx : Int) (O : List (Int × Int)) (I : List Int) : Prop :=
  ∃ A c B d, v = .agg #[.int .i64 h, .int .i64 nx, .slice A O.length c, .slice B I.length d] ∧ RL W A (cT O) ∧ RL W B (cI I) ∧ (A = none → O.length = 0 ∧ c = 0) ∧ (B = none → I.length = 0 ∧ d = 0) ∧ (O.length ≤ c ∧ c ≤ 9223372036854775807) ∧ (I.length ≤ d ∧ d ≤ 9223372036854775807)
theorem SV.keep {W W' : World} {v : Value} {h nx : Int} {O : List (Int × Int)} {I : List Int} (x : SV W v h nx O I) (hb : Below W.heap.size W W') : SV W' v h nx O I := by
  obtain ⟨A, c, B, d, e, h1, h2, h3⟩ := x
  exact ⟨A, c, B, d, e, h1.keep hb, h2.keep hb, h3⟩
/-- the share of zeros -/
def zS : Value := .agg #[.int .i64 0, .int .i64 0, .slice none 0 0, .slice none 0 0]
theorem zS_sv (W : World) : SV W zS 0 0 [] [] := ⟨none, 0, none, 0, rfl, RL_nil, RL_nil, fun _ => ⟨rfl, rfl⟩, fun _ => ⟨rfl, rfl⟩, ⟨Nat.le_refl _, by omega⟩, ⟨Nat.le_refl _, by omega⟩⟩
theorem OW_sv {W : World} {gO gI n m : Nat} {h nx : Int} {O : List (Int × Int)} {I : List Int} (h1 : OW W gO 27 (cT O)) (h2 : OW W gI 3 (cI I)) (hn : O.length = n) (hm : I.length = m) (hn' : n ≤ 1000) (hm' : m ≤ 1000) :
    SV W (.agg #[.int .i64 h, .int .i64 nx, .slice (some ⟨gO, 0, none⟩) n n, .slice (some ⟨gI, 0, none⟩) m m]) h nx O I := by
  subst hn hm
  refine ⟨some ⟨gO, 0, none⟩, _, some ⟨gI, 0, none⟩, _, rfl, h1.rl, h2.rl, (fun e => (by cases e)), (fun e => (by cases e)), ⟨Nat.le_refl _, by omega⟩, ⟨Nat.le_refl _, by omega⟩⟩
/-- a slice of one's own: nil, or a block known whole -/
def RT (W : World) (A : Option Addr) (t : TypeId) (cs : List Value) : Prop := (A = none ∧ cs = []) ∨ ∃ g, A = some ⟨g, 0, none⟩ ∧ OW W g t cs
theorem RT.keep {W W' : World} {A : Option Addr} {t : TypeId} {cs : List Value} (x : RT W A t cs) (hb : Below W.heap.size W W') : RT W' A t cs := by
  rcases x with h | ⟨g, e, h⟩
  · exact .inl h
  · exact .inr ⟨g, e, h.keep hb⟩
theorem RT.far {W : World} {A : Option Addr} {t u : TypeId} {cs ds : List Value} {b : Nat} (x : RT W A t cs) (hb : OW W b u ds) (hne : u ≠ t) (j : Nat) (v : Value) : RT (W.setCell ⟨b, j, none⟩ v) A t cs := by
  rcases x with h | ⟨g, e, h⟩
  · exact .inl h
  · refine .inr ⟨g, e, h.far (fun he => hne ?_) j v⟩
    subst he
    have h1 : W.heap[b]? = some (.cells cs.toArray t (0, 0)) := h
    have h2 : W.heap[b]? = some (.cells ds.toArray u (0, 0)) := hb
    rw [h1] at h2
    injection h2 with h3
    injection h3 with _ h4
    exact h4.symm
theorem RT.rl {W : World} {A : Option Addr} {t : TypeId} {cs : List Value} (x : RT W A t cs) : RL W A cs := by
  rcases x with ⟨_, rfl⟩ | ⟨g, rfl, h⟩
  · exact RL_nil
  · exact h.rl
/-- the value v reads as this share, and its lists are its own -/
def SN (W : World) (v : Value) (h nx : Int) (O : List (Int × Int)) (I : List Int) : Prop :=
  ∃ A B n m, v = .agg #[.int .i64 h, .int .i64 nx, .slice A n n, .slice B m m] ∧ (O.length = n ∧ n ≤ 1000) ∧ (I.length = m ∧ m ≤ 1000) ∧ RT W A 27 (cT O) ∧ RT W B 3 (cI I)
theorem SN.keep {W W' : World} {v : Value} {h nx : Int} {O : List (Int × Int)} {I : List Int} (x : SN W v h nx O I) (hb : Below W.heap.size W W') : SN W' v h nx O I := by
  obtain ⟨A, B, n, m, e, h1, h2, h3, h4⟩ := x
  exact ⟨A, B, n, m, e, h1, h2, h3.keep hb, h4.keep hb⟩
theorem SN.far {W : World} {v : Value} {h nx : Int} {O : List (Int × Int)} {I : List Int} {u : TypeId} {ds : List Value} {b : Nat} (x : SN W v h nx O I) (hb : OW W b u ds) (h1 : u ≠ 27) (h2 : u ≠ 3) (j : Nat) (z : Value) : SN (W.setCell ⟨b, j, none⟩ z) v h nx O I := by
  obtain ⟨A, B, n, m, e, g1, g2, h3, h4⟩ := x
  exact ⟨A, B, n, m, e, g1, g2, h3.far hb h1 j z, h4.far hb h2 j z⟩
theorem SN.sv {W : World} {v : Value} {h nx : Int} {O : List (Int × Int)} {I : List Int} (x : SN W v h nx O I) : SV W v h nx O I := by
  obtain ⟨A, B, n, m, rfl, ⟨rfl, g1⟩, ⟨rfl, g2⟩, h3, h4⟩ := x
  refine ⟨A, _, B, _, rfl, h3.rl, h4.rl, fun e => ?_, fun e => ?_, ⟨Nat.le_refl _, by omega⟩, ⟨Nat.le_refl _, by omega⟩⟩
  · rcases h3 with ⟨_, h⟩ | ⟨g, e', _⟩
    · have := congrArg List.length h
      rw [cT_len, List.length_nil] at this
      exact ⟨by omega, by omega⟩
    · rw [e] at e'; cases e'
  · rcases h4 with ⟨_, h⟩ | ⟨g, e', _⟩
    · have := congrArg List.length h
      rw [cI_len, List.length_nil] at this
      exact ⟨by omega, by omega⟩
    · rw [e] at e'; cases e'
theorem OW_sn {W : World} {gO gI n m : Nat} {h nx : Int} {O : List (Int × Int)} {I : List Int} (h1 : OW W gO 27 (cT O)) (h2 : OW W gI 3 (cI I)) (hn : O.length = n) (hm : I.length = m) (hn' : n ≤ 1000) (hm' : m ≤ 1000) :
    SN W (.agg #[.int .i64 h, .int .i64 nx, .slice (some ⟨gO, 0, none⟩) n n, .slice (some ⟨gI, 0, none⟩) m m]) h nx O I :=
  ⟨_, _, n, m, rfl, ⟨hn, hn'⟩, ⟨hm, hm'⟩, .inr ⟨gO, rfl, h1⟩, .inr ⟨gI, rfl, h2⟩⟩
theorem SN_lit (W : World) (h nx : Int) : SN W (.agg #[.int .i64 h, .int .i64 nx, .slice none 0 0, .slice none 0 0]) h nx [] [] := ⟨none, none, 0, 0, rfl, ⟨rfl, by omega⟩, ⟨rfl, by omega⟩, .inl ⟨rfl, rfl⟩, .inl ⟨rfl, rfl⟩⟩
theorem OW.drew {w : World} {g : Nat} {t : TypeId} {cs : List Value} (h : OW w g t cs) : OW w.drew g t cs := h
theorem six {W : World} {B9 B8 : Nat} {t u : TypeId} {x0 x1 x2 x3 y0 y1 : Value} (h : OW W B9 t [x0, x1, x2, x3]) (h' : OW W B8 u [y0, y1]) : W.cell? ⟨B9, 0, none⟩ = some x0 ∧ W.cell? ⟨B9, 1, none⟩ = some x1 ∧ W.cell? ⟨B9, 2, none⟩ = some x2 ∧ W.cell? ⟨B9, 3, none⟩ = some x3 ∧ W.cell? ⟨B8, 0, none⟩ = some y0 ∧ W.cell? ⟨B8, 1, none⟩ = some y1 :=
  ⟨h.at rfl, h.at rfl, h.at rfl, h.at rfl, h'.at rfl, h'.at rfl⟩
/-- a share whose lists lie in new memory -/
def SF (B : Nat) (v : Value) : Prop := ∃ h nx gO n gI m, v = .agg #[h, nx, .slice (some ⟨gO, 0, none⟩) n n, .slice (some ⟨gI, 0, none⟩) m m] ∧ B ≤ gO ∧ B ≤ gI
/-- what Send answers -/
noncomputable def sE (h nx : Int) (O : List (Int × Int)) (I : List Int) (a : Int) : Int :=
  if vB h nx O I = true ∧ 1 ≤ a ∧ a ≤ 1000 then (if h < a then 13 else if O.length = 64 then 10 else if 1000000 < nx then 3 else 0) else 1
def SendR (W : World) (v t : Value) (er : Int) (h nx : Int) (O : List (Int × Int)) (I : List Int) (a : Int) : Prop :=
  er = sE h nx O I a ∧ ((er = 0 ∧ SN W v (h - a) (nx + 1) (O ++ [(nx, a)]) I ∧ t = .agg #[.int .i64 nx, .int .i64 a]) ∨ (er ≠ 0 ∧ v = zS ∧ t = .agg #[.int .i64 0, .int .i64 0]))

set_option maxRecDepth 100000 in
set_option maxHeartbeats 4000000 in
theorem send_okF (h nx : Int) (A : Option Addr) (n c : Nat) (B : Option Addr) (m d : Nat) (O : List (Int × Int)) (I : List Int) (a : Int) (w : World) (hlO : O.length = n) (hlI : I.length = m) (hRO : RL w A (cT O)) (hRI : RL w B (cI I)) (hAn : A = none → n = 0 ∧ c = 0) (hBn : B = none → m = 0 ∧ d = 0) (hv : vB h nx O I = true) (ha : 1 ≤ a ∧ a ≤ 1000) (hh : a ≤ h) (h64 : n ≠ 64) (hnx : nx ≤ 1000000) :
    Calls Try.prog 11 #[.agg #[.int .i64 h, .int .i64 nx, .slice A n c, .slice B m d], .int .i64 a] w fun e w' => (∃ v, e = .returned (.tuple #[v, .agg #[.int .i64 nx, .int .i64 a], .int .i64 0]) ∧ SN w' v (h - a) (nx + 1) (O ++ [(nx, a)]) I ∧ SF w.heap.size v) ∧ Below w.heap.size w w' := by
  have hvs := vB_iff.1 hv
  have hh2 := hvs.1
  have hn : n ≤ 64 := by have := hvs.2.1; omega
  have hm : m ≤ 64 := by have := hvs.2.1; omega
  have HV := Lib.hid hv
  have HRO := Lib.hid hRO
  have HRI := Lib.hid hRI
  have HLO := Lib.hid hlO
  have HLI := Lib.hid hlI
  have HAN := Lib.hid hAn
  have HBN := Lib.hid hBn
  have e1 : decide (a < 1) = false := decide_eq_false (by omega)
  have e2 : decide (1000 < a) = false := decide_eq_false (by omega)
  have e3 : ((n : Int) == 64) = false := by simp; omega
  obtain ⟨⟨b1, b2⟩, b3, b4⟩ := hh2
  clear hv hvs hRO hRI hlO hlI hAn hBn
  go_enter Try.func11, Try.ntmps11
  go_wp2_with (go_at_call 18; with_reducible refine (val_any h nx A n c B m d O I _ (by omega) (by omega) HLO.out HLI.out (HRO.out.keep (bel_alloc (bel_alloc (bel_a w _) _) _)) (HRI.out.keep (bel_alloc (bel_alloc (bel_a w _) _) _))).mono ?_; rintro e w1 ⟨rfl, h1⟩; rw [HV.out]
               have H1 := Lib.hid (bel_step (bel_alloc (bel_alloc (bel_a w (.cells #[.int .i64 h, .int .i64 nx, .slice A n c, .slice B m d] 25)) (.cells #[.int .i64 0, .int .i64 0, .slice none 0 0, .slice none 0 0] 25)) (.cells #[.int .i64 0, .int .i64 0] 27)) h1)
               have p0 := (((OW.new w 25 [.int .i64 h, .int .i64 nx, .slice A n c, .slice B m d]).alloc (.cells #[.int .i64 0, .int .i64 0, .slice none 0 0, .slice none 0 0] 25)).alloc (.cells #[.int .i64 0, .int .i64 0] 27)).keep h1
               have p1 := ((OW.new1 w (.cells #[.int .i64 h, .int .i64 nx, .slice A n c, .slice B m d] 25) 25 [.int .i64 0, .int .i64 0, .slice none 0 0, .slice none 0 0]).alloc (.cells #[.int .i64 0, .int .i64 0] 27)).keep h1
               have p2 := (OW.new2 w (.cells #[.int .i64 h, .int .i64 nx, .slice A n c, .slice B m d] 25) (.cells #[.int .i64 0, .int .i64 0, .slice none 0 0, .slice none 0 0] 25) 27 [.int .i64 0, .int .i64 0]).keep h1
               have c00 := p0.at (j := 0) rfl
               have c01 := p0.at (j := 1) rfl
               have c02 := p0.at (j := 2) rfl
               have c03 := p0.at (j := 3) rfl
               have P0 := Lib.hid p0
               have P1 := Lib.hid p1
               have P2 := Lib.hid p2
               have l0 := p0.lt
               have l1 := p1.lt
               have l2 := p2.lt
               clear p0 p1 p2 h1)
  all_goals (try (exfalso; omega))
  have HOA := Lib.hid (HRO.out.keep (bel_alloc H1.out (.cells #[.int .i64 nx, .int .i64 a] 27)))
  have HIA := Lib.hid (HRI.out.keep (bel_alloc H1.out (.cells #[.int .i64 nx, .int .i64 a] 27)))
  refine (dup_any h nx A n c B m d O I _ (by omega) (by omega) HLO.out HLI.out HOA.out HIA.out HAN.out HBN.out).mono ?_
  rintro e w2 ⟨⟨gO, gI, rfl, hO2, hI2, lgO, lgI⟩, h2⟩
  rw [World.size_alloc] at lgO lgI
  have H2 := Lib.hid (bel_step (bel_alloc H1.out _) h2)
  have R1 := Lib.hid ((P1.out.alloc _).keep h2)
  have R2 := Lib.hid ((P2.out.alloc _).keep h2)
  have R8 := Lib.hid ((OW.new w1 27 [.int .i64 nx, .int .i64 a]).keep h2)
  have HO2 := Lib.hid hO2
  have HI2 := Lib.hid hI2
  have l8 := R8.out.lt
  have y0 := R8.out.at (j := 0) rfl
  have y1 := R8.out.at (j := 1) rfl
  clear h2 hO2 hI2 c00 c01 c02 c03 P0 P1 P2 H1 HOA HIA HRO HRI
  go_wp2_with (go_at_call 24; with_reducible refine (ins_tr gO n O nx a _ (by omega) HLO.out (HO2.out.alloc _)).mono ?_; rintro e w3 ⟨⟨g3, rfl, hO3, lg3⟩, h3⟩
               have H3 := Lib.hid (bel_step (bel_alloc H2.out _) h3)
               have S1 := Lib.hid ((R1.out.alloc _).keep h3)
               have S2 := Lib.hid ((R2.out.alloc _).keep h3)
               have S8 := Lib.hid ((R8.out.alloc _).keep h3)
               have S9 := Lib.hid ((OW.new w2 25 [.int .i64 (h - a), .int .i64 (nx + 1), .slice (some ⟨gO, 0, none⟩) n n, .slice (some ⟨gI, 0, none⟩) m m]).keep h3)
               have HO3 := Lib.hid hO3
               have HI3 := Lib.hid ((HI2.out.alloc _).keep h3)
               have x2 := S9.out.at (j := 2) rfl
               have f2 := S9.out.thaw 2
               clear h3 hO3)
  obtain ⟨B1, hB1⟩ : ∃ b, w.heap.size + 1 = b := ⟨_, rfl⟩
  obtain ⟨B2, hB2⟩ : ∃ b, w.heap.size + 1 + 1 = b := ⟨_, rfl⟩
  obtain ⟨B8, hB8⟩ : ∃ b, w1.heap.size = b := ⟨_, rfl⟩
  obtain ⟨B9, hB9⟩ : ∃ b, w2.heap.size = b := ⟨_, rfl⟩
  rw [World.size_alloc] at lg3
  have o1 : w.heap.size < B1 ∧ B1 < B2 ∧ B2 < B8 ∧ B8 < B9 := by omega
  have o2 : B9 < g3 ∧ B8 < gO ∧ B8 < gI ∧ gI < B9 := by have := HI2.out.lt; omega
  rw [hB2] at S2 ⊢
  rw [hB1] at S1 ⊢
  rw [hB8] at S8 ⊢
  rw [hB9] at S9 x2 f2 ⊢
  clear hB1 hB2 hB8 hB9 l0 l1 l2 l8 y0 y1 lgO lgI lg3 R1 R2 R8 H2 HO2 HI2 x2 f2
  have T1 := Lib.hid (S1.out.far (b := B9) (by omega) 2 (.slice (some ⟨g3, 0, none⟩) (n + 1) (n + 1)))
  have T2 := Lib.hid (S2.out.far (b := B9) (by omega) 2 (.slice (some ⟨g3, 0, none⟩) (n + 1) (n + 1)))
  have T8 := Lib.hid (S8.out.far (b := B9) (by omega) 2 (.slice (some ⟨g3, 0, none⟩) (n + 1) (n + 1)))
  have T9 : Hid (OW (w3.setCell ⟨B9, 2, none⟩ (.slice (some ⟨g3, 0, none⟩) (n + 1) (n + 1))) B9 25 [.int .i64 (h - a), .int .i64 (nx + 1), .slice (some ⟨g3, 0, none⟩) (n + 1) (n + 1), .slice (some ⟨gI, 0, none⟩) m m]) := Lib.hid (S9.out.set 2 (.slice (some ⟨g3, 0, none⟩) (n + 1) (n + 1)))
  have TO := Lib.hid (HO3.out.far (b := B9) (by omega) 2 (.slice (some ⟨g3, 0, none⟩) (n + 1) (n + 1)))
  have TI := Lib.hid (HI3.out.far (b := B9) (by omega) 2 (.slice (some ⟨g3, 0, none⟩) (n + 1) (n + 1)))
  have TB : Hid (Below w.heap.size w (w3.setCell ⟨B9, 2, none⟩ (.slice (some ⟨g3, 0, none⟩) (n + 1) (n + 1)))) := Lib.hid (H3.out.setCell (by show w.heap.size ≤ B9; omega) _)
  obtain ⟨w4, hw4⟩ : ∃ w4, w3.setCell ⟨B9, 2, none⟩ (.slice (some ⟨g3, 0, none⟩) (n + 1) (n + 1)) = w4 := ⟨_, rfl⟩
  rw [hw4] at T1 T2 T8 T9 TO TI TB ⊢
  clear hw4 S1 S2 S8 S9 HO3 HI3 H3
  have c90 := T9.out.at (j := 0) rfl
  have c91 := T9.out.at (j := 1) rfl
  have c92 := T9.out.at (j := 2) rfl
  have c93 := T9.out.at (j := 3) rfl
  have c80 := T8.out.at (j := 0) rfl
  have c81 := T8.out.at (j := 1) rfl
  have c10 := T1.out.at (j := 0) rfl
  have c11 := T1.out.at (j := 1) rfl
  have c12 := T1.out.at (j := 2) rfl
  have c13 := T1.out.at (j := 3) rfl
  have z10 := T1.out.thaw 0
  have z11 := T1.out.thaw 1
  have z12 := T1.out.thaw 2
  have z13 := T1.out.thaw 3
  have c20 := T2.out.at (j := 0) rfl
  have c21 := T2.out.at (j := 1) rfl
  have z20 := T2.out.thaw 0
  have z21 := T2.out.thaw 1
  have v1 : ¬ B1 = B8 := by omega
  have v2 : ¬ B1 = B2 := by omega
  have v3 : ¬ B8 = B1 := by omega
  have v4 : ¬ B2 = B1 := by omega
  obtain ⟨wF, hwF⟩ : ∃ wF, ((((((w4.setCell ⟨B1, 0, none⟩ (.int .i64 (h - a))).setCell ⟨B1, 1, none⟩ (.int .i64 (nx + 1))).setCell ⟨B1, 2, none⟩ (.slice (some ⟨g3, 0, none⟩) (n + 1) (n + 1))).setCell ⟨B1, 3, none⟩ (.slice (some ⟨gI, 0, none⟩) m m)).setCell ⟨B2, 0, none⟩ (.int .i64 nx)).setCell ⟨B2, 1, none⟩ (.int .i64 a)).drew = wF := ⟨_, rfl⟩
  have F1 : Hid (OW wF B1 25 [.int .i64 (h - a), .int .i64 (nx + 1), .slice (some ⟨g3, 0, none⟩) (n + 1) (n + 1), .slice (some ⟨gI, 0, none⟩) m m]) := Lib.hid (by
    have q := ((((((T1.out.set 0 (.int .i64 (h - a))).set 1 (.int .i64 (nx + 1))).set 2 (.slice (some ⟨g3, 0, none⟩) (n + 1) (n + 1))).set 3 (.slice (some ⟨gI, 0, none⟩) m m)).far (b := B2) (by omega) 0 (.int .i64 nx)).far (b := B2) (by omega) 1 (.int .i64 a)).drew
    rw [hwF] at q
    exact q)
  have F2 : Hid (OW wF B2 27 [.int .i64 nx, .int .i64 a]) := Lib.hid (by
    have q := ((((((T2.out.far (b := B1) (by omega) 0 (.int .i64 (h - a))).far (b := B1) (by omega) 1 (.int .i64 (nx + 1))).far (b := B1) (by omega) 2 (.slice (some ⟨g3, 0, none⟩) (n + 1) (n + 1))).far (b := B1) (by omega) 3 (.slice (some ⟨gI, 0, none⟩) m m)).set 0 (.int .i64 nx)).set 1 (.int .i64 a)).drew
    rw [hwF] at q
    exact q)
  have FO : Hid (OW wF g3 27 (cT (O ++ [(nx, a)]))) := Lib.hid (by
    have q := ((((((TO.out.far (b := B1) (by omega) 0 (.int .i64 (h - a))).far (b := B1) (by omega) 1 (.int .i64 (nx + 1))).far (b := B1) (by omega) 2 (.slice (some ⟨g3, 0, none⟩) (n + 1) (n + 1))).far (b := B1) (by omega) 3 (.slice (some ⟨gI, 0, none⟩) m m)).far (b := B2) (by omega) 0 (.int .i64 nx)).far (b := B2) (by omega) 1 (.int .i64 a)).drew
    rw [hwF] at q
    exact q)
  have FI : Hid (OW wF gI 3 (cI I)) := Lib.hid (by
    have q := ((((((TI.out.far (b := B1) (by omega) 0 (.int .i64 (h - a))).far (b := B1) (by omega) 1 (.int .i64 (nx + 1))).far (b := B1) (by omega) 2 (.slice (some ⟨g3, 0, none⟩) (n + 1) (n + 1))).far (b := B1) (by omega) 3 (.slice (some ⟨gI, 0, none⟩) m m)).far (b := B2) (by omega) 0 (.int .i64 nx)).far (b := B2) (by omega) 1 (.int .i64 a)).drew
    rw [hwF] at q
    exact q)
  have FB : Hid (Below w.heap.size w wF) := Lib.hid (by
    have q := below_drew ((((((TB.out.setCell (p := ⟨B1, 0, none⟩) (by show w.heap.size ≤ B1; omega) (.int .i64 (h - a))).setCell (p := ⟨B1, 1, none⟩) (by show w.heap.size ≤ B1; omega) (.int .i64 (nx + 1))).setCell (p := ⟨B1, 2, none⟩) (by show w.heap.size ≤ B1; omega) (.slice (some ⟨g3, 0, none⟩) (n + 1) (n + 1))).setCell (p := ⟨B1, 3, none⟩) (by show w.heap.size ≤ B1; omega) (.slice (some ⟨gI, 0, none⟩) m m)).setCell (p := ⟨B2, 0, none⟩) (by show w.heap.size ≤ B2; omega) (.int .i64 nx)).setCell (p := ⟨B2, 1, none⟩) (by show w.heap.size ≤ B2; omega) (.int .i64 a))
    rw [hwF] at q
    exact q)
  have HWF := Lib.hid hwF
  clear hwF
  go_cut [6] (fun q wx => q = .int .i64 0 ∧ OW wx B1 25 [.int .i64 (h - a), .int .i64 (nx + 1), .slice (some ⟨g3, 0, none⟩) (n + 1) (n + 1), .slice (some ⟨gI, 0, none⟩) m m] ∧ OW wx B2 27 [.int .i64 nx, .int .i64 a] ∧ OW wx g3 27 (cT (O ++ [(nx, a)])) ∧ OW wx gI 3 (cI I) ∧ Below w.heap.size w wx)
  case first =>
    have K0 := Lib.hid (six T9.out.drew T8.out.drew)
    have K9 := Lib.hid (six ((((T9.out.far (b := B1) (by omega) 0 (.int .i64 (h - a))).far (b := B1) (by omega) 1 (.int .i64 (nx + 1))).far (b := B1) (by omega) 2 (.slice (some ⟨g3, 0, none⟩) (n + 1) (n + 1))).far (b := B1) (by omega) 3 (.slice (some ⟨gI, 0, none⟩) m m)).drew ((((T8.out.far (b := B1) (by omega) 0 (.int .i64 (h - a))).far (b := B1) (by omega) 1 (.int .i64 (nx + 1))).far (b := B1) (by omega) 2 (.slice (some ⟨g3, 0, none⟩) (n + 1) (n + 1))).far (b := B1) (by omega) 3 (.slice (some ⟨gI, 0, none⟩) m m)).drew)
    have K10 := Lib.hid (six ((((((T9.out.far (b := B1) (by omega) 0 (.int .i64 (h - a))).far (b := B1) (by omega) 1 (.int .i64 (nx + 1))).far (b := B1) (by omega) 2 (.slice (some ⟨g3, 0, none⟩) (n + 1) (n + 1))).far (b := B1) (by omega) 3 (.slice (some ⟨gI, 0, none⟩) m m)).far (b := B2) (by omega) 0 (.int .i64 nx)).far (b := B2) (by omega) 1 (.int .i64 a)).drew ((((((T8.out.far (b := B1) (by omega) 0 (.int .i64 (h - a))).far (b := B1) (by omega) 1 (.int .i64 (nx + 1))).far (b := B1) (by omega) 2 (.slice (some ⟨g3, 0, none⟩) (n + 1) (n + 1))).far (b := B1) (by omega) 3 (.slice (some ⟨gI, 0, none⟩) m m)).far (b := B2) (by omega) 0 (.int .i64 nx)).far (b := B2) (by omega) 1 (.int .i64 a)).drew)
    go_region_held3 (fun w' => w'.cell? ⟨B9, 0, none⟩ = some (.int .i64 (h - a)) ∧ w'.cell? ⟨B9, 1, none⟩ = some (.int .i64 (nx + 1)) ∧ w'.cell? ⟨B9, 2, none⟩ = some (.slice (some ⟨g3, 0, none⟩) (n + 1) (n + 1)) ∧ w'.cell? ⟨B9, 3, none⟩ = some (.slice (some ⟨gI, 0, none⟩) m m) ∧ w'.cell? ⟨B8, 0, none⟩ = some (.int .i64 nx) ∧ w'.cell? ⟨B8, 1, none⟩ = some (.int .i64 a))
      (first | with_reducible exact K0.out | with_reducible exact K9.out | with_reducible exact K10.out) (fail)
    rw [HWF.out]
    (try go_wp2_with fail)
    go_meet
    exact ⟨rfl, F1.out, F2.out, FO.out, FI.out, FB.out⟩
  case rest =>
    obtain ⟨rfl, f1, f2, fO, fI, fb⟩ := hcut
    have d0 : wc.cell? ⟨B1, 0, none⟩ = some (.int .i64 (h - a)) := f1.at rfl
    have d1 : wc.cell? ⟨B1, 1, none⟩ = some (.int .i64 (nx + 1)) := f1.at rfl
    have d2 : wc.cell? ⟨B1, 2, none⟩ = some (.slice (some ⟨g3, 0, none⟩) (n + 1) (n + 1)) := f1.at rfl
    have d3 : wc.cell? ⟨B1, 3, none⟩ = some (.slice (some ⟨gI, 0, none⟩) m m) := f1.at rfl
    have d4 : wc.cell? ⟨B2, 0, none⟩ = some (.int .i64 nx) := f2.at rfl
    have d5 : wc.cell? ⟨B2, 1, none⟩ = some (.int .i64 a) := f2.at rfl
    have FIN := Lib.hid (OW_sn (n := n + 1) (m := m) (h := h - a) (nx := nx + 1) fO fI (by simp [HLO.out]) HLI.out (by omega) (by omega))
    have FB := Lib.hid fb
    clear fO fI fb f1 f2
    go_wp2_with fail
    (try simp only [Exit.inBlock, Exit.then])
    refine bodyPost_ret (by simp [results, Try.results11, go_sem, d0, d1, d2, d3, d4, d5]; try rfl) rfl ?_
    exact ⟨⟨_, rfl, FIN.out, _, _, _, _, _, _, rfl, by omega, by omega⟩, FB.out⟩
theorem send_ok (h nx : Int) (A : Option Addr) (n c : Nat) (B : Option Addr) (m d : Nat) (O : List (Int × Int)) (I : List Int) (a : Int) (w : World) (hlO : O.length = n) (hlI : I.length = m) (hRO : RL w A (cT O)) (hRI : RL w B (cI I)) (hAn : A = none → n = 0 ∧ c = 0) (hBn : B = none → m = 0 ∧ d = 0) (hv : vB h nx O I = true) (ha : 1 ≤ a ∧ a ≤ 1000) (hh : a ≤ h) (h64 : n ≠ 64) (hnx : nx ≤ 1000000) :
    Calls Try.prog 11 #[.agg #[.int .i64 h, .int .i64 nx, .slice A n c, .slice B m d], .int .i64 a] w fun e w' => (∃ v, e = .returned (.tuple #[v, .agg #[.int .i64 nx, .int .i64 a], .int .i64 0]) ∧ SN w' v (h - a) (nx + 1) (O ++ [(nx, a)]) I) ∧ Below w.heap.size w w' := (send_okF h nx A n c B m d O I a w hlO hlI hRO hRI hAn hBn hv ha hh h64 hnx).mono fun e w' ⟨⟨v, e1, e2, _⟩, hb⟩ => ⟨⟨v, e1, e2⟩, hb⟩
end Go.Proofs.Yteeohndgkfilaaa
