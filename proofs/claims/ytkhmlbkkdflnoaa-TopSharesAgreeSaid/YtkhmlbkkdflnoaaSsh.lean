/-
  steps.Share. (Printed by gen_ssh.py.)
-/
import Derived.Test.YtkhmlbkkdflnoaaEqp
import Derived.Test.YtkhmlbkkdflnoaaInl
import Derived.Test.YtkhmlbkkdflnoaaFval
import Derived.Test.YtkhmlbkkdflnoaaFsh
import Derived.Deep.LoopGhost
namespace Go.Proofs.Ytkhmlbkkdflnoaa.Nm
open Go.RowKit Go.Proofs.Ytkhmlbkkdflnoaa Go
set_option linter.unusedVariables false
set_option linter.unusedSimpArgs false
attribute [local go_sem ↓] Go.wp_at_zero Go.wp_at_succ

def capL (L : List (Int × List Nat)) (i : Nat) : Int := (L.getD i (0, [])).1
/-- the last levels -/
def stepX (L : List (Int × List Nat)) (n : Nat) (lim z : Nat → Int) : Nat → Int := grun (prs L L.length) (capL L) lim (natL z n) (pot n lim (fun _ => 0) + 1) 1 (fun _ => 0) (fun _ => 0)
/-- within a level -/
def LJ (p : TP) (lim : Nat → Int) (zs : List Nat) (w0 : World) (level : Int) (su lv : Nat → Int) (j : Nat) (w : World) : Prop :=
  TS p (gpass p.P (capL p.L) lim level (zs.take j) su lv).su (gpass p.P (capL p.L) lim level (zs.take j) su lv).lv w ∧ Below w0.heap.size w0 w
theorem gtake (P : List (Nat × Nat)) (cap lim : Nat → Int) (level : Int) (zs : List Nat) (su lv : Nat → Int) (j : Nat) (hj : j < zs.length) : gpass P cap lim level (zs.take (j + 1)) su lv = grise P cap lim level (gpass P cap lim level (zs.take j) su lv) (zs.getD j 0) := by rw [take_one zs j hj, gpass_snoc]
theorem gsu (P : List (Nat × Nat)) (cap lim : Nat → Int) (level : Int) (zs : List Nat) (su lv : Nat → Int) (i : Nat) : su i ≤ (gpass P cap lim level zs su lv).su i := by
  induction zs using rev_ind with
  | h0 => simp [gpass]
  | h1 pre m ih =>
    rw [gpass_snoc]
    unfold grise
    split
    · have := (inc_bd (inL P m) (gpass P cap lim level pre su lv).su i).1
      exact Int.le_trans ih this
    · exact ih
/-- bounds within a level -/
theorem gbd {R n : Nat} {P : List (Nat × Nat)} {lim cap x su : Nat → Int} {level : Int} (hN : ∀ m, m < n → (inL P m).Nodup) (hR : ∀ m, m < n → ∀ i ∈ inL P m, i < R) (hG : Gd R n lim (fun i => cap i - su i) x) (hx : ∀ m, m < n → x m ≤ level - 1) (zs : List Nat) (hz : zs.Nodup) (hzn : ∀ m ∈ zs, m < n) :
    Gd R n lim (fun i => cap i - (gpass P cap lim level zs su x).su i) (gpass P cap lim level zs su x).lv ∧ (∀ m, m < n → (gpass P cap lim level zs su x).lv m ≤ level) ∧ ((gpass P cap lim level zs su x).some = true → pot n lim (gpass P cap lim level zs su x).lv + 1 ≤ pot n lim x) := by
  have hs := pass_eq hN hR hG (fun i => rfl) hx zs hz hzn
  have hok := fpass_ok (P := P) (top := lim) hN hR (zs.filter fun m => decide (x m = level - 1)) (fun i => cap i - su i) x (fun a ha => hzn a (List.mem_filter.1 ha).1) hG
  obtain ⟨F, hF⟩ : ∃ F, fpass P lim (zs.filter fun m => decide (x m = level - 1)) (fun i => cap i - su i) x = F := ⟨_, rfl⟩
  rw [hF] at hs hok
  obtain ⟨s1, s2, s3, s4, s5, s6⟩ := hs
  rw [s1]
  refine ⟨⟨fun i hi => ?_, hok.1.x⟩, s6, fun h => ?_⟩
  · have := hok.1.lf i hi
    rw [s2] at this
    exact this
  · rw [s4, decide_eq_true_eq] at h
    have := hok.2.1
    omega
theorem nodup_take {l : List Nat} (h : l.Nodup) (k : Nat) : (l.take k).Nodup := h.sublist (List.take_sublist k l)
/-- between two levels -/
structure LG (p : TP) (lim X : Nat → Int) (zs : List Nat) (w0 : World) (g : Nat) (level : Int) (su lv : Nat → Int) (w : World) : Prop where
  ts : TS p su lv w
  gd : Gd p.L.length (p.S.n 3) lim (fun i => capL p.L i - su i) lv
  le : ∀ m, m < p.S.n 3 → lv m ≤ level - 1
  nn : ∀ i, 0 ≤ su i
  pot : pot (p.S.n 3) lim lv + 1 ≤ g
  lvl : 1 ≤ level ∧ level + g ≤ 1400
  run : grun p.P (capL p.L) lim zs g level su lv = X
  bel : Below w0.heap.size w0 w
theorem okT_open {S : Sit} {RA : Option Addr} {R rc : Nat} {AA : Option Addr} {n ca : Nat} {P : List (Nat × Nat)} {w0 : World} {e : Ending} {w : World} (h : OkT S RA R rc AA n ca P w0 e w) : ∃ T bs bl B1, e = .returned (.pointer (some ⟨T, 0, none⟩)) ∧ NT S RA R rc AA n ca T bs bl B1 P w0 w := h
theorem NT.ts {S : Sit} {RA : Option Addr} {rc : Nat} {AA : Option Addr} {ca T bs bl B1 : Nat} {L : List (Int × List Nat)} {w0 w : World} (h : NT S RA L.length rc AA (S.n 3) ca T bs bl B1 (prs L L.length) w0 w) (hn : S.n 3 ≤ 16) (p : TP) (hp : p = { S := S, L := L, RA := RA, rc := rc, AA := AA, ca := ca, T := T, bs := bs, bl := bl, w0 := w0 }) : TS p (fun _ => 0) (fun _ => 0) w := by
  obtain ⟨⟨V, f1, f2⟩, fsu, flv, ⟨l1, l2, l3, l4⟩, ⟨n1, n2, n3⟩, flow, fb⟩ := h
  rw [hp]
  refine ⟨f2.cell (i := 3) (by omega), f2.cell (i := 5) (by omega), f2.cell (i := 22) (by omega), f2.cell (i := 23) (by omega), f2.cell (i := 24) (by omega), fun m hm => ?_, fsu, flv, fb⟩
  have hm16 : m < 16 := Nat.lt_of_lt_of_le hm hn
  obtain ⟨A', c', eV, hc, hz, hB⟩ := f1.rz hm16
  have c6 := f2.cell (i := 6 + m) (by omega)
  rw [trc_of _ _ _ _ _ _ _ _ _ _ _ hm16, eV] at c6
  exact ⟨A', c', c6, hc, hz, fun b o eA hw => by
    have := hB b o eA
    rcases hw with hw | hw <;> (simp only at hw; omega)⟩
theorem sum_le (f : Nat → Nat) (c : Nat) : ∀ n, (∀ i, i < n → f i ≤ c) → ((List.range n).map f).sum ≤ n * c := by
  intro n
  induction n with
  | zero => intro _; simp
  | succ n ih =>
    intro h
    have h1 := ih (fun i hi => h i (by omega))
    have h2 := h n (by omega)
    rw [List.range_succ, List.map_append, List.sum_append, Nat.succ_mul]
    simp only [List.map_cons, List.map_nil, List.sum_cons, List.sum_nil]
    omega
theorem pot_le (n : Nat) (lim : Nat → Int) (h : ∀ m, m < n → 0 ≤ lim m ∧ lim m ≤ 80) (hn : n ≤ 16) : pot n lim (fun _ => 0) ≤ 1280 := by
  have h1 : ((List.range n).map fun m => (lim m - 0).toNat).sum ≤ n * 80 := sum_le (fun m => (lim m - 0).toNat) 80 n (fun i hi => by have := h i hi; omega)
  unfold pot
  exact Nat.le_trans h1 (by omega)
theorem natL_all {z : Nat → Int} {n : Nat} (hO : OrP n n z) : (natL z n).length = n ∧ (natL z n).Nodup ∧ (∀ m ∈ natL z n, m < n) ∧ ∀ j, j < n → z j = (((natL z n).getD j 0 : Nat) : Int) := by
  refine ⟨natL_len z n, ?_, fun m hm => ?_, fun j hj => ?_⟩
  · unfold List.Nodup
    rw [List.pairwise_iff_getElem]
    intro i j hi hj hij
    rw [natL_len] at hi hj
    simp only [natL, List.getElem_map, List.getElem_range]
    have h1 := (hO.2 j hj).2 i hij
    have h2 := (hO.2 i hi).1
    have h3 := (hO.2 j hj).1
    omega
  · obtain ⟨i, hi, rfl⟩ := List.mem_map.1 hm
    have hi' := List.mem_range.1 hi
    have := (hO.2 i hi').1
    omega
  · rw [natL_get z n j hj]
    have := (hO.2 j hj).1
    omega
theorem rz_zero {w : World} {A : Option Addr} {n : Nat} (h : RZ w A n (fun _ => 0)) : ∀ i, i < n → (0 : Int) ≤ (fun _ => 0 : Nat → Int) i ∧ (fun _ => 0 : Nat → Int) i ≤ 80 := fun i _ => by simp
set_option maxRecDepth 100000 in
set_option maxHeartbeats 16000000 in
theorem ssh_any (S : Sit) (AA : Option Addr) (ca : Nat) (BM : Option Addr) (cm : Nat) (mo : Nat → Int) (C : Option Addr) (cz : Nat) (z : Nat → Int) (w : World) (hM : SM5 w S) (hP : SitP S) (hz3 : ∀ i, i < S.n 3 → S.Z 3 i 3 = 1 ∧ S.Z 3 i 5 = 1)
    (hRows : ∀ W, SM5 W S → Calls Try.prog 29 #[.agg #[.slice (S.A 0) (S.n 0) (S.c 0), .slice (S.A 1) (S.n 1) (S.c 1), .slice (S.A 2) (S.n 2) (S.c 2), .slice (S.A 3) (S.n 3) (S.c 3), .slice (S.A 4) (S.n 4) (S.c 4)]] W fun e w' => OkW (rowsL S) e w' ∧ Below W.heap.size W w')
    (hA : RZ w AA (S.n 3) (fun _ => 0)) (hB : RZ w BM (S.n 3) mo) (hmo : ∀ i, i < S.n 3 → 0 ≤ mo i ∧ mo i ≤ 80) (hC : RZ w C (S.n 3) z) (hO : OrP (S.n 3) (S.n 3) z) :
    Calls Try.prog 31 #[.agg #[.slice (S.A 0) (S.n 0) (S.c 0), .slice (S.A 1) (S.n 1) (S.c 1), .slice (S.A 2) (S.n 2) (S.c 2), .slice (S.A 3) (S.n 3) (S.c 3), .slice (S.A 4) (S.n 4) (S.c 4)], .slice AA (S.n 3) ca, .slice BM (S.n 3) cm, .slice C (S.n 3) cz] w fun e w' => OkN (S.n 3) (stepX (rowsL S) (S.n 3) (fun m => min (mo m) (S.Z 3 m 4)) z) e w' ∧ Below w.heap.size w w' := by
  obtain ⟨⟨p0, p1⟩, p2, p3, p4, p5⟩ := hP.sizes
  have HRW : Hid (∀ W, Below w.heap.size w W → Calls Try.prog 29 #[.agg #[.slice (S.A 0) (S.n 0) (S.c 0), .slice (S.A 1) (S.n 1) (S.c 1), .slice (S.A 2) (S.n 2) (S.c 2), .slice (S.A 3) (S.n 3) (S.c 3), .slice (S.A 4) (S.n 4) (S.c 4)]] W fun e w' => OkW (rowsL S) e w' ∧ Below W.heap.size W w') := Lib.hid fun W hW => hRows W (hM.keep hW)
  have HEA : Hid (∀ W, Below w.heap.size w W → Calls Try.prog 84 #[.slice AA (S.n 3) ca, .func (.func 83) #[] #[]] W fun e w' => e = .returned (.bool true) ∧ Below W.heap.size W w') := Lib.hid fun W hW => every_cur AA _ ca _ W (by omega) (hA.keep hW) (rz_zero hA)
  have HEB : Hid (∀ W, Below w.heap.size w W → Calls Try.prog 84 #[.slice BM (S.n 3) cm, .func (.func 83) #[] #[]] W fun e w' => e = .returned (.bool true) ∧ Below W.heap.size W w') := Lib.hid fun W hW => every_cur BM _ cm _ W (by omega) (hB.keep hW) hmo
  have HEO : Hid (∀ W, Below w.heap.size w W → Calls Try.prog 85 #[.slice C (S.n 3) cz, .int .i64 ((S.n 3 : Nat) : Int)] W fun e w' => e = .returned (.bool true) ∧ Below W.heap.size W w') := Lib.hid fun W hW => sord_yes C _ cz z W p4 (hC.keep hW) hO
  obtain ⟨rl1, rl2, rl3⟩ := rowsL_all S hP
  have HNT : Hid (∀ W A c, Below w.heap.size w W → RW W A (rowsL S) → Calls Try.prog 86 #[.agg #[.slice (S.A 0) (S.n 0) (S.c 0), .slice (S.A 1) (S.n 1) (S.c 1), .slice (S.A 2) (S.n 2) (S.c 2), .slice (S.A 3) (S.n 3) (S.c 3), .slice (S.A 4) (S.n 4) (S.c 4)], .slice A (rowsL S).length c, .slice AA (S.n 3) ca] W fun e w' => OkT S A (rowsL S).length c AA (S.n 3) ca (prs (rowsL S) (rowsL S).length) W e w') := Lib.hid fun W A c hW hR => newTrial_any S (S.n 3) A c (rowsL S) AA ca W p4 rl1 rl2 hR (hA.keep hW)
  have HM := Lib.hid hM
  have HA := Lib.hid hA
  have HB := Lib.hid hB
  have HC := Lib.hid hC
  have HO := Lib.hid hO
  have HMO := Lib.hid hmo
  have HZ3 := Lib.hid hz3
  have HP := Lib.hid hP
  have HRL := Lib.hid (And.intro rl1 (And.intro rl2 rl3))
  have hmk := run_make_row' (P := Try.prog) 46 3 (.int .i64 0) 8 Try.underlying46 infoInt rfl .i64 .i64 (S.n 3) (by omega) (by omega)
  have HT : Hid (∀ {a b c : World}, Below a.heap.size a b → Below b.heap.size b c → Below a.heap.size a c) := Lib.hid fun h k => h.trans (k.mono h.size)
  obtain ⟨L, hL⟩ : ∃ L, rowsL S = L := ⟨_, rfl⟩
  rw [hL] at HRW HNT HRL ⊢
  clear hM hP hA hB hC hO hmo hz3 rl1 rl2 rl3 hRows hL
  go_enter Try.func31, Try.ntmps31
  go_upto_region 1 with fail
  refine nameW ?_
  intro W0 hW0
  have HB0 : Hid (Below w.heap.size w W0) := Lib.hid (by rw [← hW0]; exact bel_alloc (Below.refl _ _) _)
  have HC0 : Hid (∀ W, Below W0.heap.size W0 W → W.cell? ⟨w.heap.size, 0, none⟩ = some (.slice (S.A 0) (S.n 0) (S.c 0)) ∧ W.cell? ⟨w.heap.size, 1, none⟩ = some (.slice (S.A 1) (S.n 1) (S.c 1)) ∧ W.cell? ⟨w.heap.size, 2, none⟩ = some (.slice (S.A 2) (S.n 2) (S.c 2)) ∧ W.cell? ⟨w.heap.size, 3, none⟩ = some (.slice (S.A 3) (S.n 3) (S.c 3)) ∧ W.cell? ⟨w.heap.size, 4, none⟩ = some (.slice (S.A 4) (S.n 4) (S.c 4))) := Lib.hid fun W hW => by
    refine ⟨?_, ?_, ?_, ?_, ?_⟩ <;> (refine old_at ?_ hW; rw [← hW0]; simp)
  clear hW0
  obtain ⟨d0, d1, d2, d3, d4⟩ := HC0.out W0 (Below.refl _ _)
  (try go_step3)
  go_upto_region 4 with (go_at_call 29; with_reducible refine (HRW.out _ HB0.out).mono ?_; rintro e W1 ⟨hok, hb1⟩; obtain ⟨A, c, rfl, hrw⟩ := okW_open hok)
  all_goals (try (exfalso; omega))
  have HM1 := Lib.hid hb1
  have HRA := Lib.hid hrw
  have HB1 : Hid (Below w.heap.size w W1) := Lib.hid (HT.out HB0.out hb1)
  have HR1 : Hid (Below W1.heap.size W1 W1) := Lib.hid (Below.refl _ _)
  clear d0 d1 d2 d3 d4 hb1 hrw hok
  obtain ⟨d0, d1, d2, d3, d4⟩ := HC0.out W1 HM1.out
  go_upto_region 8 with (first
    | (go_at_call 84; with_reducible refine (HEA.out _ HB1.out).mono ?_; rintro e W2 ⟨rfl, hb2⟩; have HM2 := Lib.hid (HT.out HM1.out hb2); have HB2 := Lib.hid (HT.out HB1.out hb2); have HX2 := Lib.hid hb2; clear hb2)
    | (go_at_call 84; with_reducible refine (HEB.out _ HB2.out).mono ?_; rintro e W3 ⟨rfl, hb3⟩; have HM3 := Lib.hid (HT.out HM2.out hb3); have HB3 := Lib.hid (HT.out HB2.out hb3); have HX3 := Lib.hid (HT.out HX2.out hb3); clear hb3)
    | (go_at_call 85; with_reducible refine (HEO.out _ HB3.out).mono ?_; rintro e W4 ⟨rfl, hb4⟩; have HM4 := Lib.hid (HT.out HM3.out hb4); have HB4 := Lib.hid (HT.out HB3.out hb4); have HX4 := Lib.hid (HT.out HX3.out hb4); clear hb4))
  all_goals (try (exfalso; omega))
  have HRA4 := Lib.hid (HRA.out.keep HX4.out)
  clear d0 d1 d2 d3 d4
  obtain ⟨d0, d1, d2, d3, d4⟩ := HC0.out W4 HM4.out
  go_upto_region 9 with (go_at_call 86; with_reducible refine (HNT.out _ _ _ HB4.out HRA4.out).mono ?_; rintro e W5 hok; obtain ⟨T, bs, bl, B1, rfl, hnt⟩ := okT_open hok)
  obtain ⟨p, hp⟩ : ∃ p : TP, p = { S := S, L := L, RA := A, rc := c, AA := AA, ca := ca, T := T, bs := bs, bl := bl, w0 := W4 } := ⟨_, rfl⟩
  have HTS0 : Hid (TS p (fun _ => 0) (fun _ => 0) W5) := Lib.hid (hnt.ts p4 p hp)
  have HPF : Hid (p.S = S ∧ p.L = L ∧ p.P = prs L L.length ∧ p.T = T ∧ p.bl = bl ∧ p.w0 = W4) := Lib.hid (by rw [hp]; exact ⟨rfl, rfl, rfl, rfl, rfl, rfl⟩)
  have hBl := hnt.bel
  have HSEP : Hid p.Sep := Lib.hid (by
    rw [hp]
    refine ⟨fun hw => hw.elim (fun e => hnt.ne.1 e) (fun e => hnt.ne.2.1 e), hnt.ne.2.2, ⟨hnt.low.2.1, hnt.low.2.2⟩, HM.out.keep HB4.out, HRA4.out, HA.out.keep HB4.out, ⟨p4, HRL.out.1⟩, fun m hm => ⟨(HRL.out.2.2 m).2, ?_⟩, fun i hi => ?_, fun i hi => (HRL.out.2.1 i hi).cap⟩
    · have h1 := inL_len (prs L L.length) m
      have h2 := prs_len L (fun i hi => (HRL.out.2.1 i hi).len) L.length (Nat.le_refl _)
      have h3 := HRL.out.1
      show (inL (prs L L.length) m).length ≤ 1000
      omega
    · have h1 := HZ3.out i hi
      have h2 := (HP.out.chr i hi).1.2.2.1
      have h3 := h1.1
      exact ⟨h1.1, h1.2, by show 1 ≤ S.Z 3 i 4; omega, h2.2⟩)
  have HB5 : Hid (Below w.heap.size w W5) := Lib.hid (HT.out HB4.out hBl)
  have HM5 : Hid (Below W0.heap.size W0 W5) := Lib.hid (HT.out HM4.out hBl)
  have hbsl : w.heap.size < bs ∧ w.heap.size < bl ∧ W0.heap.size ≤ bs ∧ W0.heap.size ≤ bl := by
    have h1 := HM4.out.size
    have h2 := hnt.low
    have h3 : w.heap.size < W0.heap.size := World.block_lt_of_cell? W0 ⟨w.heap.size, 0, none⟩ (HC0.out W0 (Below.refl _ _)).1
    omega
  obtain ⟨lim, hlim⟩ : ∃ lim : Nat → Int, (fun m => min (mo m) (S.Z 3 m 4)) = lim := ⟨_, rfl⟩
  have HLI : Hid (∀ m, lim m = min (mo m) (S.Z 3 m 4)) := Lib.hid fun m => by rw [← hlim]
  obtain ⟨X, hX⟩ : ∃ X, stepX L (S.n 3) lim z = X := ⟨_, rfl⟩
  have HXX : Hid (stepX L (S.n 3) (fun m => min (mo m) (S.Z 3 m 4)) z = X) := Lib.hid (by rw [hlim]; exact hX)
  have HLB : Hid (∀ m, m < S.n 3 → 0 ≤ lim m ∧ lim m ≤ 80) := Lib.hid fun m hm => by
    have h1 := HMO.out m hm
    have h2 := HLI.out m
    have h3 := (HP.out.chr m hm).1
    have h4 := h3.2.1
    have h5 := h3.2.2.1
    omega
  have HPOT : Hid (pot (S.n 3) lim (fun _ => 0) ≤ 1280) := Lib.hid (pot_le _ _ (fun m hm => HLB.out m hm) p4)
  have HLG0 : Hid (LG p lim X (natL z (S.n 3)) w (pot (S.n 3) lim (fun _ => 0) + 1) 1 (fun _ => 0) (fun _ => 0) W5) := Lib.hid (by
    have hts := HTS0.out
    have hpo := HPOT.out
    rw [hp] at hts ⊢
    refine ⟨hts, ⟨fun i hi => ?_, fun m hm => ⟨by omega, (HLB.out m hm).1⟩⟩, fun m hm => by omega, fun i => by omega, Nat.le_refl _, ⟨by omega, by omega⟩, hX, HB5.out⟩
    have h1 := (HRL.out.2.1 i hi).cap
    show 0 ≤ capL L i - 0 ∧ capL L i - 0 ≤ 1000
    unfold capL
    omega)
  have HRI : Hid (∀ W su lv m r, TS p su lv W → m < S.n 3 → (∀ i, i < L.length → 0 ≤ su i ∧ su i ≤ 1000) → (0 ≤ lv m ∧ lv m ≤ 80) → (inL p.P m).all (fitB p su) = r → Calls Try.prog 88 #[.pointer (some ⟨T, 0, none⟩), .int .i64 ((m : Nat) : Int)] W
      fun e w' => e = .returned (.bool r) ∧ Exc p.W W w' ∧ (r = false → TS p su lv w') ∧ (r = true → TS p (inc (inL p.P m) su) (fun j => if j = m then lv m + 1 else lv j) w')) := Lib.hid fun W su lv m r a1 a2 a3 a4 a5 => by
    have := rise_any p su lv m W HSEP.out a1 (by rw [hp]; exact a2) (by rw [hp]; exact a3) a4 r a5
    rwa [HPF.out.2.2.2.1] at this
  have HLV : Hid (∀ W m a, m < S.n 3 → 0 ≤ a → a ≤ 80 → Calls Try.prog 87 #[.agg #[.string (S.N 3 m), .int .i64 (S.Z 3 m 1), .int .i64 (S.Z 3 m 2), .int .i64 (S.Z 3 m 3), .int .i64 (S.Z 3 m 4), .int .i64 (S.Z 3 m 5), .int .i64 (S.Z 3 m 6), .int .i64 (S.Z 3 m 7)], .int .i64 a] W
      fun e w' => e = .returned (.int .i64 (min a (S.Z 3 m 4))) ∧ Below W.heap.size W w') := Lib.hid fun W m a hm a0 a1 => by
    have h1 := HZ3.out m hm
    have h2 := (HP.out.chr m hm).1.2.2.1
    have h3 := h1.1
    exact level_any _ _ _ W h1.1 h1.2 (by omega) h2.2 a0 a1
  have HXW : Hid (∀ W W', Exc p.W W W' → Below w.heap.size w W → Below w.heap.size w W') := Lib.hid fun W W' hE hB => hE.to_below hB hB.size (fun k hk => by
    rw [hp] at hk
    rcases hk with rfl | rfl <;> omega)
  have HXM : Hid (∀ W W', Exc p.W W W' → Below W0.heap.size W0 W → Below W0.heap.size W0 W') := Lib.hid fun W W' hE hB => hE.to_below hB hB.size (fun k hk => by
    rw [hp] at hk
    rcases hk with rfl | rfl <;> omega)
  have HXZ : Hid (∀ W, Below p.w0.heap.size p.w0 W → Below W0.heap.size W0 W) := Lib.hid (by rw [hp]; exact fun W h => HT.out HM4.out h)
  clear hp hX hlim hnt hBl hok d0 d1 d2 d3 d4 HRW HEA HEB HEO HNT HRA HRA4 HB1 HR1 HM1 HM2 HM3 HM4 HX2 HX3 HX4 HB2 HB3 HB4 HTS0
  go_wp2_with fail
  go_step3
  go_wp2_with fail
  obtain ⟨zs, hzs⟩ : ∃ zs, natL z (S.n 3) = zs := ⟨_, rfl⟩
  have HZL : Hid (zs.length = S.n 3 ∧ zs.Nodup ∧ (∀ m ∈ zs, m < S.n 3) ∧ ∀ j, j < S.n 3 → z j = ((zs.getD j 0 : Nat) : Int)) := Lib.hid (by rw [← hzs]; exact natL_all HO.out)
  have HNI : Hid ((∀ m, m < S.n 3 → (inL p.P m).Nodup) ∧ ∀ m, m < S.n 3 → ∀ i ∈ inL p.P m, i < L.length) := Lib.hid (by rw [HPF.out.2.2.1]; exact ⟨fun m _ => (HRL.out.2.2 m).1, fun m _ => (HRL.out.2.2 m).2⟩)
  have HCP : Hid (∀ i, i < L.length → 0 ≤ capL L i ∧ capL L i ≤ 1000) := Lib.hid fun i hi => (HRL.out.2.1 i hi).cap
  rw [hzs] at HLG0
  clear hzs
  go_loopg [15] (pot (S.n 3) lim (fun _ => 0) + 1) (fun g v wr => ∃ level su lv, v = .int .i64 level ∧ LG p lim X zs w g level su lv wr)
  case atStart => exact ⟨1, _, _, rfl, HLG0.out⟩
  case round =>
    obtain ⟨level, su, lv, rfl, hlg⟩ := hrel
    obtain ⟨wb, hwb⟩ : ∃ x, x = wr := ⟨_, rfl⟩
    subst hwb
    obtain ⟨hts, hgd, hle, hnn, hpot, ⟨hl1, hl2⟩, hrun, hbel⟩ := hlg
    have HNN := Lib.hid hnn
    rw [HPF.out.2.1, HPF.out.1] at hgd
    rw [HPF.out.1] at hle hpot
    have HGDb := Lib.hid hgd
    have HLEb := Lib.hid hle
    have HPOTb := Lib.hid hpot
    have HRUNb := Lib.hid hrun
    have hlv2 : level ≤ 1400 := by omega
    have hwl : IntKind.i64.wrap (level - 1) = level - 1 := IntWalk.i64_in _ (by omega)
    have hwl2 : IntKind.i64.wrap (level + 1) = level + 1 := IntWalk.i64_in _ (by omega)
    have HLJ0 : Hid (LJ p lim zs w level su lv 0 wb) := Lib.hid ⟨by simpa [gpass] using hts, hbel⟩
    have HS0 : Hid ((gpass p.P (capL p.L) lim level (zs.take 0) su lv).some = false) := Lib.hid (by simp [gpass])
    have HPB : Hid (∀ j, Gd L.length (S.n 3) lim (fun i => capL L i - (gpass p.P (capL p.L) lim level (zs.take j) su lv).su i) (gpass p.P (capL p.L) lim level (zs.take j) su lv).lv ∧ (∀ m, m < S.n 3 → (gpass p.P (capL p.L) lim level (zs.take j) su lv).lv m ≤ level) ∧ ((gpass p.P (capL p.L) lim level (zs.take j) su lv).some = true → pot (S.n 3) lim (gpass p.P (capL p.L) lim level (zs.take j) su lv).lv + 1 ≤ pot (S.n 3) lim lv)) := Lib.hid fun j => by
      rw [HPF.out.2.1]
      exact gbd HNI.out.1 HNI.out.2 HGDb.out HLEb.out (zs.take j) (nodup_take HZL.out.2.1 j) (fun m hm => HZL.out.2.2.1 m (List.mem_of_mem_take hm))
    clear hts hgd hle hnn hpot hrun hbel HLG0
    go_upto_region 13 with fail
    go_loopw [16, 68] (fun sm i wr => ∃ j : Nat, j ≤ S.n 3 ∧ i = .int .i64 j ∧ sm = .bool (gpass p.P (capL p.L) lim level (zs.take j) su lv).some ∧ LJ p lim zs w level su lv j wr) (fun _ i _ => S.n 3 - (intOf i).toNat)
    case atStart => exact ⟨0, by omega, rfl, by rw [HS0.out], HLJ0.out⟩
    case round =>
      obtain ⟨j, hj, rfl, rfl, hlj⟩ := hrel
      obtain ⟨wv, hwv0⟩ : ∃ x, x = wr := ⟨_, rfl⟩
      subst hwv0
      obtain ⟨hts, hbel⟩ := hlj
      have HTSc := Lib.hid hts
      have HBc := Lib.hid hbel
      have hpb := HPB.out j
      by_cases hlt : j < S.n 3
      · obtain ⟨b, o, rfl, hl, h0⟩ := (HC.out.keep hbel) j hlt
        have hjl : j < zs.length := by rw [HZL.out.1]; exact hlt
        have hgt := gtake p.P (capL p.L) lim level zs su lv j hjl
        have hz := HZL.out.2.2.2 j hlt
        have hmm := HZL.out.2.2.1 (zs.getD j 0) (by simp [List.getD, hjl])
        obtain ⟨m, hm⟩ : ∃ m, zs.getD j 0 = m := ⟨_, rfl⟩
        rw [hm] at hgt hz hmm
        rw [hz] at h0
        obtain ⟨G, hG⟩ : ∃ G, gpass p.P (capL p.L) lim level (zs.take j) su lv = G := ⟨_, rfl⟩
        have hTS' : TS p G.su G.lv wv := by rw [← hG]; exact hts
        rw [hG] at hgt hpb ⊢
        have HGT := Lib.hid hgt
        have HTG := Lib.hid hTS'
        have hlvm := (hpb.1.x m hmm)
        have hlb := (HLB.out m hmm).2
        have HSU : Hid (∀ i, i < L.length → 0 ≤ G.su i ∧ G.su i ≤ 1000) := Lib.hid fun i hi => by
          have h1 := hpb.1.lf i hi
          have h2 := HCP.out i hi
          have h3 := HNN.out i
          have h4 := gsu p.P (capL p.L) lim level (zs.take j) su lv i
          rw [hG] at h4
          omega
        obtain ⟨sm, lvG, hsm, hlG⟩ : ∃ a b, G.some = a ∧ G.lv m = b := ⟨_, _, rfl, rfl⟩
        have c24 := hTS'.c24
        have crv := hTS'.rv.cell (i := m) (by rw [HPF.out.1]; exact hmm)
        simp only [hlG] at crv
        rw [HPF.out.1, HPF.out.2.2.2.1, HPF.out.2.2.2.2.1] at c24
        rw [HPF.out.2.2.2.2.1] at crv
        have HSM := Lib.hid hsm
        have HLG := Lib.hid hlG
        rw [hlG] at hlvm
        rw [hsm]
        obtain ⟨bc, oc, hA3, hlc, hst, hzc⟩ := (HM.out.keep hbel).rows 3 (by decide) m hmm
        obtain ⟨bo, oo, hBM, hlo, hmoc⟩ := (HB.out.keep hbel) m hmm
        have d3 := (HC0.out wv (HXZ.out wv hTS'.bel)).2.2.2.1
        rw [hA3] at d3
        have q0 : wv.cell? ⟨bc, oc + m * 8, none⟩ = some (.string (S.N 3 m)) := hst
        have q1 : wv.cell? ⟨bc, oc + m * 8 + 1, none⟩ = some (.int .i64 (S.Z 3 m 1)) := hzc 1 (by decide) (by decide)
        have q2 : wv.cell? ⟨bc, oc + m * 8 + 2, none⟩ = some (.int .i64 (S.Z 3 m 2)) := hzc 2 (by decide) (by decide)
        have q3 : wv.cell? ⟨bc, oc + m * 8 + 3, none⟩ = some (.int .i64 (S.Z 3 m 3)) := hzc 3 (by decide) (by decide)
        have q4 : wv.cell? ⟨bc, oc + m * 8 + 4, none⟩ = some (.int .i64 (S.Z 3 m 4)) := hzc 4 (by decide) (by decide)
        have q5 : wv.cell? ⟨bc, oc + m * 8 + 5, none⟩ = some (.int .i64 (S.Z 3 m 5)) := hzc 5 (by decide) (by decide)
        have q6 : wv.cell? ⟨bc, oc + m * 8 + 6, none⟩ = some (.int .i64 (S.Z 3 m 6)) := hzc 6 (by decide) (by decide)
        have q7 : wv.cell? ⟨bc, oc + m * 8 + 7, none⟩ = some (.int .i64 (S.Z 3 m 7)) := hzc 7 (by decide) (by decide)
        obtain ⟨mx, hmx⟩ : ∃ x, mo m = x := ⟨_, rfl⟩
        have hmb := HMO.out m hmm
        rw [hmx] at hmoc hmb
        have HLm : Hid (lim m = min mx (S.Z 3 m 4)) := Lib.hid (by rw [HLI.out m, hmx])
        have HLVm := Lib.hid (fun W => HLV.out W m mx hmm hmb.1 hmb.2)
        subst hBM
        clear hz hts hbel hpb hG hTS' hsm hlG hgt hst hzc hA3 hm hmx
        go_upto_region 15 with fail
        all_goals (try (exfalso; omega))
        have hwv := HLm.out
        go_cut [95] from 129 (fun v wd => ∃ bb : Bool, v = .bool bb ∧ (bb = true → ¬ (lvG = level - 1 ∧ level ≤ lim m)) ∧ (bb = false → lvG = level - 1 ∧ level ≤ lim m) ∧ Below wv.heap.size wv wd)
        case first =>
          by_cases hA : lvG = level - 1
          · subst hA
            clear hwv
            have HSC : Hid (∀ W, Below wv.heap.size wv W → W.cell? ⟨T, 24, none⟩ = some (.slice (some ⟨bl, 0, none⟩) (S.n 3) (S.n 3)) ∧ W.cell? ⟨bl, m, none⟩ = some (.int .i64 (level - 1)) ∧ W.cell? ⟨w.heap.size, 3, none⟩ = some (.slice (some ⟨bc, oc, none⟩) (S.n 3) (S.c 3)) ∧ W.cell? ⟨bo, oo + m, none⟩ = some (.int .i64 mx) ∧ W.cell? ⟨bc, oc + m * 8, none⟩ = some (.string (S.N 3 m)) ∧ W.cell? ⟨bc, oc + m * 8 + 1, none⟩ = some (.int .i64 (S.Z 3 m 1)) ∧ W.cell? ⟨bc, oc + m * 8 + 2, none⟩ = some (.int .i64 (S.Z 3 m 2)) ∧ W.cell? ⟨bc, oc + m * 8 + 3, none⟩ = some (.int .i64 (S.Z 3 m 3)) ∧ W.cell? ⟨bc, oc + m * 8 + 4, none⟩ = some (.int .i64 (S.Z 3 m 4)) ∧ W.cell? ⟨bc, oc + m * 8 + 5, none⟩ = some (.int .i64 (S.Z 3 m 5)) ∧ W.cell? ⟨bc, oc + m * 8 + 6, none⟩ = some (.int .i64 (S.Z 3 m 6)) ∧ W.cell? ⟨bc, oc + m * 8 + 7, none⟩ = some (.int .i64 (S.Z 3 m 7))) := Lib.hid fun W hW => ⟨old_at c24 hW, old_at crv hW, old_at d3 hW, old_at hmoc hW, old_at q0 hW, old_at q1 hW, old_at q2 hW, old_at q3 hW, old_at q4 hW, old_at q5 hW, old_at q6 hW, old_at q7 hW⟩
            have HDD : Hid (∀ W W' : World, Below W.drew.heap.size W.drew W' → Below W.heap.size W W') := Lib.hid fun W W' h => ⟨h.os, h.tape, h.output, h.size, h.block⟩
            go_region_held3 (fun W => W.cell? ⟨T, 24, none⟩ = some (.slice (some ⟨bl, 0, none⟩) (S.n 3) (S.n 3)) ∧ W.cell? ⟨bl, m, none⟩ = some (.int .i64 (level - 1)) ∧ W.cell? ⟨w.heap.size, 3, none⟩ = some (.slice (some ⟨bc, oc, none⟩) (S.n 3) (S.c 3)) ∧ W.cell? ⟨bo, oo + m, none⟩ = some (.int .i64 mx) ∧ W.cell? ⟨bc, oc + m * 8, none⟩ = some (.string (S.N 3 m)) ∧ W.cell? ⟨bc, oc + m * 8 + 1, none⟩ = some (.int .i64 (S.Z 3 m 1)) ∧ W.cell? ⟨bc, oc + m * 8 + 2, none⟩ = some (.int .i64 (S.Z 3 m 2)) ∧ W.cell? ⟨bc, oc + m * 8 + 3, none⟩ = some (.int .i64 (S.Z 3 m 3)) ∧ W.cell? ⟨bc, oc + m * 8 + 4, none⟩ = some (.int .i64 (S.Z 3 m 4)) ∧ W.cell? ⟨bc, oc + m * 8 + 5, none⟩ = some (.int .i64 (S.Z 3 m 5)) ∧ W.cell? ⟨bc, oc + m * 8 + 6, none⟩ = some (.int .i64 (S.Z 3 m 6)) ∧ W.cell? ⟨bc, oc + m * 8 + 7, none⟩ = some (.int .i64 (S.Z 3 m 7))) ((refine HSC.out _ ?_; repeat (first | with_reducible exact Below.refl _ _ | with_reducible exact Hid.out (by with_reducible assumption) | with_reducible apply Below.drew))) (first | (go_at_call 87; with_reducible refine (HLVm.out _).mono ?_; rintro e w9 ⟨rfl, hb9⟩; have HB9 := Lib.hid (HDD.out _ _ hb9); clear hb9))
            all_goals
              go_wp2_with fail
              go_meet
              refine ⟨decide (min mx (S.Z 3 m 4) < level), rfl, fun h => ?_, fun h => ?_, by first | exact HB9.out | exact HB9.out.drew⟩
              · have h1 := of_decide_eq_true h
                have h2 := HLm.out
                intro h3
                have h4 := h3.2
                omega
              · have h1 := of_decide_eq_false h
                have h2 := HLm.out
                exact ⟨by first | trivial | rfl, by omega⟩
          · clear hwv
            go_quiet (fail)
            go_wp2_with fail
            go_meet
            exact ⟨true, rfl, (fun _ h => hA h.1), (fun h => by cases h), bel_drewN _⟩
        case rest =>
          obtain ⟨bb, rfl, hb1, hb2, hbw⟩ := hcut
          obtain ⟨wd, hwd⟩ : ∃ x, x = wc := ⟨_, rfl⟩
          subst hwd
          have HTSd := Lib.hid (HTG.out.keep HSEP.out hbw)
          have HBd := Lib.hid (HBc.out.trans (hbw.mono HBc.out.size))
          clear c24 crv d3 hmoc q0 q1 q2 q3 q4 q5 q6 q7 hwv h0 hbw HLVm
          cases bb
          · obtain ⟨y1, y2⟩ := hb2 rfl
            obtain ⟨r, hr⟩ : ∃ r, (inL p.P m).all (fitB p G.su) = r := ⟨_, rfl⟩
            have hri := HRI.out wd G.su G.lv m r HTSd.out hmm HSU.out (by rw [HLG.out]; exact ⟨hlvm.1, by omega⟩) hr
            have HRr := Lib.hid hr
            have HY : Hid (G.lv m = level - 1 ∧ level ≤ lim m) := Lib.hid ⟨by rw [HLG.out]; exact y1, y2⟩
            clear hb1 hb2 hr y1 y2
            cases r
            · have HG' : Hid (gpass p.P (capL p.L) lim level (zs.take (j + 1)) su lv = G) := Lib.hid (by
                rw [HGT.out]
                unfold grise
                rw [if_neg]
                intro h
                have h2 := (mayG_iff.1 h).2.2
                have h3 : (inL p.P m).all (fitB p G.su) = true := by
                  rw [List.all_eq_true]
                  intro i hi
                  exact decide_eq_true (h2 i hi)
                rw [HRr.out] at h3
                cases h3)
              have HRI1 := Lib.hid hri
              clear hri
              go_wp2_with (go_at_call 88; with_reducible refine (HRI1.out).mono ?_; rintro e w6 ⟨rfl, hE6, hF6, _⟩)
              all_goals (try (exfalso; omega))
              have hts6 : TS p G.su G.lv w6 := by first | exact hF6 | exact hF6 rfl | exact hF6 trivial
              go_roundw
              case rel => exact ⟨j + 1, by omega, by go_num, by rw [HG'.out, HSM.out], by rw [LJ, HG'.out]; exact ⟨hts6, HXW.out _ _ hE6 HBd.out⟩⟩
              case measure => simp [intOf] <;> omega
            · have HG' : Hid (gpass p.P (capL p.L) lim level (zs.take (j + 1)) su lv = ⟨true, inc (inL p.P m) G.su, fun k => if k = m then G.lv m + 1 else G.lv k⟩) := Lib.hid (by
                rw [HGT.out]
                unfold grise
                rw [if_pos]
                rw [mayG_iff]
                refine ⟨HY.out.1, HY.out.2, fun i hi => ?_⟩
                have h3 := HRr.out
                rw [List.all_eq_true] at h3
                exact of_decide_eq_true (h3 i hi))
              have HRI1 := Lib.hid hri
              clear hri
              go_wp2_with (go_at_call 88; with_reducible refine (HRI1.out).mono ?_; rintro e w6 ⟨rfl, hE6, _, hF6⟩)
              all_goals (try (exfalso; omega))
              have hts6 : TS p (inc (inL p.P m) G.su) (fun k => if k = m then G.lv m + 1 else G.lv k) w6 := by first | exact hF6 | exact hF6 rfl | exact hF6 trivial
              go_roundw
              case rel => exact ⟨j + 1, by omega, by go_num, by rw [HG'.out], by rw [LJ, HG'.out]; exact ⟨hts6, HXW.out _ _ hE6 HBd.out⟩⟩
              case measure => simp [intOf] <;> omega
          · have hno := hb1 rfl
            have HG' : Hid (gpass p.P (capL p.L) lim level (zs.take (j + 1)) su lv = G) := Lib.hid (by
              rw [HGT.out]
              unfold grise
              rw [if_neg]
              intro h
              have h2 := mayG_iff.1 h
              exact hno ⟨by rw [← HLG.out]; exact h2.1, h2.2.1⟩)
            clear hb1 hb2 hno
            go_wp2_with fail
            all_goals (try (exfalso; omega))
            go_roundw
            case rel => exact ⟨j + 1, by omega, by go_num, by rw [HG'.out, HSM.out], by rw [LJ, HG'.out]; exact ⟨HTSd.out, HBd.out⟩⟩
            case measure => simp [intOf] <;> omega
      · have hjn : j = S.n 3 := by omega
        have htk : zs.take j = zs := by rw [hjn, ← HZL.out.1, List.take_length]
        have hgs := fun i => gsu p.P (capL p.L) lim level (zs.take j) su lv i
        obtain ⟨g', rfl⟩ : ∃ g', gk = g' + 1 := ⟨gk - 1, by have := HPOTb.out; omega⟩
        have hru := HRUNb.out
        unfold grun at hru
        rw [htk] at hts hpb hgs ⊢
        obtain ⟨G, hG⟩ : ∃ G, gpass p.P (capL p.L) lim level zs su lv = G := ⟨_, rfl⟩
        rw [hG] at hts hpb hru hgs ⊢
        have HPBG := Lib.hid hpb
        have HRU := Lib.hid hru
        have HGS := Lib.hid hgs
        have HTG := Lib.hid hts
        obtain ⟨sm, hsm⟩ : ∃ a, G.some = a := ⟨_, rfl⟩
        rw [hsm] at HRU HPBG ⊢
        clear hG hgs hru hts hpb htk hsm HRUNb hjn
        cases sm
        · have hX : Hid (G.lv = X) := Lib.hid (by have := HRU.out; simpa using this)
          have hd3 := (HC0.out wv (HXZ.out wv HTG.out.bel)).2.2.2.1
          clear HRU
          go_upto_region 20 with fail
          all_goals (try (exfalso; omega))
          refine nameW ?_
          intro W6 hW6
          obtain ⟨gx, hgx⟩ : ∃ x, wv.heap.size = x := ⟨_, rfl⟩
          have hb6 : Below wv.heap.size wv W6 := by rw [← hW6]; exact bel_alloc (Below.refl _ _) _
          have HB6 : Hid (Below w.heap.size w W6) := Lib.hid (HT.out hbel hb6)
          have HI6 : Hid (W6.rowIs gx 3 (S.n 3) (fun i => .int .i64 (if i < 0 then G.lv i else 0))) := Lib.hid (by
            rw [← hW6, ← hgx]
            exact (World.rowIs_made wv (.int .i64 0) (S.n 3) 3).congr (fun i _ => by simp))
          have hgw : w.heap.size ≤ gx := by rw [← hgx]; exact hbel.size
          have HTS6 := Lib.hid (HTG.out.keep HSEP.out hb6)
          have hgl : T < gx ∧ bl < gx := by
            have h1 := HTG.out.rv.lt
            have h2 := World.block_lt_of_cell? wv _ HTG.out.c24
            rw [HPF.out.2.2.2.2.1] at h1
            rw [HPF.out.2.2.2.1] at h2
            rw [← hgx]
            exact ⟨h2, h1⟩
          have d36 := old_at hd3 hb6
          have HD36 := Lib.hid d36
          have HF6 : Hid (∀ W, Exc (fun k => k = gx) W6 W → Below w.heap.size w W ∧ W.cell? ⟨T, 24, none⟩ = some (.slice (some ⟨bl, 0, none⟩) (S.n 3) (S.n 3)) ∧ ∀ i, i < S.n 3 → W.cell? ⟨bl, i, none⟩ = some (.int .i64 (G.lv i))) := Lib.hid fun W hE => by
            have h1 := HTS6.out.c24
            have h2 := HTS6.out.rv
            rw [HPF.out.1, HPF.out.2.2.2.1, HPF.out.2.2.2.2.1] at h1
            rw [HPF.out.1, HPF.out.2.2.2.2.1] at h2
            exact ⟨hE.to_below HB6.out HB6.out.size (fun k e => by omega), hE.cell h1 (show ¬ T = gx by omega), fun i hi => (hE.row h2 (show ¬ bl = gx by omega)).cell hi⟩
          try simp only [hgx]
          clear hW6 hb6 hd3 hgx hbel HB5 HM5
          go_wp2_with fail
          clear d36
          go_loopw [110] (fun i wr => ∃ k : Nat, k ≤ S.n 3 ∧ i = .int .i64 k ∧ wr.rowIs gx 3 (S.n 3) (fun i => .int .i64 (if i < k then G.lv i else 0)) ∧ Exc (fun k => k = gx) W6 wr) (fun i _ => S.n 3 - (intOf i).toNat)
          case atStart => exact ⟨0, by omega, rfl, HI6.out, Exc.refl _⟩
          case round =>
            obtain ⟨k, hk, rfl, hrow, hex⟩ := hrel
            obtain ⟨wz, hwz⟩ : ∃ x, x = wr := ⟨_, rfl⟩
            subst hwz
            have HRow := Lib.hid hrow
            have HEx := Lib.hid hex
            obtain ⟨hbz, h24, hlvs⟩ := HF6.out wz hex
            have HBz := Lib.hid hbz
            clear hrow hex
            by_cases hlk : k < S.n 3
            · obtain ⟨bc, oc, hA3, hlc, hst, hzc⟩ := (HM.out.keep hbz).rows 3 (by decide) k hlk
              have hlk2 := hlvs k hlk
              rw [hA3]
              have q0 : wz.cell? ⟨bc, oc + k * 8, none⟩ = some (.string (S.N 3 k)) := hst
              have q1 : wz.cell? ⟨bc, oc + k * 8 + 1, none⟩ = some (.int .i64 (S.Z 3 k 1)) := hzc 1 (by decide) (by decide)
              have q2 : wz.cell? ⟨bc, oc + k * 8 + 2, none⟩ = some (.int .i64 (S.Z 3 k 2)) := hzc 2 (by decide) (by decide)
              have q3 : wz.cell? ⟨bc, oc + k * 8 + 3, none⟩ = some (.int .i64 (S.Z 3 k 3)) := hzc 3 (by decide) (by decide)
              have q4 : wz.cell? ⟨bc, oc + k * 8 + 4, none⟩ = some (.int .i64 (S.Z 3 k 4)) := hzc 4 (by decide) (by decide)
              have q5 : wz.cell? ⟨bc, oc + k * 8 + 5, none⟩ = some (.int .i64 (S.Z 3 k 5)) := hzc 5 (by decide) (by decide)
              have q6 : wz.cell? ⟨bc, oc + k * 8 + 6, none⟩ = some (.int .i64 (S.Z 3 k 6)) := hzc 6 (by decide) (by decide)
              have q7 : wz.cell? ⟨bc, oc + k * 8 + 7, none⟩ = some (.int .i64 (S.Z 3 k 7)) := hzc 7 (by decide) (by decide)
              go_upto_region 23 with fail
              all_goals (try (exfalso; omega))
              refine nameW ?_
              intro wy hwy
              have hby : Below wz.heap.size wz wy := by rw [← hwy]; exact bel_alloc (Below.refl _ _) _
              have HSC : Hid (∀ W, Below wy.heap.size wy W → W.cell? ⟨T, 24, none⟩ = some (.slice (some ⟨bl, 0, none⟩) (S.n 3) (S.n 3)) ∧ W.cell? ⟨bl, k, none⟩ = some (.int .i64 (G.lv k)) ∧ (W.cell? ⟨gx, k, none⟩ = some (.int .i64 0) ∧ W.frozen? ⟨gx, k, none⟩ = false) ∧ W.cell? ⟨wz.heap.size, 0, none⟩ = some (.string (S.N 3 k)) ∧ W.cell? ⟨wz.heap.size, 1, none⟩ = some (.int .i64 (S.Z 3 k 1)) ∧ W.cell? ⟨wz.heap.size, 2, none⟩ = some (.int .i64 (S.Z 3 k 2)) ∧ W.cell? ⟨wz.heap.size, 3, none⟩ = some (.int .i64 (S.Z 3 k 3)) ∧ W.cell? ⟨wz.heap.size, 4, none⟩ = some (.int .i64 (S.Z 3 k 4)) ∧ W.cell? ⟨wz.heap.size, 5, none⟩ = some (.int .i64 (S.Z 3 k 5)) ∧ W.cell? ⟨wz.heap.size, 6, none⟩ = some (.int .i64 (S.Z 3 k 6)) ∧ W.cell? ⟨wz.heap.size, 7, none⟩ = some (.int .i64 (S.Z 3 k 7))) := Lib.hid fun W hW => by
                have h9 := HRow.out
                have hbzW : Below wz.heap.size wz W := HT.out hby hW
                have h8 := (rowIs_below h9 hbzW).cell hlk
                have h7 := (rowIs_below h9 hbzW).frozen k
                rw [if_neg (by omega)] at h8
                refine ⟨old_at (old_at h24 hby) hW, old_at (old_at hlk2 hby) hW, ⟨h8, h7⟩, ?_, ?_, ?_, ?_, ?_, ?_, ?_, ?_⟩ <;> (refine old_at ?_ hW; rw [← hwy]; simp)
              have HAM : Hid (∀ W, Calls Try.prog 89 #[.agg #[.string (S.N 3 k), .int .i64 (S.Z 3 k 1), .int .i64 (S.Z 3 k 2), .int .i64 (S.Z 3 k 3), .int .i64 (S.Z 3 k 4), .int .i64 (S.Z 3 k 5), .int .i64 (S.Z 3 k 6), .int .i64 (S.Z 3 k 7)], .int .i64 (G.lv k)] W fun e w' => e = .returned (.int .i64 (G.lv k)) ∧ Below W.heap.size W w') := Lib.hid fun W => by
                have h1 := HZ3.out k hlk
                have h2 := HPBG.out.1.x k hlk
                have h3 := (HLB.out k hlk).2
                exact amps_any _ _ _ W h1.1 h1.2 h2.1 (by omega)
              have HDY : Hid (∀ W W' : World, Below W.heap.size W W' → Below W.drew.heap.size W.drew W') := Lib.hid fun W W' h => ⟨h.os, h.tape, h.output, h.size, h.block⟩
              have HDD : Hid (∀ W W' : World, Below W.drew.heap.size W.drew W' → Below W.heap.size W W') := Lib.hid fun W W' h => ⟨h.os, h.tape, h.output, h.size, h.block⟩
              have HST23 : Hid (∀ W, Below wy.heap.size wy W → (W.setCell ⟨gx, k, none⟩ (.int .i64 (G.lv k))).rowIs gx 3 (S.n 3) (fun i => .int .i64 (if i < k + 1 then G.lv i else 0)) ∧ Exc (fun k => k = gx) W6 (W.setCell ⟨gx, k, none⟩ (.int .i64 (G.lv k)))) := Lib.hid fun W hW => by
                have hbzW : Below wz.heap.size wz W := HT.out hby hW
                refine ⟨((rowIs_below HRow.out hbzW).set k _).congr fun i hi => ?_, Exc.set (P := fun k => k = gx) (HEx.out.below hbzW) (p := ⟨gx, k, none⟩) rfl _⟩
                by_cases e : i = k
                · subst e; simp
                · by_cases e2 : i < k
                  · simp [e, e2, show i < k + 1 by omega]
                  · simp [e, e2, show ¬ i < k + 1 by omega]
              have HSD : Hid (∀ W, Below wy.heap.size wy W → W.cell? ⟨T, 24, none⟩ = some (.slice (some ⟨bl, 0, none⟩) (S.n 3) (S.n 3)) ∧ W.cell? ⟨bl, k, none⟩ = some (.int .i64 (G.lv k)) ∧ W.cell? ⟨wz.heap.size, 0, none⟩ = some (.string (S.N 3 k)) ∧ W.cell? ⟨wz.heap.size, 1, none⟩ = some (.int .i64 (S.Z 3 k 1)) ∧ W.cell? ⟨wz.heap.size, 2, none⟩ = some (.int .i64 (S.Z 3 k 2)) ∧ W.cell? ⟨wz.heap.size, 3, none⟩ = some (.int .i64 (S.Z 3 k 3)) ∧ W.cell? ⟨wz.heap.size, 4, none⟩ = some (.int .i64 (S.Z 3 k 4)) ∧ W.cell? ⟨wz.heap.size, 5, none⟩ = some (.int .i64 (S.Z 3 k 5)) ∧ W.cell? ⟨wz.heap.size, 6, none⟩ = some (.int .i64 (S.Z 3 k 6)) ∧ W.cell? ⟨wz.heap.size, 7, none⟩ = some (.int .i64 (S.Z 3 k 7))) := Lib.hid fun W hW => by
                obtain ⟨a1, a2, _, a3⟩ := HSC.out W hW
                exact ⟨a1, a2, a3⟩
              have hwzg : gx < wz.heap.size := HRow.out.lt
              have HSO : Hid (∀ W, Below wy.heap.size wy W → W.cell? ⟨gx, k, none⟩ = some (.int .i64 0) ∧ W.frozen? ⟨gx, k, none⟩ = false) := Lib.hid fun W hW => (HSC.out W hW).2.2.1
              have HSE : Hid (∀ W u, Below wy.heap.size wy W → (W.setCell ⟨gx, k, none⟩ u).cell? ⟨T, 24, none⟩ = some (.slice (some ⟨bl, 0, none⟩) (S.n 3) (S.n 3)) ∧ (W.setCell ⟨gx, k, none⟩ u).cell? ⟨bl, k, none⟩ = some (.int .i64 (G.lv k)) ∧ (W.setCell ⟨gx, k, none⟩ u).cell? ⟨wz.heap.size, 0, none⟩ = some (.string (S.N 3 k)) ∧ (W.setCell ⟨gx, k, none⟩ u).cell? ⟨wz.heap.size, 1, none⟩ = some (.int .i64 (S.Z 3 k 1)) ∧ (W.setCell ⟨gx, k, none⟩ u).cell? ⟨wz.heap.size, 2, none⟩ = some (.int .i64 (S.Z 3 k 2)) ∧ (W.setCell ⟨gx, k, none⟩ u).cell? ⟨wz.heap.size, 3, none⟩ = some (.int .i64 (S.Z 3 k 3)) ∧ (W.setCell ⟨gx, k, none⟩ u).cell? ⟨wz.heap.size, 4, none⟩ = some (.int .i64 (S.Z 3 k 4)) ∧ (W.setCell ⟨gx, k, none⟩ u).cell? ⟨wz.heap.size, 5, none⟩ = some (.int .i64 (S.Z 3 k 5)) ∧ (W.setCell ⟨gx, k, none⟩ u).cell? ⟨wz.heap.size, 6, none⟩ = some (.int .i64 (S.Z 3 k 6)) ∧ (W.setCell ⟨gx, k, none⟩ u).cell? ⟨wz.heap.size, 7, none⟩ = some (.int .i64 (S.Z 3 k 7))) := Lib.hid fun W u hW => by
                obtain ⟨a1, a2, a3, a4, a5, a6, a7, a8, a9, a10⟩ := HSD.out W hW
                have hne : ∀ (b q : Nat) (v : Value), b ≠ gx → W.cell? ⟨b, q, none⟩ = some v → (W.setCell ⟨gx, k, none⟩ u).cell? ⟨b, q, none⟩ = some v := fun b q v h h' => (World.cell?_setCell_other W _ _ _ (fun e => h (by injection e with e1; exact e1.symm))).trans h'
                exact ⟨hne _ _ _ (by omega) a1, hne _ _ _ (by omega) a2, hne _ _ _ (by omega) a3, hne _ _ _ (by omega) a4, hne _ _ _ (by omega) a5, hne _ _ _ (by omega) a6, hne _ _ _ (by omega) a7, hne _ _ _ (by omega) a8, hne _ _ _ (by omega) a9, hne _ _ _ (by omega) a10⟩
              clear hwy hby q0 q1 q2 q3 q4 q5 q6 q7 h24 hlvs hlk2 hbz
              obtain ⟨r24, rlv, ⟨rgx, rfx⟩, r0, r1, r2, r3, r4, r5, r6, r7⟩ := HSC.out wy (Below.refl _ _)
              have hkn : (k : Int) < ((S.n 3 : Nat) : Int) := by omega
              go_region_held3 (fun W => W.cell? ⟨T, 24, none⟩ = some (.slice (some ⟨bl, 0, none⟩) (S.n 3) (S.n 3)) ∧ W.cell? ⟨bl, k, none⟩ = some (.int .i64 (G.lv k)) ∧ W.cell? ⟨wz.heap.size, 0, none⟩ = some (.string (S.N 3 k)) ∧ W.cell? ⟨wz.heap.size, 1, none⟩ = some (.int .i64 (S.Z 3 k 1)) ∧ W.cell? ⟨wz.heap.size, 2, none⟩ = some (.int .i64 (S.Z 3 k 2)) ∧ W.cell? ⟨wz.heap.size, 3, none⟩ = some (.int .i64 (S.Z 3 k 3)) ∧ W.cell? ⟨wz.heap.size, 4, none⟩ = some (.int .i64 (S.Z 3 k 4)) ∧ W.cell? ⟨wz.heap.size, 5, none⟩ = some (.int .i64 (S.Z 3 k 5)) ∧ W.cell? ⟨wz.heap.size, 6, none⟩ = some (.int .i64 (S.Z 3 k 6)) ∧ W.cell? ⟨wz.heap.size, 7, none⟩ = some (.int .i64 (S.Z 3 k 7))) ((first | (refine HSE.out _ _ ?_; exact Hid.out (by with_reducible assumption)) | (refine HSD.out _ ?_; repeat (first | with_reducible exact Below.refl _ _ | with_reducible exact Hid.out (by with_reducible assumption) | with_reducible apply Below.drew)))) (first | (go_at_call 89; with_reducible refine (HAM.out _).mono ?_; rintro e w9 ⟨rfl, hb9⟩; have HB9 := Lib.hid (HDD.out _ _ hb9); clear hb9; obtain ⟨rg9, rf9⟩ := HSO.out w9 HB9.out))
              all_goals
                obtain ⟨hf1, hf2⟩ := HST23.out w9 HB9.out
                have HF1 := Lib.hid hf1
                have HF2 := Lib.hid hf2
                clear hf1 hf2
                go_wp2_with fail
                all_goals (try (exfalso; omega))
                go_roundw
                case rel => exact ⟨k + 1, by omega, by go_num, HF1.out, HF2.out⟩
                case measure => simp [intOf] <;> omega
            · have hkn : k = S.n 3 := by omega
              subst hkn
              go_wp2_with fail
              all_goals (try (exfalso; omega))
              all_goals (try rw [Exit.noGoto_ret])
              go_ret2
              refine ⟨⟨gx, rfl, ?_⟩, HBz.out⟩
              rw [HXX.out, ← hX.out]
              exact HRow.out.congr fun i hi => by rw [if_pos hi]
        · have HRU' : Hid (grun p.P (capL p.L) lim zs g' (level + 1) G.su G.lv = X) := Lib.hid (by have := HRU.out; simpa using this)
          have HBv := Lib.hid hbel
          clear HRU
          go_wp2_with fail
          all_goals (try (exfalso; omega))
          go_roundg g'
          case measure => omega
          case rel =>
            refine ⟨level + 1, G.su, G.lv, rfl, HTG.out, ?_, ?_, fun i => Int.le_trans (HNN.out i) (HGS.out i), ?_, ⟨by omega, by omega⟩, HRU'.out, HBv.out⟩
            · rw [HPF.out.2.1, HPF.out.1]; exact HPBG.out.1
            · rw [HPF.out.1]; intro m hm; have := HPBG.out.2.1 m hm; omega
            · rw [HPF.out.1]; have h1 := HPBG.out.2.2 (by simp); have h2 := HPOTb.out; omega
end Go.Proofs.Ytkhmlbkkdflnoaa.Nm
