/-
  THE LAW TopMeterReadings, walked.
-/
import Derived.Test.YtkhmlbkkdflnoaaSeq
import Derived.Test.YtkhmlbkkdflnoaaApnd
import Derived.Test.YtkhmlbkkdflnoaaMet
namespace Go.Proofs.Ytkhmlbkkdflnoaa.Ch
open Go.RowKit Go.Shelf
open Mt (MB TK MB.new MB.new2)
set_option linter.unusedVariables false
set_option linter.unusedSimpArgs false
attribute [local go_sem ↓] Go.wp_at_zero Go.wp_at_succ

theorem count_ok (s r a p : Int) (w : World) (hs : 1 ≤ s ∧ s ≤ 1000000) (hr : 0 ≤ r ∧ r ≤ 10000000000) (ha : 0 ≤ a ∧ a ≤ 80) (hp : 0 ≤ p ∧ p ≤ 3) :
    Calls Try.prog 34 #[.agg #[.int .i64 s, .int .i64 r, .bool false], .int .i64 a, .int .i64 p] w
      fun e w' => e = .returned (.tuple #[.agg #[.int .i64 s, .int .i64 (r + 2300 * a * p), .bool false], .int .i64 0]) ∧ Below w.heap.size w w' := by
  have := Mt.prod_bd ha hp
  exact Mt.count_fwd s r a p w (Mt.vM_iff.2 (by omega)) (by simp [Mt.upB]; omega) (by simp [Mt.upB]; omega) (Mt.vM_iff.2 (by omega))
theorem rg_far {w : World} {b o n : Nat} {X : Nat → Nat → Int} (h : RG w (some ⟨b, o, none⟩) n X) {p : Addr} (hp : b ≠ p.block) (v : Value) : RG (w.setCell p v) (some ⟨b, o, none⟩) n X := fun i hi => by
  obtain ⟨b', o', e, hl, c0, c1, c2, c3, c4⟩ := h i hi
  cases e
  have hc : ∀ j, (w.setCell p v).cell? ⟨b, j, none⟩ = w.cell? ⟨b, j, none⟩ := fun j => World.cell?_of_block (Below.heap_setCell w p v b hp)
  exact ⟨b, o, rfl, by simpa using hl, (hc _).trans c0, (hc _).trans c1, (hc _).trans c2, (hc _).trans c3, (hc _).trans c4⟩
/-- what holds while the meter is read -/
def MRI (w : World) (s r : Int) (seed : Int) (f g : Nat → Int) (n : Nat) (i l : Value) (wr : World) : Prop :=
  ∃ (j b cap : Nat), j ≤ n ∧ i = .int .i64 (j : Int) ∧ l = .slice (some ⟨b, 0, none⟩) (j + 1) cap ∧ MB wr w.heap.size s (rg r f g j) false ∧ MB wr (w.heap.size + 1) 0 0 false ∧
    RG wr (some ⟨b, 0, none⟩) (j + 1) (rws seed s (fun i => (i : Int) / 6) (fun i => rg r f g i / 3600) j) ∧ (j + 1 ≤ cap ∧ cap ≤ 9223372036854775807) ∧ w.heap.size + 2 ≤ b ∧ Below w.heap.size w wr
set_option maxRecDepth 100000 in
set_option maxHeartbeats 4000000 in
theorem read_ok (s r seed : Int) (A : Option Addr) (n c : Nat) (f g : Nat → Int) (w : World) (hT : TK w A n f g) (hn : n ≤ 60) (hs : 1 ≤ s ∧ s ≤ 1000000) (hr : 0 ≤ r ∧ r ≤ 4294967295) :
    Calls Try.prog 10 #[.agg #[.int .i64 s, .int .i64 r, .bool false], .int .u64 seed, .slice A n c] w
      fun e w' => ∃ b cap, e = .returned (.tuple #[.agg #[.int .i64 s, .int .i64 (rg r f g n), .bool false], .slice (some ⟨b, 0, none⟩) (n + 1) cap, .bool true]) ∧
        RG w' (some ⟨b, 0, none⟩) (n + 1) (rws seed s (fun i => (i : Int) / 6) (fun i => rg r f g i / 3600) n) ∧ (n + 1 ≤ cap ∧ cap ≤ 9223372036854775807) ∧ Below w.heap.size w w' := by
  have hsq := mr_sq (f := f) (g := g) (N := n) hs hr hn
  have h0 := append_ok seed none 0 0 (fun _ _ => 0) s 0 (r / 3600)
  have HA0 : Hid (∀ W, Calls Try.prog 33 #[.int .u64 seed, .slice none 0 0, .int .i64 s, .int .i64 0, .int .i64 (r / 3600)] W fun e w' => ∃ b cap, e = .returned (.tuple #[.slice (some ⟨b, 0, none⟩) 1 cap, .int .i64 0]) ∧ RG w' (some ⟨b, 0, none⟩) 1 (rws seed s (fun i => (i : Int) / 6) (fun i => rg r f g i / 3600) 0) ∧ (1 ≤ cap ∧ cap ≤ 9223372036854775807) ∧ W.heap.size ≤ b ∧ Below W.heap.size W w') :=
    Lib.hid fun W => h0 W (fun _ => ⟨rfl, rfl⟩) (fun i hi => by omega) (fun i hi => by omega) (rws_fit0 hsq)
  clear h0
  have HT := Lib.hid hT
  have HSQ := Lib.hid hsq
  clear hT hsq
  go_enter Try.func10, Try.ntmps10
  go_wp2_with (first
    | (go_at_call 33; with_reducible refine (HA0.out _).mono ?_; rintro e w1 ⟨b1, cap1, rfl, r1, k1, g1, h1⟩))
  go_loopw [29, 9] (fun i l wr => MRI w s r seed f g n i l wr) (fun i _ _ => n - (intOf i).toNat)
  case atStart => exact ⟨0, b1, cap1, Nat.zero_le _, rfl, rfl, ((MB.new w s r false).alloc _).keep h1, (MB.new2 w _ 0 0 false).keep h1, r1, k1, by simpa using g1, bel_step (bel_alloc (bel_alloc (Below.refl _ _) _) _) h1⟩
  case round =>
    obtain ⟨j, b, cap, hj, rfl, rfl, mm, mo, hrg, hcap, hbb, hbel⟩ := hrel
    by_cases hlt : j < n
    · obtain ⟨bt, ot, rfl, hbl, q0, q1, hf, hg⟩ := (HT.out.keep hbel) j hlt
      have hrb := rg_bd r f g j
      have hrb2 := rg_bd r f g (j + 1)
      have hnx : rg r f g (j + 1) = rg r f g j + 2300 * (f j % 81) * (g j % 4) := rfl
      have HN := Lib.hid hnx
      have u3 : (f j).tmod 81 = f j % 81 := Int.tmod_eq_emod_of_nonneg (by omega)
      have u4 : (g j).tmod 4 = g j % 4 := Int.tmod_eq_emod_of_nonneg (by omega)
      have HCT := Lib.hid (fun W => count_ok s (rg r f g j) (f j % 81) (g j % 4) W hs (by omega) (by omega) (by omega))
      rw [← hnx] at HCT
      have HAP := Lib.hid (fun W (h : RG W (some ⟨b, 0, none⟩) (j + 1) _) => append_ok seed (some ⟨b, 0, none⟩) (j + 1) cap _ s (((j + 1 : Nat) : Int) / 6) (rg r f g (j + 1) / 3600) W (fun e => by cases e) h (rws_ok HSQ.out (by omega) (by omega)) (rws_fit HSQ.out (by omega) (by omega)))
      rw [show ((j + 1 : Nat) : Int) = (j : Int) + 1 from by simp] at HAP
      have HRG := Lib.hid hrg
      obtain ⟨a0, a1, a2, a3, a4⟩ := mm.get
      have MM := Lib.hid mm
      have MO := Lib.hid mo
      have HB := Lib.hid hbel
      have hwb := hbel.size
      clear hnx hrg mm mo hbel
      go_wp2_with (first
        | (go_at_call 34; with_reducible refine (HCT.out _).mono ?_; rintro e w3 ⟨rfl, h3⟩
           have MM3 := Lib.hid ((MM.out.alloc (.cells #[.int .u8 (f j), .int .u8 (g j)] 92)).keep h3)
           have MO3 := Lib.hid ((MO.out.alloc (.cells #[.int .u8 (f j), .int .u8 (g j)] 92)).keep h3)
           have HB3 := Lib.hid (bel_step (bel_alloc HB.out _) h3)
           have HRG3 := Lib.hid ((HRG.out.keep (bel_alloc (Below.refl _ _) _)).keep h3))
        | (go_at_call 33; with_reducible refine (HAP.out _ (HRG3.out.keep (bel_alloc (Below.refl _ _) _))).mono ?_; rintro e w4 ⟨b4, cap4, rfl, r4, k4, g4, h4⟩
           have MM4 := Lib.hid ((MM3.out.alloc (.cells #[.int .i64 s, .int .i64 (rg r f g (j + 1)), .bool false] 28)).keep h4)
           have MO4 := Lib.hid ((MO3.out.alloc (.cells #[.int .i64 s, .int .i64 (rg r f g (j + 1)), .bool false] 28)).keep h4)
           have HM4 := Lib.hid (MB.keep (MB.new w3 s (rg r f g (j + 1)) false) h4)
           have HB4 := Lib.hid (bel_step (bel_alloc HB3.out _) h4)
           obtain ⟨d0, d1, d2, d3, d4⟩ := HM4.out.get
           obtain ⟨y0, y1, y2, y3, y4⟩ := MM4.out.get
           obtain ⟨z0, z1, z2⟩ := MM4.out.frz))
      all_goals (try (exfalso; omega))
      have hs3 := h3.size
      have hs4 : w.heap.size + 2 ≤ b4 := by
        have := HB3.out.size
        have h5 : (wr.alloc (.cells #[.int .u8 (f j), .int .u8 (g j)] 92)).heap.size = wr.heap.size + 1 := by simp
        have h6 : (w3.alloc (.cells #[.int .i64 s, .int .i64 (rg r f g (j + 1)), .bool false] 28)).heap.size = w3.heap.size + 1 := by simp
        have := MO.out.lt
        omega
      refine ⟨⟨j + 1, b4, cap4, by omega, by go_num, rfl, MM4.out.set, ((MO4.out.far (by simp) _).far (by simp) _).far (by simp) _, rg_far (rg_far (rg_far r4 (by simp; omega) _) (by simp; omega) _) (by simp; omega) _, k4, hs4, ?_⟩, by simp [intOf] <;> omega⟩
      exact ((HB4.out.setCell (Nat.le_refl _) _).setCell (Nat.le_refl _) _).setCell (Nat.le_refl _) _
    · obtain rfl : j = n := by omega
      obtain ⟨a0, a1, a2, a3, a4⟩ := mm.get
      obtain ⟨b0, b1, b2, b3, b4⟩ := mo.get
      obtain ⟨f0, f1, f2⟩ := mo.frz
      go_wp2
      refine bodyPost_ret (v := .tuple #[.agg #[.int .i64 s, .int .i64 (rg r f g j), .bool false], .slice (some ⟨b, 0, none⟩) (j + 1) cap, .bool true]) (by simp [results, Try.results10, go_sem, b0, b1, b2]) rfl ⟨b, cap, rfl, ?_, hcap, ?_⟩
      · exact rg_far (rg_far (rg_far hrg (by simp; omega) _) (by simp; omega) _) (by simp; omega) _
      · exact ((hbel.setCell (Nat.le_succ _) _).setCell (Nat.le_succ _) _).setCell (Nat.le_succ _) _
set_option maxRecDepth 100000 in
set_option maxHeartbeats 4000000 in
theorem w17Meter_ok (w : World) : Calls Try.prog 9 #[] w fun e w' => e = .returned (.bool true) ∧ Below w.heap.size w w' := by
  have HT : Hid (TK (w.alloc (.cells #[.int .u8 16, .int .u8 3, .int .u8 16, .int .u8 3, .int .u8 16, .int .u8 3, .int .u8 16, .int .u8 3] 92)) (some ⟨w.heap.size, 0, none⟩) 4 (fun _ => 16) (fun _ => 3)) := Lib.hid fun i hi => by
    refine ⟨w.heap.size, 0, rfl, by simp, ?_, ?_, by simp, by simp⟩
    · rw [cell_of_row _ w.heap.size _ _ _ _ (heap_alloc_new w _)]
      rcases (by omega : i = 0 ∨ i = 1 ∨ i = 2 ∨ i = 3) with rfl | rfl | rfl | rfl <;> rfl
    · rw [cell_of_row _ w.heap.size _ _ _ _ (heap_alloc_new w _)]
      rcases (by omega : i = 0 ∨ i = 1 ∨ i = 2 ∨ i = 3) with rfl | rfl | rfl | rfl <;> rfl
  have hrg : rg 0 (fun _ => 16) (fun _ => 3) 4 = 441600 := by decide
  have hrd := fun W h => read_ok 5 0 9 (some ⟨w.heap.size, 0, none⟩) 4 4 (fun _ => 16) (fun _ => 3) W h (by omega) (by omega) (by omega)
  rw [hrg] at hrd
  have HRD := Lib.hid hrd
  have hsq := mr_sq (s := 5) (r := 0) (f := fun _ => 16) (g := fun _ => 3) (N := 4) (by omega) (by omega) (by omega)
  have hok := okB_of (rws_ok (seed := 9) hsq (by omega) (Nat.le_refl 4))
  have hes := eSum_rws (seed := 9) (s := 5) (M := fun i => (i : Int) / 6) (R := fun i => rg 0 (fun _ => 16) (fun _ => 3) i / 3600) (j := 4) (a := 1) (by omega) (k := 4) (by omega)
  have hv : (fun i => rg 0 (fun _ => 16) (fun _ => 3) i / 3600) (1 + 4 - 1) - (fun i => rg 0 (fun _ => 16) (fun _ => 3) i / 3600) (1 - 1) = 122 := by decide
  rw [hv] at hes
  have HEN : Hid (∀ W A c, RG W A 5 (rws 9 5 (fun i => (i : Int) / 6) (fun i => rg 0 (fun _ => 16) (fun _ => 3) i / 3600) 4) → Calls Try.prog 11 #[.slice A 5 c, .int .i64 1, .int .i64 5] W fun e w' => e = .returned (.tuple #[.int .i64 122, .int .i64 0]) ∧ Below W.heap.size W w') := Lib.hid fun W A c h => by
    have := energy_ok A 5 c _ 1 5 W (by omega) h hok (by omega) (by omega) (by omega)
    rw [show 5 - 1 = 4 from rfl, hes] at this
    exact this
  clear hrg hrd hsq hok hes hv
  go_enter Try.func9, Try.ntmps9
  go_wp2_with (first
    | (go_at_call 10; with_reducible refine (HRD.out _ HT.out).mono ?_; rintro e w1 ⟨b, cap, rfl, r1, k1, h1⟩
       have H1 := Lib.hid (bel_step (bel_alloc (Below.refl _ _) _) h1)
       have R1 := Lib.hid (r1.keep (bel_alloc (Below.refl _ _) (.cells #[.int .i64 5, .int .i64 441600, .bool false] 28)))
       clear r1 h1)
    | (go_at_call 11; with_reducible refine (HEN.out _ _ _ R1.out).mono ?_; rintro e w2 ⟨rfl, h2⟩
       have H2 := Lib.hid (bel_step (bel_alloc H1.out _) h2)
       have m2 := MB.keep (MB.new w1 5 441600 false) h2
       obtain ⟨a0, a1, a2, _⟩ := m2.get))
  all_goals (try (exfalso; omega))
  go_ret
  exact ⟨rfl, H2.out⟩
set_option maxRecDepth 100000 in
set_option maxHeartbeats 4000000 in
theorem mr_no (s r at_ : Nat) (seed : Int) (A : Option Addr) (n c : Nat) (w : World) (hn : 60 < n) (hn2 : n ≤ 9223372036854775807) :
    Calls Try.prog 3 #[.int .u16 s, .int .u32 r, .int .u64 seed, .slice A n c, .int .u8 at_] w fun e w' => e = .returned (.bool true) ∧ Below w.heap.size w w' := by
  have e1 : decide ((60 : Int) < (n : Int)) = true := decide_eq_true (by omega)
  go_enter Try.func3, Try.ntmps3
  go_wp2_with (first
    | (go_at_call 9; with_reducible refine (w17Meter_ok _).mono ?_; rintro e w1 ⟨rfl, h1⟩))
  all_goals (try (exfalso; omega))
  go_ret
  exact ⟨rfl, h1⟩
set_option maxRecDepth 100000 in
set_option maxHeartbeats 8000000 in
theorem mr_yes (s r at_ : Nat) (seed : Int) (A : Option Addr) (n c : Nat) (f g : Nat → Int) (w : World) (hT : TK w A n f g) (hn : n ≤ 60) (hs : s ≤ 65535) (hr : r ≤ 4294967295) (hat : at_ ≤ 255) :
    Calls Try.prog 3 #[.int .u16 s, .int .u32 r, .int .u64 seed, .slice A n c, .int .u8 at_] w fun e w' => e = .returned (.bool true) ∧ Below w.heap.size w w' := by
  have e1 : decide ((60 : Int) < (n : Int)) = false := decide_eq_false (by omega)
  obtain ⟨t, ht⟩ : ∃ t, at_ % (n + 1) = t := ⟨_, rfl⟩
  have htn : t ≤ n := by have := Nat.mod_lt at_ (show 0 < n + 1 by omega); omega
  have tm : Int.tmod (at_ : Int) ((n : Int) + 1) = (t : Int) := by have h := (Int.ofNat_tmod at_ (n + 1)).symm; rw [ht] at h; simpa using h
  obtain ⟨S, hS⟩ : ∃ S : Int, 1 + (s : Int) = S := ⟨_, rfl⟩
  have hS1 : 1 ≤ S ∧ S ≤ 1000000 := by omega
  obtain ⟨M, hM⟩ : ∃ M : Nat → Int, (fun i : Nat => (i : Int) / 6) = M := ⟨_, rfl⟩
  obtain ⟨R, hR⟩ : ∃ R : Nat → Int, (fun i : Nat => rg r f g i / 3600) = R := ⟨_, rfl⟩
  have hsq := mr_sq (s := S) (r := (r : Int)) (f := f) (g := g) (N := n) hS1 (by omega) hn
  have hrd := fun W h => read_ok S r seed A n c f g W h hn hS1 (by omega)
  rw [hM, hR] at hsq hrd
  have HRD := Lib.hid hrd
  have hch := rws_ok (seed := seed) hsq (by omega) (Nat.le_refl n)
  have hok := okB_of hch
  have HCK := Lib.hid (fun W A c (h : RG W A (n + 1) (rws seed S M R n)) => check_any seed A (n + 1) c _ W (by omega) h)
  rw [chk_ok hch] at HCK
  have en1 : ∀ (a k : Nat), 1 ≤ a → a + k ≤ n + 1 → ∀ W A c, RG W A (n + 1) (rws seed S M R n) → Calls Try.prog 11 #[.slice A ((n + 1 : Nat)) c, .int .i64 a, .int .i64 ((a + k : Nat) : Int)] W fun e w' => e = .returned (.tuple #[.int .i64 (R (a + k - 1) - R (a - 1)), .int .i64 0]) ∧ Below W.heap.size W w' := by
    intro a k ha hk W A c h
    have := energy_ok A (n + 1) c _ a (a + k) W (by omega) h hok ha (by omega) hk
    rw [show a + k - a = k by omega, eSum_rws ha hk] at this
    exact this
  have hE1 := en1 1 n (Nat.le_refl _) (by omega)
  have hE2 := en1 1 t (Nat.le_refl _) (by omega)
  have hE3 := en1 (1 + t) (n - t) (by omega) (by omega)
  rw [show 1 + n - 1 = n by omega, show 1 - 1 = 0 from rfl, show ((1 + n : Nat) : Int) = (n : Int) + 1 by omega, show ((1 : Nat) : Int) = 1 from rfl] at hE1
  rw [show 1 + t - 1 = t by omega, show 1 - 1 = 0 from rfl, show ((1 + t : Nat) : Int) = 1 + (t : Int) by omega, show ((1 : Nat) : Int) = 1 from rfl] at hE2
  rw [show 1 + t + (n - t) - 1 = n by omega, show 1 + t - 1 = t by omega, show ((1 + t + (n - t) : Nat) : Int) = (n : Int) + 1 by omega, show ((1 + t : Nat) : Int) = 1 + (t : Int) by omega] at hE3
  have hRn : R n = rg r f g n / 3600 := by rw [← hR]
  have hR0 : R 0 = (r : Int) / 3600 := by rw [← hR]; rfl
  have hbd := rg_bd (r : Int) f g n
  have hbd2 : 0 ≤ R t ∧ R t ≤ 1000000000 := (hsq.2.1 t htn).2
  obtain ⟨G, hG⟩ : ∃ G, rg r f g n = G := ⟨_, rfl⟩
  rw [hG] at hrd hRn hbd
  rw [hG] at HRD
  have hG1 : (r : Int) ≤ G ∧ G ≤ 5000000000 := by omega
  rw [hRn, hR0] at hE1
  rw [hR0] at hE2
  rw [hRn] at hE3
  have HE1 := Lib.hid hE1
  have HE2 := Lib.hid hE2
  have HE3 := Lib.hid hE3
  have HME := Lib.hid (fun W => Mt.energy_y S r S G false false W (Mt.vM_iff.2 (by omega)) (Mt.vM_iff.2 (by omega)) rfl (by omega))
  have HT := Lib.hid hT
  obtain ⟨T, hTt⟩ : ∃ T, R t = T := ⟨_, rfl⟩
  rw [hTt] at HE2 HE3 hbd2
  clear hT hsq hrd hch hok en1 hE1 hE2 hE3 hRn hR0 hbd hM hR hG hTt ht
  have q1 : ¬ (n : Int) + 1 = 0 := by omega
  have q2 : G / 3600 - (r : Int) / 3600 - (G - (r : Int)) / 3600 ≤ 1 := by omega
  have q3 : 0 ≤ G / 3600 - (r : Int) / 3600 - (G - (r : Int)) / 3600 := by omega
  have q4 : T - (r : Int) / 3600 + (G / 3600 - T) = G / 3600 - (r : Int) / 3600 := by omega
  have g1 : 0 ≤ G / 3600 ∧ G / 3600 ≤ 2000000 := by omega
  have g2 : 0 ≤ (r : Int) / 3600 ∧ (r : Int) / 3600 ≤ 2000000 := by omega
  have g3 : 0 ≤ (G - (r : Int)) / 3600 ∧ (G - (r : Int)) / 3600 ≤ 2000000 := by omega
  have HS1 := Lib.hid hS
  have hr0 : (0 : Int) ≤ (r : Int) := by omega
  have hG0 : 0 ≤ G := by omega
  go_enter Try.func3, Try.ntmps3
  go_upto_region 15 with (first
    | (go_at_call 9; with_reducible refine (w17Meter_ok _).mono ?_; rintro e w1 ⟨rfl, h1⟩
       have H1 := Lib.hid h1)
    | (go_at_call 10; with_reducible refine (HRD.out _ (HT.out.keep (bel_alloc H1.out _))).mono ?_; rintro e w2 ⟨b, cap, rfl, r2, k2, h2⟩
       have H2 := Lib.hid (bel_step (bel_alloc H1.out _) h2)
       have MA2 := Lib.hid (MB.alloc (MB.keep (MB.new w1 S r false) h2) (.cells #[.int .i64 S, .int .i64 G, .bool false] 28))
       have MB2 := Lib.hid (MB.new w2 S G false)
       have R2 := Lib.hid (r2.keep (bel_alloc (Below.refl _ _) (.cells #[.int .i64 S, .int .i64 G, .bool false] 28)))
       have HH2 := Lib.hid (bel_alloc H2.out (.cells #[.int .i64 S, .int .i64 G, .bool false] 28)))
    | (go_at_call 11; with_reducible refine (HE1.out _ _ _ R2.out).mono ?_; rintro e w3 ⟨rfl, h3⟩
       have H3 := Lib.hid (bel_step HH2.out h3)
       have R3 := Lib.hid (R2.out.keep h3)
       have MA3 := Lib.hid (MA2.out.keep h3)
       have MB3 := Lib.hid (MB2.out.keep h3))
    | (go_at_call 11; with_reducible refine (HE2.out _ _ _ R3.out).mono ?_; rintro e w4 ⟨rfl, h4⟩
       have H4 := Lib.hid (bel_step H3.out h4)
       have R4 := Lib.hid (R3.out.keep h4)
       have MA4 := Lib.hid (MA3.out.keep h4)
       have MB4 := Lib.hid (MB3.out.keep h4))
    | (go_at_call 11; with_reducible refine (HE3.out _ _ _ R4.out).mono ?_; rintro e w5 ⟨rfl, h5⟩
       have H5 := Lib.hid (bel_step H4.out h5)
       have R5 := Lib.hid (R4.out.keep h5)
       have MA5 := Lib.hid (MA4.out.keep h5)
       have MB5 := Lib.hid (MB4.out.keep h5)
       obtain ⟨a0, a1, a2, _⟩ := MA5.out.get
       obtain ⟨b0, b1, b2, _⟩ := MB5.out.get)
    | (go_at_call 12; with_reducible refine (HME.out _).mono ?_; rintro e w6 ⟨rfl, h6⟩
       have H6 := Lib.hid (bel_step H5.out h6)
       have R6 := Lib.hid (R5.out.keep h6)
       obtain ⟨c0, c1, c2, _⟩ := (MA5.out.keep h6).get
       obtain ⟨d0, d1, d2, _⟩ := (MB5.out.keep h6).get))
  all_goals (try (exfalso; omega))
  have q5 : (G - (r : Int)) / 3600 ≤ G / 3600 - (r : Int) / 3600 := by omega
  have e2 : (T - (r : Int) / 3600 + (G / 3600 - T) == G / 3600 - (r : Int) / 3600) = true := by rw [q4]; simp
  clear c2 d2 q4
  go_wp2_with (first
    | (go_at_call 13; with_reducible refine (HCK.out _ _ _ R6.out).mono ?_; rintro e w7 ⟨rfl, h7⟩
       have H7 := Lib.hid (bel_step H6.out h7)
       have k1 := old_at c1 h7
       have k2 := old_at d1 h7))
  all_goals (try (exfalso; omega))
  go_ret
  exact ⟨rfl, H7.out⟩
theorem mr_all (s r at_ : Nat) (seed : Int) (A : Option Addr) (n c : Nat) (f g : Nat → Int) (w : World) (hT : TK w A n f g) (hc : n ≤ c ∧ c ≤ 9223372036854775807) (hs : s ≤ 65535) (hr : r ≤ 4294967295) (hat : at_ ≤ 255) :
    Calls Try.prog 3 #[.int .u16 s, .int .u32 r, .int .u64 seed, .slice A n c, .int .u8 at_] w fun e w' => e = .returned (.bool true) ∧ Below w.heap.size w w' := by
  by_cases h : 60 < n
  · exact mr_no s r at_ seed A n c w h (by omega)
  · exact mr_yes s r at_ seed A n c f g w hT (by omega) hs hr hat
end Go.Proofs.Ytkhmlbkkdflnoaa.Ch
