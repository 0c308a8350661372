/-
  THE WALK over w17Sessions.
-/
import Derived.Test.YtkhmlbkkdflnoaaSesC
import Derived.Test.YtkhmlbkkdflnoaaMoney
namespace Go.Proofs.Ytkhmlbkkdflnoaa.Rc
open Go.RowKit
open Ch (lkf rws eSum Sq)
set_option linter.unusedVariables false
set_option linter.unusedSimpArgs false
attribute [local go_sem ↓] Go.wp_at_zero Go.wp_at_succ

theorem infoRec : (Try.prog.info? 53).map (fun i => (i.zero, i.size, i.bytes)) = some (some (rcV fun _ => 0), 13, 104) := by kernel_rfl
theorem own_below {W W' : World} {B : Nat} {t : TypeId} {s n : Nat} {v : Value} {xs : List Value} (h : W.ownsRow B t s v n xs) (hb : Below W.heap.size W W') : W'.ownsRow B t s v n xs := by
  refine ⟨h.1, ?_⟩
  rcases h.2 with h' | ⟨g, cap, cur, h1, h2, h3, h4⟩
  · exact .inl h'
  · exact .inr ⟨g, cap, cur, h1, h2, (hb.block g (Array.getElem?_eq_some_iff.1 h3).1).trans h3, h4⟩
/-- Booleans, bytes at an address -/
def BO (w : World) (A : Option Addr) (n : Nat) (e : Nat → Bool) : Prop := ∀ i, i < n → ∃ b o, A = some ⟨b, o, none⟩ ∧ b < w.heap.size ∧ w.cell? ⟨b, o + i, none⟩ = some (.bool (e i))
def UO (w : World) (A : Option Addr) (n : Nat) (h : Nat → Int) : Prop := ∀ i, i < n → ∃ b o, A = some ⟨b, o, none⟩ ∧ b < w.heap.size ∧ w.cell? ⟨b, o + i, none⟩ = some (.int .u8 (h i)) ∧ 0 ≤ h i ∧ h i ≤ 255
theorem BO.keep {w w' : World} {A : Option Addr} {n : Nat} {e : Nat → Bool} (h : BO w A n e) (hb : Below w.heap.size w w') : BO w' A n e := fun i hi => by
  obtain ⟨b, o, h1, h2, h3⟩ := h i hi
  have := hb.size
  exact ⟨b, o, h1, by omega, old_at h3 hb⟩
theorem UO.keep {w w' : World} {A : Option Addr} {n : Nat} {e : Nat → Int} (h : UO w A n e) (hb : Below w.heap.size w w') : UO w' A n e := fun i hi => by
  obtain ⟨b, o, h1, h2, h3, h4⟩ := h i hi
  have := hb.size
  exact ⟨b, o, h1, by omega, old_at h3 hb, h4⟩
theorem sq_mono {s : Int} {M R : Nat → Int} {N a b : Nat} (h : Sq s M R N) (hab : a ≤ b) (hb : b ≤ N) : R a ≤ R b := by
  obtain ⟨k, rfl⟩ := Nat.exists_eq_add_of_le hab
  clear hab
  induction k with
  | zero => exact Int.le_refl _
  | succ k ih =>
    have h1 := ih (by omega)
    have h2 := (h.2.2 (a + k) (by omega)).2
    exact Int.le_trans h1 h2
/-- what holds between rounds -/
def SSI (w0 : World) (K R : Nat → Int) (m p : Int) (nh : Nat) (h : Nat → Int) (len ne : Nat) (e : Nat → Bool) (i out sum fst : Value) (wr : World) : Prop :=
  ∃ (s T fs : Nat) (L : List (Nat × Nat)) (A : Option Addr) (c : Nat), s + 1 ≤ len ∧ i = .int .i64 ((s : Int) + 2) ∧ L = segs len ne e s ∧ L.length = T ∧ fsts L = fs ∧ out = .slice A T c ∧
    wr.ownsRow w0.heap.size 53 13 (.slice A T c) T (rcs (YS K R m p nh h L) T) ∧ sum = .int .i64 (R (fs - 1) - R 0) ∧ fst = .int .i64 (fs : Int) ∧ Below w0.heap.size w0 wr
set_option maxRecDepth 100000 in
set_option maxHeartbeats 8000000 in
theorem sessions_ok (seed : Int) (M R K : Nat → Int) (n : Nat) (A : Option Addr) (c : Nat) (Ae : Option Addr) (ne ce : Nat) (e : Nat → Bool) (Ah : Option Addr) (nh ch : Nat) (h : Nat → Int) (m p : Int) (w : World)
    (hsq : Sq 1 M R n) (hbd : ∀ i, i ≤ n → 0 ≤ R i ∧ R i ≤ 100000) (hn : n ≤ 59) (hR : RG w A (n + 1) (rws seed 1 M R n)) (hE : BO w Ae ne e) (hH : UO w Ah nh h) (hm : 2 ≤ m ∧ m ≤ 8) (hp : 0 ≤ p ∧ p ≤ 65535) (hne : ne ≤ 9223372036854775807) (hnh : nh ≤ 9223372036854775807) :
    Calls Try.prog 16 #[.slice A (n + 1) c, .slice Ae ne ce, .slice Ah nh ch, .int .i64 m, .int .i64 p, .agg #[.int .u64 (K 0), .int .u64 (K 1), .int .u64 (K 2), .int .u64 (K 3)]] w
      fun x w' => ∃ (A' : Option Addr) (c' : Nat), x = .returned (.tuple #[.slice A' (segs (n + 1) ne e n).length c', .int .i64 (R (fsts (segs (n + 1) ne e n) - 1) - R 0), .bool true]) ∧
        w'.ownsRow (w.heap.size + 1) 53 13 (.slice A' (segs (n + 1) ne e n).length c') (segs (n + 1) ne e n).length (rcs (YS K R m p nh h (segs (n + 1) ne e n)) (segs (n + 1) ne e n).length) ∧ Below w.heap.size w w' := by
  have HOK := Lib.hid (Ch.okB_of (Ch.rws_ok (seed := seed) hsq (by omega) (Nat.le_refl n)))
  have HEN : Hid (∀ (fs s : Nat) (W : World), RG W A (n + 1) (rws seed 1 M R n) → 1 ≤ fs → fs ≤ s + 1 → s < n → Calls Try.prog 11 #[.slice A (n + 1) c, .int .i64 (fs : Int), .int .i64 ((s : Int) + 2)] W fun x w' => x = .returned (.tuple #[.int .i64 (R (s + 1) - R (fs - 1)), .int .i64 0]) ∧ Below W.heap.size W w') := Lib.hid fun fs s W hW h1 h2 h3 => by
    have h0 := Ch.energy_ok A (n + 1) c _ fs (s + 2) W (by omega) hW HOK.out h1 (by omega) (by omega)
    rw [Ch.eSum_rws h1 (by omega), show fs + (s + 2 - fs) - 1 = s + 1 by omega] at h0
    exact h0
  have HTM : Hid (∀ (en : Int) (W : World), 0 ≤ en ∧ en ≤ 100000 → Calls Try.prog 40 #[.int .i64 p, .int .i64 en, .int .i64 1000] W fun x w' => x = .returned (.tuple #[.int .i64 (amt p en), .int .i64 0]) ∧ Below W.heap.size W w') := Lib.hid fun en W he => Mo.times_ok p en 1000 W hp he rfl
  have HCL : Hid (∀ (k fs s : Nat) (hm en am : Int) (W : World), RG W A (n + 1) (rws seed 1 M R n) → SBd k fs (s + 2) hm en am → s < n → R (s + 1) - R (fs - 1) = en → Calls Try.prog 41 #[.agg #[.int .i64 ((k : Int) + 1), .int .i64 0, .int .i64 5, .int .i64 hm, .int .i64 0, .int .i64 (fs : Int), .int .i64 ((s : Int) + 2), .int .i64 0, .int .i64 am, .int .u64 0, .int .u64 0, .int .u64 0, .int .u64 0], .slice A (n + 1) c, .agg #[.int .u64 (K 0), .int .u64 (K 1), .int .u64 (K 2), .int .u64 (K 3)]] W fun x w' => x = .returned (.tuple #[rcV (rcf K k hm fs (s + 2 : Nat) en am), .int .i64 0]) ∧ Below W.heap.size W w') := Lib.hid fun k fs s hm en am W hW hB hs he => by
    refine close_rc K k fs (s + 2) hm en am A (n + 1) c _ W hB (by omega) hW HOK.out (by omega) ?_
    have := hB.2.2.1
    rw [Ch.eSum_rws this.1 (by omega), show fs + (s + 2 - fs) - 1 = s + 1 by omega, he]
  have HCH := Lib.hid (fun (k fs s : Nat) (hm en am : Int) (W : World) => check_rc K k fs (s + 2) hm en am W)
  have HR := Lib.hid (hR.keep (bel_alloc (Below.refl _ _) (.cells #[.int .u64 (K 0), .int .u64 (K 1), .int .u64 (K 2), .int .u64 (K 3)] 40)))
  have HE := Lib.hid (hE.keep (bel_alloc (Below.refl _ _) (.cells #[.int .u64 (K 0), .int .u64 (K 1), .int .u64 (K 2), .int .u64 (K 3)] 40)))
  have HH := Lib.hid (hH.keep (bel_alloc (Below.refl _ _) (.cells #[.int .u64 (K 0), .int .u64 (K 1), .int .u64 (K 2), .int .u64 (K 3)] 40)))
  have HBD := Lib.hid hbd
  have HSQ := Lib.hid hsq
  have HKB : Hid ((w.alloc (.cells #[.int .u64 (K 0), .int .u64 (K 1), .int .u64 (K 2), .int .u64 (K 3)] 40)).heap[w.heap.size]? = some (.cells #[.int .u64 (K 0), .int .u64 (K 1), .int .u64 (K 2), .int .u64 (K 3)] 40 (0, 0))) := Lib.hid (heap_alloc_new _ _)
  have HWB : Hid (Below w.heap.size w (w.alloc (.cells #[.int .u64 (K 0), .int .u64 (K 1), .int .u64 (K 2), .int .u64 (K 3)] 40))) := Lib.hid (bel_alloc (Below.refl _ _) _)
  have HWS : Hid ((w.alloc (.cells #[.int .u64 (K 0), .int .u64 (K 1), .int .u64 (K 2), .int .u64 (K 3)] 40)).heap.size = w.heap.size + 1) := Lib.hid (World.size_alloc _ _)
  obtain ⟨w0, hw0⟩ : ∃ w0, w.alloc (.cells #[.int .u64 (K 0), .int .u64 (K 1), .int .u64 (K 2), .int .u64 (K 3)] 40) = w0 := ⟨_, rfl⟩
  clear hsq hbd hR hE hH
  obtain ⟨r0, hri, hri0, hri1, hri2⟩ := info_parts infoRec
  have HJ := Lib.hid hri
  have HY0 := Lib.hid hri0
  have HY1 := Lib.hid hri1
  have HY2 := Lib.hid hri2
  clear hri hri0 hri1 hri2
  go_enter Try.func16, Try.ntmps16
  go_wp2_with fail
  rw [hw0] at HR HE HH HKB HWB HWS
  clear hw0
  go_loopw [18, 15, 16, 17] (fun i out sum fst wr => SSI w0 K R m p nh h (n + 1) ne e i out sum fst wr) (fun i _ _ _ _ => n + 2 - (intOf i).toNat)
  case atStart =>
    refine ⟨0, 0, 1, [], none, 0, by omega, rfl, rfl, rfl, rfl, rfl, World.ownsRow_nil _ _ _ _, ?_, rfl, Below.refl _ _⟩
    simp
  case round =>
    obtain ⟨s, T, fs, L, A9, c9x, hs, rfl, hL, hT, hfs, rfl, hown, rfl, rfl, hbel⟩ := hrel
    have hsb := segs_bd (n + 1) ne e s
    rw [← hL, hT, hfs] at hsb
    have hb1 := hsb.1
    have hb2 := hsb.2.1
    have HL := Lib.hid hL
    have HT := Lib.hid hT
    have HFS := Lib.hid hfs
    have HOWN := Lib.hid hown
    have HBEL := Lib.hid hbel
    clear hsb hL hT hfs hown hbel
    have v1 : IntKind.i64.wrap ((s : Int) + 2 - 2) = (s : Int) := by rw [IntWalk.i64_in _ (by omega)]; omega
    have v2 : IntKind.i64.wrap ((s : Int) + 2 + 1) = (s : Int) + 2 + 1 := IntWalk.i64_in _ (by omega)
    by_cases hlt : s < n
    · have hskip : cutB (n + 1) ne e (s + 2) = false → SSI w0 K R m p nh h (n + 1) ne e (.int .i64 ((s : Int) + 2 + 1)) (.slice A9 T c9x) (.int .i64 (R (fs - 1) - R 0)) (.int .i64 (fs : Int)) wr := fun hc => by
        refine ⟨s + 1, T, fs, L, A9, c9x, by omega, by go_num, ?_, HT.out, HFS.out, rfl, HOWN.out, rfl, rfl, HBEL.out⟩
        rw [HL.out]
        show _ = if cutB (n + 1) ne e (s + 2) = true then _ else _
        rw [hc]
        rfl
      have HSK := Lib.hid hskip
      clear hskip
      by_cases hi : s + 1 < n
      · by_cases hse : s < ne
        · obtain ⟨be, oe, rfl, hbe, q0⟩ := (HE.out.keep HBEL.out) s hse
          by_cases he : e s = true
          · rw [he] at q0
            have hc : cutB (n + 1) ne e (s + 2) = true := by simp [cutB, he, hse]
            clear he
            have j0 : (0 : Int) ≤ (s : Int) := by omega
            have j1 : (s : Int) < (ne : Int) := by omega
            have hL1 : L ++ [(fs, s + 2)] = segs (n + 1) ne e (s + 1) := by
              show _ = if cutB (n + 1) ne e (s + 2) = true then _ else _
              rw [if_pos hc, ← HL.out, HFS.out]
            have HL1 := Lib.hid hL1
            have hmono := sq_mono HSQ.out (show fs - 1 ≤ s + 1 by omega) (by omega)
            have hr1 := HBD.out (s + 1) (by omega)
            have hr2 := HBD.out (fs - 1) (by omega)
            have hr3 := HBD.out 0 (by omega)
            have HE1 := Lib.hid (HEN.out fs s wr (HR.out.keep HBEL.out) hb1.1 hb1.2 hlt)
            obtain ⟨en, hen⟩ : ∃ en, R (s + 1) - R (fs - 1) = en := ⟨_, rfl⟩
            rw [hen] at HE1
            have henb : 0 ≤ en ∧ en ≤ 100000 := by omega
            have hamb := amt_bd hp henb
            have HT1 := Lib.hid (fun W => HTM.out en W henb)
            obtain ⟨am, ham⟩ : ∃ am, amt p en = am := ⟨_, rfl⟩
            rw [ham] at HT1 hamb
            have hsum : R (fs - 1) - R 0 + en = R (s + 1) - R 0 := by omega
            have hsw : IntKind.i64.wrap (R (fs - 1) - R 0 + en) = R (s + 1) - R 0 := by rw [hsum]; exact IntWalk.i64_in _ (by omega)
            have hks : SBd T fs (s + 2) (homeOf m nh h T) en am := by
              have := homeOf_bd (nh := nh) (h := h) hm T
              exact ⟨by omega, by omega, by omega, by omega, by omega⟩
            have HCL1 := Lib.hid (fun W hW => HCL.out T fs s (homeOf m nh h T) en am W hW hks hlt hen)
            have HCH1 := Lib.hid (fun W => HCH.out T fs s (homeOf m nh h T) en am W hks)
            have hY : rcf K T (homeOf m nh h T) fs (s + 2 : Nat) en am = rcf K L.length (homeOf m nh h L.length) fs (s + 2 : Nat) (R (s + 2 - 1) - R (fs - 1)) (amt p (R (s + 2 - 1) - R (fs - 1))) := by
              rw [show s + 2 - 1 = s + 1 by omega, hen, ham, HT.out]
            have hrow := YS_rcs (K := K) (R := R) (m := m) (p := p) (nh := nh) (h := h) (L := L) (q := (fs, s + 2)) hY
            rw [HT.out] at hrow
            have hF7 : rcf K T (homeOf m nh h T) fs (s + 2 : Nat) en am 7 = en := rfl
            have hF8 : rcf K T (homeOf m nh h T) fs (s + 2 : Nat) en am 8 = am := rfl
            obtain ⟨F, hF⟩ : ∃ F, rcf K T (homeOf m nh h T) fs (s + 2 : Nat) en am = F := ⟨_, rfl⟩
            rw [hF] at HCL1 HCH1 hrow hF7 hF8
            have HROW := Lib.hid hrow
            have HHM : Hid (homeOf m nh h T = if T < nh then 1 + h T % (m - 1) else 1) := Lib.hid rfl
            have hhb := homeOf_bd (nh := nh) (h := h) hm T
            obtain ⟨hom, hhom⟩ : ∃ hom, homeOf m nh h T = hom := ⟨_, rfl⟩
            rw [hhom] at HCL1 HHM hhb
            simp only [rcV] at HCL1 HCH1
            have HF7 := Lib.hid hF7
            have HF8 := Lib.hid hF8
            have u1 : IntKind.i64.wrap ((T : Int) + 1) = (T : Int) + 1 := IntWalk.i64_in _ (by omega)
            have u2 : IntKind.i64.wrap (m - 1) = m - 1 := IntWalk.i64_in _ (by omega)
            clear hL1 hmono hr1 hr2 hr3 hen ham hks hY hrow hF hhom hF7 hF8 hsum hc
            by_cases hth : T < nh
            · obtain ⟨bh, oh, rfl, hbh, q1, hh0, hh1⟩ := (HH.out.keep HBEL.out) T hth
              have hq : hom = 1 + h T % (m - 1) := by rw [HHM.out, if_pos hth]
              have HQ := Lib.hid hq
              have k0 : (0 : Int) ≤ (T : Int) := by omega
              have k1 : (T : Int) < (nh : Int) := by omega
              have u3 : IntKind.i64.wrap (h T) = h T := IntWalk.i64_in _ (by omega)
              have u4 : (h T).tmod (m - 1) = h T % (m - 1) := Int.tmod_eq_emod_of_nonneg hh0
              have hq1 := Int.emod_nonneg (h T) (show m - 1 ≠ 0 by omega)
              have hq2 := Int.emod_lt_of_pos (h T) (show 0 < m - 1 by omega)
              have u5 : IntKind.i64.wrap (h T % (m - 1)) = h T % (m - 1) := IntWalk.i64_in _ (by omega)
              have u6 : IntKind.i64.wrap (1 + h T % (m - 1)) = 1 + h T % (m - 1) := IntWalk.i64_in _ (by omega)
              clear hq
              go_upto_region 13 with (first
                | (go_at_call 11; with_reducible refine (HE1.out).mono ?_; rintro x1 w1 ⟨rfl, h1⟩
                   have q2 := old_at q1 h1)
                | (go_at_call 40; with_reducible refine (HT1.out _).mono ?_; rintro x2 w2 ⟨rfl, h2⟩
                   have q3 := old_at q2 h2))
              all_goals (try (exfalso; omega))
              rw [← HQ.out]
              clear q1 q2 q3 u3 u4 u5 u6 hq1 hq2 hh0 hh1 hbh k0 k1
              have H2 := Lib.hid (bel_step (bel_step HBEL.out h1) h2)
              have HR2 := Lib.hid (HR.out.keep H2.out)
              have hkb : w2.heap[w.heap.size]? = some (.cells #[.int .u64 (K 0), .int .u64 (K 1), .int .u64 (K 2), .int .u64 (K 3)] 40 (0, 0)) := (H2.out.block _ (by rw [HWS.out]; omega)).trans HKB.out
              have a0 : w2.cell? ⟨w.heap.size, 0, none⟩ = some (.int .u64 (K 0)) := by rw [cell_of_row _ _ _ _ _ (0, 0) hkb]; rfl
              have a1 : w2.cell? ⟨w.heap.size, 1, none⟩ = some (.int .u64 (K 1)) := by rw [cell_of_row _ _ _ _ _ (0, 0) hkb]; rfl
              have a2 : w2.cell? ⟨w.heap.size, 2, none⟩ = some (.int .u64 (K 2)) := by rw [cell_of_row _ _ _ _ _ (0, 0) hkb]; rfl
              have a3 : w2.cell? ⟨w.heap.size, 3, none⟩ = some (.int .u64 (K 3)) := by rw [cell_of_row _ _ _ _ _ (0, 0) hkb]; rfl
              have HA2 := Lib.hid (bel_step h1 h2)
              clear h1 h2 hkb
              go_upto_region 14 with (first
                | (go_at_call 41; refine (HCL1.out w2 HR2.out).mono ?_; rintro x3 w3 ⟨rfl, h3⟩
                   have b0 := old_at a0 h3
                   have b1 := old_at a1 h3
                   have b2 := old_at a2 h3
                   have b3 := old_at a3 h3))
              all_goals (try (exfalso; omega))
              have hbx := RCB.new w3 F
              have hB4 := Lib.hid (bel_alloc (bel_step HA2.out h3) (.cells (rcL F).toArray 53))
              have hK4 : Below w3.heap.size w3 (w3.alloc (.cells (rcL F).toArray 53)) := bel_alloc (Below.refl _ _) _
              unfold rcL at hbx hB4 hK4
              rw [List.toArray] at hbx
              obtain ⟨w4, hw4⟩ : ∃ w4, w3.alloc (.cells #[.int .i64 (F 0), .int .i64 (F 1), .int .i64 (F 2), .int .i64 (F 3), .int .i64 (F 4), .int .i64 (F 5), .int .i64 (F 6), .int .i64 (F 7), .int .i64 (F 8), .int .u64 (F 9), .int .u64 (F 10), .int .u64 (F 11), .int .u64 (F 12)] 53) = w4 := ⟨_, rfl⟩
              rw [hw4] at hbx hB4 hK4 ⊢
              clear hw4
              have n7 : (F 7 != en) = false := by simp [HF7.out]
              have n8 : (F 8 != am) = false := by simp [HF8.out]
              have b0' := old_at b0 hK4
              have b1' := old_at b1 hK4
              have b2' := old_at b2 hK4
              have b3' := old_at b3 hK4
              have HBX := Lib.hid hbx
              obtain ⟨c0, c1, c2, c3, c4, c5, c6, c7, c8, c9, c10, c11, c12⟩ := hbx.get
              clear b0 b1 b2 b3 a0 a1 a2 a3 h3 hK4 hbx
              go_upto_region 16 with (first
                | (go_at_call 42; refine (HCH1.out w4).mono ?_; rintro x5 w5 ⟨rfl, h5⟩
                   obtain ⟨e0, e1, e2, e3, e4, e5, e6, e7, e8, e9, e10, e11, e12⟩ := (HBX.out.keep h5).get
                   have HO5 := Lib.hid (bel_step hB4.out h5)
                   have H5 := Lib.hid (bel_step HBEL.out HO5.out)))
              all_goals (try (exfalso; omega))
              have hs5 := H5.out.size
              have HOW := Lib.hid (own_below HOWN.out HO5.out)
              clear h5 c0 c1 c2 c3 c4 c5 c6 c7 c8 c9 c10 c11 c12 b0' b1' b2' b3' n7 n8
              go_wp2_with (at_builtin; refine wpList_append_lies _ rfl (.tmp 121) (.tmp 123) 43 rfl w0.heap.size 53 r0 _ 13 104 Try.underlying43 HJ.out HY0.out HY1.out HY2.out rfl (by omega) (.slice A9 T c9x) T _ rfl (HOW.out.alloc _) ⟨w5.heap.size, 0, none⟩ 1 1 (rcL F) rfl rfl (World.news_of_block (heap_alloc_new w5 _)) (rcL_one _) (by omega) (by unfold maxLen; omega) (by omega) (by simp; omega) (w5.heap.size + 1) (by simp) ?_; intro g1 cap1 wB hown1 hgrow1 hat1 hlt1; rw [HROW.out] at hown1)
              all_goals (try (exfalso; omega))
              have hbB : Below w0.heap.size w0 wB := (bel_alloc H5.out _).grown hgrow1 (bel_alloc H5.out _).size (own_ge HOW.out)
              exact ⟨⟨s + 1, T + 1, s + 2, _, some ⟨g1, 0, none⟩, cap1, by omega, by go_num, HL1.out, by simp [HT.out], fsts_snoc _ _, rfl, hown1, rfl, by go_num, hbB⟩, by simp [intOf] <;> omega⟩
            · have hq : hom = 1 := by rw [HHM.out, if_neg hth]
              subst hq
              go_upto_region 13 with (first
                | (go_at_call 11; with_reducible refine (HE1.out).mono ?_; rintro x1 w1 ⟨rfl, h1⟩)
                | (go_at_call 40; with_reducible refine (HT1.out _).mono ?_; rintro x2 w2 ⟨rfl, h2⟩))
              all_goals (try (exfalso; omega))
              have H2 := Lib.hid (bel_step (bel_step HBEL.out h1) h2)
              have HR2 := Lib.hid (HR.out.keep H2.out)
              have hkb : w2.heap[w.heap.size]? = some (.cells #[.int .u64 (K 0), .int .u64 (K 1), .int .u64 (K 2), .int .u64 (K 3)] 40 (0, 0)) := (H2.out.block _ (by rw [HWS.out]; omega)).trans HKB.out
              have a0 : w2.cell? ⟨w.heap.size, 0, none⟩ = some (.int .u64 (K 0)) := by rw [cell_of_row _ _ _ _ _ (0, 0) hkb]; rfl
              have a1 : w2.cell? ⟨w.heap.size, 1, none⟩ = some (.int .u64 (K 1)) := by rw [cell_of_row _ _ _ _ _ (0, 0) hkb]; rfl
              have a2 : w2.cell? ⟨w.heap.size, 2, none⟩ = some (.int .u64 (K 2)) := by rw [cell_of_row _ _ _ _ _ (0, 0) hkb]; rfl
              have a3 : w2.cell? ⟨w.heap.size, 3, none⟩ = some (.int .u64 (K 3)) := by rw [cell_of_row _ _ _ _ _ (0, 0) hkb]; rfl
              have HA2 := Lib.hid (bel_step h1 h2)
              clear h1 h2 hkb
              go_upto_region 14 with (first
                | (go_at_call 41; refine (HCL1.out w2 HR2.out).mono ?_; rintro x3 w3 ⟨rfl, h3⟩
                   have b0 := old_at a0 h3
                   have b1 := old_at a1 h3
                   have b2 := old_at a2 h3
                   have b3 := old_at a3 h3))
              all_goals (try (exfalso; omega))
              have hbx := RCB.new w3 F
              have hB4 := Lib.hid (bel_alloc (bel_step HA2.out h3) (.cells (rcL F).toArray 53))
              have hK4 : Below w3.heap.size w3 (w3.alloc (.cells (rcL F).toArray 53)) := bel_alloc (Below.refl _ _) _
              unfold rcL at hbx hB4 hK4
              rw [List.toArray] at hbx
              obtain ⟨w4, hw4⟩ : ∃ w4, w3.alloc (.cells #[.int .i64 (F 0), .int .i64 (F 1), .int .i64 (F 2), .int .i64 (F 3), .int .i64 (F 4), .int .i64 (F 5), .int .i64 (F 6), .int .i64 (F 7), .int .i64 (F 8), .int .u64 (F 9), .int .u64 (F 10), .int .u64 (F 11), .int .u64 (F 12)] 53) = w4 := ⟨_, rfl⟩
              rw [hw4] at hbx hB4 hK4 ⊢
              clear hw4
              have n7 : (F 7 != en) = false := by simp [HF7.out]
              have n8 : (F 8 != am) = false := by simp [HF8.out]
              have b0' := old_at b0 hK4
              have b1' := old_at b1 hK4
              have b2' := old_at b2 hK4
              have b3' := old_at b3 hK4
              have HBX := Lib.hid hbx
              obtain ⟨c0, c1, c2, c3, c4, c5, c6, c7, c8, c9, c10, c11, c12⟩ := hbx.get
              clear b0 b1 b2 b3 a0 a1 a2 a3 h3 hK4 hbx
              go_upto_region 16 with (first
                | (go_at_call 42; refine (HCH1.out w4).mono ?_; rintro x5 w5 ⟨rfl, h5⟩
                   obtain ⟨e0, e1, e2, e3, e4, e5, e6, e7, e8, e9, e10, e11, e12⟩ := (HBX.out.keep h5).get
                   have HO5 := Lib.hid (bel_step hB4.out h5)
                   have H5 := Lib.hid (bel_step HBEL.out HO5.out)))
              all_goals (try (exfalso; omega))
              have hs5 := H5.out.size
              have HOW := Lib.hid (own_below HOWN.out HO5.out)
              clear h5 c0 c1 c2 c3 c4 c5 c6 c7 c8 c9 c10 c11 c12 b0' b1' b2' b3' n7 n8
              go_wp2_with (at_builtin; refine wpList_append_lies _ rfl (.tmp 121) (.tmp 123) 43 rfl w0.heap.size 53 r0 _ 13 104 Try.underlying43 HJ.out HY0.out HY1.out HY2.out rfl (by omega) (.slice A9 T c9x) T _ rfl (HOW.out.alloc _) ⟨w5.heap.size, 0, none⟩ 1 1 (rcL F) rfl rfl (World.news_of_block (heap_alloc_new w5 _)) (rcL_one _) (by omega) (by unfold maxLen; omega) (by omega) (by simp; omega) (w5.heap.size + 1) (by simp) ?_; intro g1 cap1 wB hown1 hgrow1 hat1 hlt1; rw [HROW.out] at hown1)
              all_goals (try (exfalso; omega))
              have hbB : Below w0.heap.size w0 wB := (bel_alloc H5.out _).grown hgrow1 (bel_alloc H5.out _).size (own_ge HOW.out)
              exact ⟨⟨s + 1, T + 1, s + 2, _, some ⟨g1, 0, none⟩, cap1, by omega, by go_num, HL1.out, by simp [HT.out], fsts_snoc _ _, rfl, hown1, rfl, by go_num, hbB⟩, by simp [intOf] <;> omega⟩
          · have he' : e s = false := by simpa using he
            rw [he'] at q0
            have hc : cutB (n + 1) ne e (s + 2) = false := by simp [cutB, he']; omega
            have HC := Lib.hid (HSK.out hc)
            clear he he' hc
            have j0 : (0 : Int) ≤ (s : Int) := by omega
            have j1 : (s : Int) < (ne : Int) := by omega
            go_wp2_with fail
            all_goals (try (exfalso; omega))
            exact ⟨HC.out, by simp [intOf] <;> omega⟩
        · have hc : cutB (n + 1) ne e (s + 2) = false := by simp [cutB]; omega
          have HC := Lib.hid (HSK.out hc)
          clear hc
          go_wp2_with fail
          all_goals (try (exfalso; omega))
          exact ⟨HC.out, by simp [intOf] <;> omega⟩
      · have hc : cutB (n + 1) ne e (s + 2) = true := by
          have : s + 2 = n + 1 := by omega
          simp [cutB, this]
        have hL1 : L ++ [(fs, s + 2)] = segs (n + 1) ne e (s + 1) := by
          show _ = if cutB (n + 1) ne e (s + 2) = true then _ else _
          rw [if_pos hc, ← HL.out, HFS.out]
        have HL1 := Lib.hid hL1
        have hmono := sq_mono HSQ.out (show fs - 1 ≤ s + 1 by omega) (by omega)
        have hr1 := HBD.out (s + 1) (by omega)
        have hr2 := HBD.out (fs - 1) (by omega)
        have hr3 := HBD.out 0 (by omega)
        have HE1 := Lib.hid (HEN.out fs s wr (HR.out.keep HBEL.out) hb1.1 hb1.2 hlt)
        obtain ⟨en, hen⟩ : ∃ en, R (s + 1) - R (fs - 1) = en := ⟨_, rfl⟩
        rw [hen] at HE1
        have henb : 0 ≤ en ∧ en ≤ 100000 := by omega
        have hamb := amt_bd hp henb
        have HT1 := Lib.hid (fun W => HTM.out en W henb)
        obtain ⟨am, ham⟩ : ∃ am, amt p en = am := ⟨_, rfl⟩
        rw [ham] at HT1 hamb
        have hsum : R (fs - 1) - R 0 + en = R (s + 1) - R 0 := by omega
        have hsw : IntKind.i64.wrap (R (fs - 1) - R 0 + en) = R (s + 1) - R 0 := by rw [hsum]; exact IntWalk.i64_in _ (by omega)
        have hks : SBd T fs (s + 2) (homeOf m nh h T) en am := by
          have := homeOf_bd (nh := nh) (h := h) hm T
          exact ⟨by omega, by omega, by omega, by omega, by omega⟩
        have HCL1 := Lib.hid (fun W hW => HCL.out T fs s (homeOf m nh h T) en am W hW hks hlt hen)
        have HCH1 := Lib.hid (fun W => HCH.out T fs s (homeOf m nh h T) en am W hks)
        have hY : rcf K T (homeOf m nh h T) fs (s + 2 : Nat) en am = rcf K L.length (homeOf m nh h L.length) fs (s + 2 : Nat) (R (s + 2 - 1) - R (fs - 1)) (amt p (R (s + 2 - 1) - R (fs - 1))) := by
          rw [show s + 2 - 1 = s + 1 by omega, hen, ham, HT.out]
        have hrow := YS_rcs (K := K) (R := R) (m := m) (p := p) (nh := nh) (h := h) (L := L) (q := (fs, s + 2)) hY
        rw [HT.out] at hrow
        have hF7 : rcf K T (homeOf m nh h T) fs (s + 2 : Nat) en am 7 = en := rfl
        have hF8 : rcf K T (homeOf m nh h T) fs (s + 2 : Nat) en am 8 = am := rfl
        obtain ⟨F, hF⟩ : ∃ F, rcf K T (homeOf m nh h T) fs (s + 2 : Nat) en am = F := ⟨_, rfl⟩
        rw [hF] at HCL1 HCH1 hrow hF7 hF8
        have HROW := Lib.hid hrow
        have HHM : Hid (homeOf m nh h T = if T < nh then 1 + h T % (m - 1) else 1) := Lib.hid rfl
        have hhb := homeOf_bd (nh := nh) (h := h) hm T
        obtain ⟨hom, hhom⟩ : ∃ hom, homeOf m nh h T = hom := ⟨_, rfl⟩
        rw [hhom] at HCL1 HHM hhb
        simp only [rcV] at HCL1 HCH1
        have HF7 := Lib.hid hF7
        have HF8 := Lib.hid hF8
        have u1 : IntKind.i64.wrap ((T : Int) + 1) = (T : Int) + 1 := IntWalk.i64_in _ (by omega)
        have u2 : IntKind.i64.wrap (m - 1) = m - 1 := IntWalk.i64_in _ (by omega)
        clear hL1 hmono hr1 hr2 hr3 hen ham hks hY hrow hF hhom hF7 hF8 hsum hc
        by_cases hth : T < nh
        · obtain ⟨bh, oh, rfl, hbh, q1, hh0, hh1⟩ := (HH.out.keep HBEL.out) T hth
          have hq : hom = 1 + h T % (m - 1) := by rw [HHM.out, if_pos hth]
          have HQ := Lib.hid hq
          have k0 : (0 : Int) ≤ (T : Int) := by omega
          have k1 : (T : Int) < (nh : Int) := by omega
          have u3 : IntKind.i64.wrap (h T) = h T := IntWalk.i64_in _ (by omega)
          have u4 : (h T).tmod (m - 1) = h T % (m - 1) := Int.tmod_eq_emod_of_nonneg hh0
          have hq1 := Int.emod_nonneg (h T) (show m - 1 ≠ 0 by omega)
          have hq2 := Int.emod_lt_of_pos (h T) (show 0 < m - 1 by omega)
          have u5 : IntKind.i64.wrap (h T % (m - 1)) = h T % (m - 1) := IntWalk.i64_in _ (by omega)
          have u6 : IntKind.i64.wrap (1 + h T % (m - 1)) = 1 + h T % (m - 1) := IntWalk.i64_in _ (by omega)
          clear hq
          go_upto_region 13 with (first
            | (go_at_call 11; with_reducible refine (HE1.out).mono ?_; rintro x1 w1 ⟨rfl, h1⟩
               have q2 := old_at q1 h1)
            | (go_at_call 40; with_reducible refine (HT1.out _).mono ?_; rintro x2 w2 ⟨rfl, h2⟩
               have q3 := old_at q2 h2))
          all_goals (try (exfalso; omega))
          rw [← HQ.out]
          clear q1 q2 q3 u3 u4 u5 u6 hq1 hq2 hh0 hh1 hbh k0 k1
          have H2 := Lib.hid (bel_step (bel_step HBEL.out h1) h2)
          have HR2 := Lib.hid (HR.out.keep H2.out)
          have hkb : w2.heap[w.heap.size]? = some (.cells #[.int .u64 (K 0), .int .u64 (K 1), .int .u64 (K 2), .int .u64 (K 3)] 40 (0, 0)) := (H2.out.block _ (by rw [HWS.out]; omega)).trans HKB.out
          have a0 : w2.cell? ⟨w.heap.size, 0, none⟩ = some (.int .u64 (K 0)) := by rw [cell_of_row _ _ _ _ _ (0, 0) hkb]; rfl
          have a1 : w2.cell? ⟨w.heap.size, 1, none⟩ = some (.int .u64 (K 1)) := by rw [cell_of_row _ _ _ _ _ (0, 0) hkb]; rfl
          have a2 : w2.cell? ⟨w.heap.size, 2, none⟩ = some (.int .u64 (K 2)) := by rw [cell_of_row _ _ _ _ _ (0, 0) hkb]; rfl
          have a3 : w2.cell? ⟨w.heap.size, 3, none⟩ = some (.int .u64 (K 3)) := by rw [cell_of_row _ _ _ _ _ (0, 0) hkb]; rfl
          have HA2 := Lib.hid (bel_step h1 h2)
          clear h1 h2 hkb
          go_upto_region 14 with (first
            | (go_at_call 41; refine (HCL1.out w2 HR2.out).mono ?_; rintro x3 w3 ⟨rfl, h3⟩
               have b0 := old_at a0 h3
               have b1 := old_at a1 h3
               have b2 := old_at a2 h3
               have b3 := old_at a3 h3))
          all_goals (try (exfalso; omega))
          have hbx := RCB.new w3 F
          have hB4 := Lib.hid (bel_alloc (bel_step HA2.out h3) (.cells (rcL F).toArray 53))
          have hK4 : Below w3.heap.size w3 (w3.alloc (.cells (rcL F).toArray 53)) := bel_alloc (Below.refl _ _) _
          unfold rcL at hbx hB4 hK4
          rw [List.toArray] at hbx
          obtain ⟨w4, hw4⟩ : ∃ w4, w3.alloc (.cells #[.int .i64 (F 0), .int .i64 (F 1), .int .i64 (F 2), .int .i64 (F 3), .int .i64 (F 4), .int .i64 (F 5), .int .i64 (F 6), .int .i64 (F 7), .int .i64 (F 8), .int .u64 (F 9), .int .u64 (F 10), .int .u64 (F 11), .int .u64 (F 12)] 53) = w4 := ⟨_, rfl⟩
          rw [hw4] at hbx hB4 hK4 ⊢
          clear hw4
          have n7 : (F 7 != en) = false := by simp [HF7.out]
          have n8 : (F 8 != am) = false := by simp [HF8.out]
          have b0' := old_at b0 hK4
          have b1' := old_at b1 hK4
          have b2' := old_at b2 hK4
          have b3' := old_at b3 hK4
          have HBX := Lib.hid hbx
          obtain ⟨c0, c1, c2, c3, c4, c5, c6, c7, c8, c9, c10, c11, c12⟩ := hbx.get
          clear b0 b1 b2 b3 a0 a1 a2 a3 h3 hK4 hbx
          go_upto_region 16 with (first
            | (go_at_call 42; refine (HCH1.out w4).mono ?_; rintro x5 w5 ⟨rfl, h5⟩
               obtain ⟨e0, e1, e2, e3, e4, e5, e6, e7, e8, e9, e10, e11, e12⟩ := (HBX.out.keep h5).get
               have HO5 := Lib.hid (bel_step hB4.out h5)
               have H5 := Lib.hid (bel_step HBEL.out HO5.out)))
          all_goals (try (exfalso; omega))
          have hs5 := H5.out.size
          have HOW := Lib.hid (own_below HOWN.out HO5.out)
          clear h5 c0 c1 c2 c3 c4 c5 c6 c7 c8 c9 c10 c11 c12 b0' b1' b2' b3' n7 n8
          go_wp2_with (at_builtin; refine wpList_append_lies _ rfl (.tmp 121) (.tmp 123) 43 rfl w0.heap.size 53 r0 _ 13 104 Try.underlying43 HJ.out HY0.out HY1.out HY2.out rfl (by omega) (.slice A9 T c9x) T _ rfl (HOW.out.alloc _) ⟨w5.heap.size, 0, none⟩ 1 1 (rcL F) rfl rfl (World.news_of_block (heap_alloc_new w5 _)) (rcL_one _) (by omega) (by unfold maxLen; omega) (by omega) (by simp; omega) (w5.heap.size + 1) (by simp) ?_; intro g1 cap1 wB hown1 hgrow1 hat1 hlt1; rw [HROW.out] at hown1)
          all_goals (try (exfalso; omega))
          have hbB : Below w0.heap.size w0 wB := (bel_alloc H5.out _).grown hgrow1 (bel_alloc H5.out _).size (own_ge HOW.out)
          exact ⟨⟨s + 1, T + 1, s + 2, _, some ⟨g1, 0, none⟩, cap1, by omega, by go_num, HL1.out, by simp [HT.out], fsts_snoc _ _, rfl, hown1, rfl, by go_num, hbB⟩, by simp [intOf] <;> omega⟩
        · have hq : hom = 1 := by rw [HHM.out, if_neg hth]
          subst hq
          go_upto_region 13 with (first
            | (go_at_call 11; with_reducible refine (HE1.out).mono ?_; rintro x1 w1 ⟨rfl, h1⟩)
            | (go_at_call 40; with_reducible refine (HT1.out _).mono ?_; rintro x2 w2 ⟨rfl, h2⟩))
          all_goals (try (exfalso; omega))
          have H2 := Lib.hid (bel_step (bel_step HBEL.out h1) h2)
          have HR2 := Lib.hid (HR.out.keep H2.out)
          have hkb : w2.heap[w.heap.size]? = some (.cells #[.int .u64 (K 0), .int .u64 (K 1), .int .u64 (K 2), .int .u64 (K 3)] 40 (0, 0)) := (H2.out.block _ (by rw [HWS.out]; omega)).trans HKB.out
          have a0 : w2.cell? ⟨w.heap.size, 0, none⟩ = some (.int .u64 (K 0)) := by rw [cell_of_row _ _ _ _ _ (0, 0) hkb]; rfl
          have a1 : w2.cell? ⟨w.heap.size, 1, none⟩ = some (.int .u64 (K 1)) := by rw [cell_of_row _ _ _ _ _ (0, 0) hkb]; rfl
          have a2 : w2.cell? ⟨w.heap.size, 2, none⟩ = some (.int .u64 (K 2)) := by rw [cell_of_row _ _ _ _ _ (0, 0) hkb]; rfl
          have a3 : w2.cell? ⟨w.heap.size, 3, none⟩ = some (.int .u64 (K 3)) := by rw [cell_of_row _ _ _ _ _ (0, 0) hkb]; rfl
          have HA2 := Lib.hid (bel_step h1 h2)
          clear h1 h2 hkb
          go_upto_region 14 with (first
            | (go_at_call 41; refine (HCL1.out w2 HR2.out).mono ?_; rintro x3 w3 ⟨rfl, h3⟩
               have b0 := old_at a0 h3
               have b1 := old_at a1 h3
               have b2 := old_at a2 h3
               have b3 := old_at a3 h3))
          all_goals (try (exfalso; omega))
          have hbx := RCB.new w3 F
          have hB4 := Lib.hid (bel_alloc (bel_step HA2.out h3) (.cells (rcL F).toArray 53))
          have hK4 : Below w3.heap.size w3 (w3.alloc (.cells (rcL F).toArray 53)) := bel_alloc (Below.refl _ _) _
          unfold rcL at hbx hB4 hK4
          rw [List.toArray] at hbx
          obtain ⟨w4, hw4⟩ : ∃ w4, w3.alloc (.cells #[.int .i64 (F 0), .int .i64 (F 1), .int .i64 (F 2), .int .i64 (F 3), .int .i64 (F 4), .int .i64 (F 5), .int .i64 (F 6), .int .i64 (F 7), .int .i64 (F 8), .int .u64 (F 9), .int .u64 (F 10), .int .u64 (F 11), .int .u64 (F 12)] 53) = w4 := ⟨_, rfl⟩
          rw [hw4] at hbx hB4 hK4 ⊢
          clear hw4
          have n7 : (F 7 != en) = false := by simp [HF7.out]
          have n8 : (F 8 != am) = false := by simp [HF8.out]
          have b0' := old_at b0 hK4
          have b1' := old_at b1 hK4
          have b2' := old_at b2 hK4
          have b3' := old_at b3 hK4
          have HBX := Lib.hid hbx
          obtain ⟨c0, c1, c2, c3, c4, c5, c6, c7, c8, c9, c10, c11, c12⟩ := hbx.get
          clear b0 b1 b2 b3 a0 a1 a2 a3 h3 hK4 hbx
          go_upto_region 16 with (first
            | (go_at_call 42; refine (HCH1.out w4).mono ?_; rintro x5 w5 ⟨rfl, h5⟩
               obtain ⟨e0, e1, e2, e3, e4, e5, e6, e7, e8, e9, e10, e11, e12⟩ := (HBX.out.keep h5).get
               have HO5 := Lib.hid (bel_step hB4.out h5)
               have H5 := Lib.hid (bel_step HBEL.out HO5.out)))
          all_goals (try (exfalso; omega))
          have hs5 := H5.out.size
          have HOW := Lib.hid (own_below HOWN.out HO5.out)
          clear h5 c0 c1 c2 c3 c4 c5 c6 c7 c8 c9 c10 c11 c12 b0' b1' b2' b3' n7 n8
          go_wp2_with (at_builtin; refine wpList_append_lies _ rfl (.tmp 121) (.tmp 123) 43 rfl w0.heap.size 53 r0 _ 13 104 Try.underlying43 HJ.out HY0.out HY1.out HY2.out rfl (by omega) (.slice A9 T c9x) T _ rfl (HOW.out.alloc _) ⟨w5.heap.size, 0, none⟩ 1 1 (rcL F) rfl rfl (World.news_of_block (heap_alloc_new w5 _)) (rcL_one _) (by omega) (by unfold maxLen; omega) (by omega) (by simp; omega) (w5.heap.size + 1) (by simp) ?_; intro g1 cap1 wB hown1 hgrow1 hat1 hlt1; rw [HROW.out] at hown1)
          all_goals (try (exfalso; omega))
          have hbB : Below w0.heap.size w0 wB := (bel_alloc H5.out _).grown hgrow1 (bel_alloc H5.out _).size (own_ge HOW.out)
          exact ⟨⟨s + 1, T + 1, s + 2, _, some ⟨g1, 0, none⟩, cap1, by omega, by go_num, HL1.out, by simp [HT.out], fsts_snoc _ _, rfl, hown1, rfl, by go_num, hbB⟩, by simp [intOf] <;> omega⟩
    · obtain rfl : s = n := by omega
      go_wp2_with fail
      all_goals (try (exfalso; omega))
      go_ret3
      have hT := HT.out
      have hF := HFS.out
      have hLL := HL.out
      subst hLL
      subst hT
      subst hF
      have ho := HOWN.out
      rw [HWS.out] at ho
      exact ⟨A9, c9x, rfl, ho, bel_step HWB.out HBEL.out⟩
end Go.Proofs.Ytkhmlbkkdflnoaa.Rc
