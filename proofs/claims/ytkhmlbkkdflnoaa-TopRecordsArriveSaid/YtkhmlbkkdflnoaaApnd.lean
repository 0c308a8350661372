/-
  THE WALKS over package chain, sixth part: Append.
-/
import Derived.Test.YtkhmlbkkdflnoaaRds
namespace Go.Proofs.Ytkhmlbkkdflnoaa.Ch
open Go.RowKit Go.Shelf
set_option linter.unusedVariables false
set_option linter.unusedSimpArgs false
attribute [local go_sem ↓] Go.wp_at_zero Go.wp_at_succ

/-- the new reading, without its link -/
def bld (s n mi re : Int) : Nat → Int
  | 0 => s
  | 1 => n
  | 2 => mi
  | 3 => re
  | _ => 0
theorem RDB.getb {W : World} {b : Nat} {s n mi re : Int} (h : RDB W b (bld s n mi re)) :
    W.cell? ⟨b, 0, none⟩ = some (.int .i64 s) ∧ W.cell? ⟨b, 1, none⟩ = some (.int .i64 n) ∧ W.cell? ⟨b, 2, none⟩ = some (.int .i64 mi) ∧ W.cell? ⟨b, 3, none⟩ = some (.int .i64 re) ∧ W.cell? ⟨b, 4, none⟩ = some (.int .u64 0) := h.get
theorem own_cap {W : World} {B : Nat} {t : TypeId} {s n : Nat} {a : Addr} {k cap : Nat} {xs : List Value} (h : W.ownsRow B t s (.slice (some a) k cap) n xs) : n ≤ cap ∧ cap ≤ 9223372036854775807 := by
  obtain ⟨A, c, e, h1, _⟩ := own_form h
  cases e
  exact h1
def rdV0 : Value := .agg #[.int .i64 0, .int .i64 0, .int .i64 0, .int .i64 0, .int .u64 0]
theorem heap_grown {W W' : World} {b : Nat} {o : Obj} {g : Option Nat} (h : W.heap[b]? = some o) (hg : W.grownBy W' g) (hne : some b ≠ g) : W'.heap[b]? = some o := (hg.block _ (Array.getElem?_eq_some_iff.1 h).1 hne).trans h
set_option maxRecDepth 100000 in
set_option maxHeartbeats 8000000 in
theorem append_ok (seed : Int) (A : Option Addr) (m c : Nat) (X : Nat → Nat → Int) (s mi re : Int) (w : World) (hA : A = none → m = 0 ∧ c = 0) (hR : RG w A m X) (hch : ∀ i, i < m → chB X seed i = true) (hf : fitsB X m s mi re) :
    Calls Try.prog 33 #[.int .u64 seed, .slice A m c, .int .i64 s, .int .i64 mi, .int .i64 re] w
      fun e w' => ∃ g cap, e = .returned (.tuple #[.slice (some ⟨g, 0, none⟩) (m + 1) cap, .int .i64 0]) ∧ RG w' (some ⟨g, 0, none⟩) (m + 1) (more X m (newR X seed m s mi re)) ∧ (m + 1 ≤ cap ∧ cap ≤ 9223372036854775807) ∧ w.heap.size ≤ g ∧ Below w.heap.size w w' := by
  have hcv : chk X seed m = -1 := by unfold chk; rw [fi_eq (Nat.le_refl m) hch (.inl rfl), if_neg (by omega)]
  have hva : (inB s 1 1000000 && (inB ((m : Int) + 1) 1 64 && (inB mi 0 52560000 && inB re 0 1000000000))) = true := by
    obtain ⟨h1, h2, h3, h4, h5⟩ := hf
    rw [inB_iff.2 h1, inB_iff.2 (show (1 : Int) ≤ (m : Int) + 1 ∧ (m : Int) + 1 ≤ 64 by omega), inB_iff.2 h3, inB_iff.2 h4]; rfl
  have hm63 : m ≤ 63 := hf.2.1
  have HR := Lib.hid hR
  have HCK := Lib.hid (fun W (h : RG W A m X) => check_any seed A m c X W (by omega) h)
  rw [hcv] at HCK
  have HVA := Lib.hid (fun W => valid_any s ((m : Int) + 1) mi re 0 W)
  rw [hva] at HVA
  have HLK := Lib.hid (fun W => link_any (stt X seed m) s ((m : Int) + 1) mi re 0 W)
  have HN4 : Hid (newR X seed m s mi re 4 = lkf (stt X seed m) s ((m : Int) + 1) mi re) := Lib.hid rfl
  have HF := Lib.hid hf
  have e64 : ((m : Int) == 64) = false := by simp; omega
  obtain ⟨r0, hr, hr0, hr1, hr2⟩ := info_parts infoRd
  have HJ := Lib.hid hr
  have HY0 := Lib.hid hr0
  have HY1 := Lib.hid hr1
  have HY2 := Lib.hid hr2
  have hmk : ∀ W : World, (Instr.makeSlice 29 (.int .i64 0) (.int .i64 ((m : Int) + 1))).run Try.prog W = .ok (.slice (some ⟨W.heap.size, 0, none⟩) 0 (m + 1)) (W.alloc (.cells (madeCells (rdV0).cells ((m + 1) * 5)) 58)) := fun W => by
    have := run_make_rowN (P := Try.prog) 29 58 r0 _ Try.underlying29 hr hr0 .i64 .i64 0 (m + 1) (by omega) (by rw [hr2]; omega) (by omega) W
    rw [hr1] at this
    exact this
  obtain ⟨mc, hmc⟩ : ∃ mc, madeCells (rdV0).cells ((m + 1) * 5) = mc := ⟨_, rfl⟩
  have HMC : Hid (mc.size = (m + 1) * 5) := Lib.hid (by rw [← hmc]; simp [madeCells])
  rw [hmc] at hmk
  clear hmc hr hr0 hr1 hr2 hR hch hcv hva hf
  go_enter Try.func33, Try.ntmps33
  go_upto_if 39 with (first
    | (go_at_call 13; with_reducible refine (HCK.out _ (HR.out.keep (bel_alloc (Below.refl _ _) _))).mono ?_; rintro e w1 ⟨rfl, h1⟩
       have hb1 := (RDB.new w (bld s ((m : Int) + 1) mi re)).keep h1
       have H1 := Lib.hid (bel_step (bel_alloc (Below.refl _ _) _) h1)
       obtain ⟨c0, c1, c2, c3, c4⟩ := hb1.getb)
    | (go_at_call 90; with_reducible refine (HVA.out _).mono ?_; rintro e w2 ⟨rfl, h2⟩
       have hb2 := hb1.keep h2
       have H2 := Lib.hid (bel_step H1.out h2)))
  all_goals (try (exfalso; omega))
  clear c0 c1 c2 c3 c4 h1 h2 H1 hb1
  obtain ⟨c0, c1, c2, c3, c4⟩ := hb2.getb
  go_cut [13] (fun v wx => v = .int .u64 (stt X seed m) ∧ RDB wx w.heap.size (bld s ((m : Int) + 1) mi re) ∧ Below w.heap.size w wx)
  case first =>
    rcases Nat.eq_zero_or_pos m with hm0 | hm0
    · have HST : Hid (stt X seed m = seed) := Lib.hid (by simp [stt, hm0])
      have hm1 : m ≤ 0 := by omega
      clear hm0
      go_wp2_with fail
      all_goals (try (exfalso; omega))
      go_meet
      exact ⟨by rw [HST.out], hb2, H2.out⟩
    · obtain ⟨q, hq⟩ : ∃ q, m - 1 = q := ⟨_, rfl⟩
      obtain ⟨f1, f2⟩ := fits_old HF.out hm0
      rw [hq] at f1 f2
      have HST : Hid (stt X seed m = X q 4) := Lib.hid (by unfold stt; rw [if_neg (by omega), hq])
      have wq : IntKind.i64.wrap ((m : Int) - 1) = (q : Int) := by rw [show (m : Int) - 1 = (q : Int) by omega]; exact IntWalk.i64_in _ (by omega)
      have wq2 : (m : Int) - 1 = (q : Int) := by omega
      have j0 : (0 : Int) ≤ (q : Int) := by omega
      have j1 : (q : Int) < (m : Int) := by omega
      have hbl2 := hb2.lt
      have hm1 : 1 ≤ m := hm0
      have HOF := Lib.hid (fun W => old_any (X q 0) (X q 1) (X q 2) (X q 3) (X q 4) s ((m : Int) + 1) mi re 0 W)
      have HLF := Lib.hid (fun W => lat_any (X q 0) (X q 1) (X q 2) (X q 3) (X q 4) s ((m : Int) + 1) mi re 0 W)
      rw [f1] at HOF
      rw [f2] at HLF
      obtain ⟨b, o, rfl, hb, y0, y1, y2, y3, y4⟩ := (HR.out.keep H2.out) q (by omega)
      clear hq hm0 f1 f2
      go_wp2_with (first
        | (go_at_call 91; with_reducible refine (HOF.out _).mono ?_; rintro e w3 ⟨rfl, h3⟩
           have hb3 := (hb2.alloc (.cells (rdL (X q)).toArray 58)).keep h3
           have hl3 := (RDB.new w2 (X q)).keep h3
           have H3 := Lib.hid (bel_step (bel_alloc H2.out _) h3)
           obtain ⟨c0, c1, c2, c3, c4⟩ := hb3.getb
           obtain ⟨d0, d1, d2, d3, d4⟩ := hl3.get)
        | (go_at_call 92; with_reducible refine (HLF.out _).mono ?_; rintro e w4 ⟨rfl, h4⟩
           have hb4 := hb3.keep h4
           have hl4 := hl3.keep h4
           have H4 := Lib.hid (bel_step H3.out h4)
           obtain ⟨d0, d1, d2, d3, d4⟩ := hl4.get))
      all_goals (try (exfalso; omega))
      go_meet
      exact ⟨by rw [HST.out], hb4, H4.out⟩
  case rest =>
    obtain ⟨rfl, hb3, H3⟩ := hcut
    have HB3 := Lib.hid H3
    clear c0 c1 c2 c3 c4 H3 hb2 H2
    obtain ⟨c0, c1, c2, c3, c4⟩ := hb3.getb
    have ft := hb3.thaw 4
    have hbl := hb3.lt
    go_upto_region 17 with (first
      | (go_at_call 38; with_reducible refine (HLK.out _).mono ?_; rintro e w4 ⟨rfl, h4⟩
         have hb4 := hb3.keep h4
         obtain ⟨d0, d1, d2, d3, d4⟩ := hb4.getb
         have ft4 := hb4.thaw 4
         have H4 := Lib.hid (bel_step HB3.out h4)))
    have hbx : RDB (w4.setCell ⟨w.heap.size, 4, none⟩ (.int .u64 (lkf (stt X seed m) s ((m : Int) + 1) mi re))) w.heap.size (newR X seed m s mi re) := hb4.set4 _ _ rfl rfl rfl rfl rfl
    have hw6 : Below w.heap.size w (w4.setCell ⟨w.heap.size, 4, none⟩ (.int .u64 (lkf (stt X seed m) s ((m : Int) + 1) mi re))) := H4.out.setCell (p := ⟨w.heap.size, 4, none⟩) (by simp) _
    obtain ⟨w6, e6⟩ : ∃ w6, w4.setCell ⟨w.heap.size, 4, none⟩ (.int .u64 (lkf (stt X seed m) s ((m : Int) + 1) mi re)) = w6 := ⟨_, rfl⟩
    rw [e6] at hbx hw6 ⊢
    have HBX := Lib.hid hbx
    have HW6 := Lib.hid hw6
    have hbl6 := hbx.lt
    clear hbx hw6 e6 d0 d1 d2 d3 d4 ft4 hb4 hb3 ft hbl h4 H4
    go_upto_region 18 with (fail)
    have HMK := Lib.hid (heap_alloc_new w6 (.cells mc 58))
    have rb := HBX.out.alloc (.cells mc 58)
    have HR5' := HR.out.keep (bel_alloc HW6.out (.cells mc 58))
    have H5' := bel_alloc HW6.out (.cells mc 58)
    have hlt5 : w6.heap.size < (w6.alloc (.cells mc 58)).heap.size := by simp
    obtain ⟨w5, hw5⟩ : ∃ w5, w6.alloc (.cells mc 58) = w5 := ⟨_, rfl⟩
    obtain ⟨b5, hb5⟩ : ∃ b5, w6.heap.size = b5 := ⟨_, rfl⟩
    rw [hw5] at HR5' H5' rb hlt5
    rw [hw5, hb5] at HMK
    rw [hb5] at hbl6 hlt5
    have HR5 := Lib.hid HR5'
    have H5 := Lib.hid H5'
    rw [hw5, hb5]
    have hne : w.heap.size ≠ b5 := by omega
    have hbe := Below.refl w5.heap.size w5
    clear hw5 hb5 hmk HR5' H5' HBX
    go_cut [10, 11] (fun v e wx => ∃ g cap, v = .slice (some ⟨g, 0, none⟩) (m + 1) cap ∧ e = .int .i64 0 ∧ wx.ownsRow b5 58 5 (.slice (some ⟨g, 0, none⟩) (m + 1) cap) (m + 1) (rds (more X m (newR X seed m s mi re)) (m + 1)) ∧ Below b5 w5 wx)
    case first =>
      go_region_held3 (fun w' => w'.cell? ⟨w.heap.size, 0, none⟩ = some (.int .i64 (newR X seed m s mi re 0)) ∧ w'.cell? ⟨w.heap.size, 1, none⟩ = some (.int .i64 (newR X seed m s mi re 1)) ∧ w'.cell? ⟨w.heap.size, 2, none⟩ = some (.int .i64 (newR X seed m s mi re 2)) ∧ w'.cell? ⟨w.heap.size, 3, none⟩ = some (.int .i64 (newR X seed m s mi re 3)) ∧ w'.cell? ⟨w.heap.size, 4, none⟩ = some (.int .u64 (newR X seed m s mi re 4))) (exact RDB.get (by repeat (first | with_reducible exact rb | with_reducible apply RDB.alloc | with_reducible apply RDB.drew)))
        (first
          | (refine step_rds _ (by rfl) (.tmp 62) (.tmp 63) 29 (by rfl) b5 58 r0 _ 40 Try.underlying29 HJ.out HY0.out HY1.out HY2.out (by rfl) _ 0 [] (by rfl) (own_at0 (by first | exact HMK.out | exact (Below.heap_alloc _ _ _ (by omega)).trans HMK.out) (Nat.le_refl _) (by unfold maxLen; omega) HMC.out) A m c X (by rfl) hA (HR5.out.keep (by repeat (first | with_reducible exact hbe | with_reducible apply bel_alloc | with_reducible apply Below.drew | with_reducible apply below_drewN))) m (by omega) (by unfold maxLen; omega) (by omega) (by first | omega | (simp <;> omega)) ?_; intro vA wA hown1 hgrow1; rw [List.nil_append] at hown1; (try (have mz : RDB wA w5.heap.size (newR X seed m s mi re) := RDB.grown (W := (w5.alloc _).drew) (RDB.new w5 _) hgrow1 (fun e => by simp [Value.ownBlock] at e; omega))); have rb := RDB.grown (by repeat (first | with_reducible exact rb | with_reducible apply RDB.alloc | with_reducible apply RDB.drew)) hgrow1 (fun e => by simp [Value.ownBlock] at e; omega); have hbA : Below b5 w5 wA := Below.grown (Below.mono (by repeat (first | with_reducible exact hbe | with_reducible apply bel_alloc | with_reducible apply Below.drew | with_reducible apply below_drewN)) (by omega)) hgrow1 (by first | omega | (simp <;> omega)) (row_ge (Nat.le_refl _)); have hszA := hbA.size)
          | (refine step_app _ (by rfl) (.tmp 64) (.tmp 66) 29 (by rfl) b5 58 r0 _ 5 40 Try.underlying29 HJ.out HY0.out HY1.out HY2.out (by rfl) (by omega) vA m _ (by rfl) (by first | exact hown1 | exact hown1.alloc _) _ 1 1 (rdL (newR X seed m s mi re)) (by rfl) (by rfl) (by first | exact RDB.news mz | exact RDB.news (RDB.new wA _)) (rdL_one _) (m + 1) (by omega) (by omega) (by unfold maxLen; omega) (by omega) (by first | omega | (simp <;> omega)) ?_; intro g cap wB hown2 hgrow2 hg2 hlt2; rw [more_rds] at hown2; have rb := RDB.grown (by repeat (first | with_reducible exact rb | with_reducible apply RDB.alloc | with_reducible apply RDB.drew)) hgrow2 (fun e => by have := own_ge hown1 _ e.symm; omega); have hbB : Below b5 w5 wB := Below.grown (by first | exact hbA | exact hbA.alloc (by omega) _) hgrow2 (by first | omega | (simp <;> omega)) (own_ge hown1)))
      all_goals ((try go_wp2_with fail); go_meet; exact ⟨g, cap, rfl, rfl, hown2, hbB⟩)
    case rest =>
      obtain ⟨g, cap, rfl, rfl, hown, hbx⟩ := hcut
      obtain ⟨g', cap', hv, _, _⟩ := hown.form (by omega)
      have hcap := own_cap hown
      have hge : w.heap.size ≤ g := by have := own_ge hown g rfl; omega
      have HOWN := Lib.hid hown
      have HBX := Lib.hid hbx
      clear hown hbx hv
      go_wp2_with fail
      all_goals (try (exfalso; omega))
      go_ret2
      exact ⟨g, cap, rfl, RG_own HOWN.out, hcap, hge, H5.out.trans (HBX.out.mono (by omega))⟩
end Go.Proofs.Ytkhmlbkkdflnoaa.Ch
