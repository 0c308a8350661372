/-
  THE WALKS OF THE LAWS over package fuse, fifth part: FuseRest.
-/
import Derived.Test.YthjclpfddfjfhaaLawsd
import Derived.Test.YthjclpfddfjfhaaFits
namespace Go.Proofs.Ythjclpfddfjfhaa
open Go.RowKit
set_option linter.unusedVariables false
attribute [local go_sem ↓] Go.wp_at_zero Go.wp_at_succ

theorem made_zero (n : Nat) : madeCells (Value.int .i64 0).cells n = (nums (fun _ => 0) n).toArray := by
  apply Array.ext
  · simp [size_madeCells, nums_length]
  · intro i h1 h2
    simp [madeCells, nums, Value.cells, Nat.mod_one]
theorem own_made {w : World} {base g T c : Nat} (hb : base ≤ g) (hT : T ≤ c) (hc : c ≤ maxLen) (h : w.heap[g]? = some (.cells (madeCells (Value.int .i64 0).cells c) 3 (0, 0))) :
    w.ownsRow base 3 1 (.slice (some ⟨g, 0, none⟩) T c) T (nums (fun _ => 0) T) :=
  ⟨by simp [nums_length], .inr ⟨g, c, _, rfl, hb, h, hT, hc, by simp [size_madeCells], by
    rw [made_zero]
    simp only [Nat.mul_one, nums]
    rw [← List.map_take, List.take_range, Nat.min_eq_left hT]⟩⟩
theorem nums_sh (z : Nat → Int) (T len : Nat) : nums (fun _ => 0) T ++ nums z len = nums (sh T z) (T + len) := by
  apply List.ext_getElem?
  intro i
  by_cases h1 : i < T
  · rw [List.getElem?_append_left (by rw [nums_length]; exact h1), nums_get _ _ _ h1, nums_get _ _ _ (by omega)]
    simp [sh, h1]
  · rw [List.getElem?_append_right (by rw [nums_length]; omega), nums_length]
    by_cases h2 : i < T + len
    · rw [nums_get _ _ _ (by omega), nums_get _ _ _ h2]
      simp [sh, h1]
    · rw [List.getElem?_eq_none (by rw [nums_length]; omega), List.getElem?_eq_none (by rw [nums_length]; omega)]
theorem allB_sh (z : Nat → Int) (T len : Nat) : allB (sh T z) (T + len) = allB z len := by
  rw [Bool.eq_iff_iff, allB_iff, allB_iff]
  constructor
  · intro h i hi
    have := h (T + i) (by omega)
    simp only [sh] at this
    rw [if_neg (by omega), show T + i - T = i by omega] at this
    exact this
  · intro h i hi
    simp only [sh]
    split
    · omega
    · exact h (i - T) (by omega)
theorem RZ_news {w : World} {A : Option Addr} {len : Nat} {z : Nat → Int} (x : RZ w A len z) : ∀ ad, A = some ad → ∀ j u, (nums z len)[j]? = some u → w.cell? (ad.add j) = some u := by
  intro ad had j u hu
  have hj : j < len := by
    have := (List.getElem?_eq_some_iff.1 hu).1
    simpa [nums_length] using this
  obtain ⟨b, o, e, _, hc⟩ := x j hj
  rw [had] at e
  cases e
  rw [nums_get _ _ _ hj] at hu
  cases hu
  rw [Addr.add_lit]
  exact hc
theorem rest_step {r h s : Int} (h0 : nE r h s 0 = 0) : nH r s 0 = max 0 (s - r * r) ∧ nE r h (nH r s 0) 0 = 0 := by
  have hx := nE_iff.1 h0
  have hvb := vF_iff.1 hx.1
  have h1 : 0 ≤ r * r := Int.mul_nonneg (by omega) (by omega)
  have e : nH r s 0 = max 0 (s - r * r) := by
    unfold nH
    split
    · rename_i hr; subst hr; simp; omega
    · simp; omega
  refine ⟨e, nE_iff.2 ⟨hx.1, ?_, hx.2.2⟩⟩
  rw [e]
  omega
set_option maxHeartbeats 2000000 in
set_option maxRecDepth 100000 in
theorem rest_no (r h : Int) (A : Option Addr) (len cap : Nat) (z : Nat → Int) (q t : Int) (w : World) (hl : len ≤ 9223372036854775807) (hR : RZ w A len z) (hg : 5000 < len ∨ q < 0 ∨ 5000 < q) :
    Calls Try.prog 8 #[.agg #[.int .i64 r, .int .i64 h], .slice A len cap, .int .i64 q, .int .i64 t] w fun e w' => e = .returned (.bool true) ∧ Below w.heap.size w w' := by
  have HG := Lib.hid hg
  clear hg
  go_enter Try.func8, Try.ntmps8
  go_wp2_with fail
  refine (head_any _).mono ?_
  rintro e w1 ⟨rfl, hb⟩
  have mf := (FB.new w r h).keep hb
  obtain ⟨c0, c1⟩ := mf.cells
  have h0 := bel_step (bel_alloc (Below.refl w.heap.size w) _) hb
  clear hb
  go_wp2_with fail
  all_goals first
    | (go_ret; exact ⟨rfl, h0⟩)
    | (exfalso; have := HG.out; omega)
set_option maxHeartbeats 2000000 in
set_option maxRecDepth 100000 in
theorem rest_y (r h : Int) (A : Option Addr) (len cap : Nat) (z : Nat → Int) (T : Nat) (t : Int) (w : World) (hl : len ≤ 5000) (hR : RZ w A len z) (hA : A = none → len = 0 ∧ cap = 0) (hT : T ≤ 5000) (ha : (vF r h && allB z len) = true) :
    Calls Try.prog 8 #[.agg #[.int .i64 r, .int .i64 h], .slice A len cap, .int .i64 (T : Int), .int .i64 t] w fun e w' => e = .returned (.bool true) ∧ Below w.heap.size w w' := by
  have HR := Lib.hid hR
  clear hR
  have HA := Lib.hid hA
  clear hA
  obtain ⟨i0, hi, hz0, hz1, hz2⟩ := info_parts infoInt
  have HI := Lib.hid hi
  have HZ1 := Lib.hid hz1
  have hmk0 : ∀ W : World, (Instr.makeSlice 24 (.int .i64 (T : Int)) (.int .i64 ((T : Int) + (len : Int)))).run Try.prog W = .ok (.slice (some ⟨W.heap.size, 0, none⟩) T (T + len)) (W.alloc (.cells (madeCells (Value.int .i64 0).cells (T + len)) 3)) := fun W => by
    have := run_make_rowN (P := Try.prog) 24 3 i0 _ Try.underlying24 hi hz0 .i64 .i64 T (T + len) (by omega) (by rw [hz2]; omega) (by omega) W
    rw [hz1, Nat.mul_one, Int.natCast_add] at this
    exact this
  obtain ⟨mc, hmc⟩ : ∃ mc, madeCells (Value.int .i64 0).cells (T + len) = mc := ⟨_, rfl⟩
  rw [hmc] at hmk0
  have HMC := Lib.hid hmc
  clear hi hz0 hz1 hz2 hmc
  have hx : vF r h = true ∧ allB z len = true := by simpa using ha
  have hvb := vF_iff.1 hx.1
  have ha2 : allB (sh T z) (T + len) = true := by rw [allB_sh]; exact hx.2
  obtain ⟨m1, hm1⟩ : ∃ m, mt r h z len = m := ⟨_, rfl⟩
  have hmm := mt_rest (r := r) (h := h) (z := z) (t := T) (by omega) (by omega) len
  obtain ⟨m2, hm2⟩ : ∃ m, mt r h (sh T z) (T + len) = m := ⟨_, rfl⟩
  rw [hm1, hm2] at hmm
  have hmb := mt_bd r h z len
  rw [hm1] at hmb
  have hmz : (m1 = -1 ∧ m2 = -1) ∨ (0 ≤ m1 ∧ m2 = m1 + T) := by
    split at hmm
    · exact .inr ⟨by assumption, hmm⟩
    · exact .inl ⟨by omega, hmm⟩
  have HM1 := Lib.hid hm1
  have HMM := Lib.hid hm2
  have HMZ := Lib.hid hmz
  have hv := hx.1
  have hal := hx.2
  have HVB := Lib.hid hvb
  clear hm1 hmm hx ha hvb hm2 hmz
  go_enter Try.func8, Try.ntmps8
  go_wp2_with fail
  refine (head_any _).mono ?_
  rintro e w1 ⟨rfl, hb⟩
  have mf := (FB.new w r h).keep hb
  obtain ⟨c0, c1⟩ := mf.cells
  have h0 := bel_step (bel_alloc (Below.refl w.heap.size w) _) hb
  clear hb
  go_wp2_with fail
  all_goals (try (exfalso; omega))
  refine (melts_ok r h A len cap z _ (by omega) (HR.out.keep h0) hv hal).mono ?_
  rintro e w2 ⟨rfl, hb⟩
  have mf := mf.keep hb
  have h0 := bel_step h0 hb
  clear hb c0 c1
  obtain ⟨c0, c1⟩ := mf.cells
  have hws := h0.size
  have hfl := mf.lt
  have hR2 := Lib.hid (HR.out.keep h0)
  have u1 : IntKind.i64.wrap ((T : Int) + (len : Int)) = (T : Int) + (len : Int) := IntWalk.i64_in _ (by omega)
  go_wp2_with fail
  rw [HM1.out]
  go_region_held3 (fun w' => w'.cell? ⟨w.heap.size, 0, none⟩ = some (.int .i64 r) ∧ w'.cell? ⟨w.heap.size, 1, none⟩ = some (.int .i64 h)) (first | go_keep | exact ⟨d0, d1⟩)
    (first
      | (refine step_fits _ (by rfl) (.tmp 43) (.tmp 44) 24 (by rfl) w2.heap.size 3 i0 1 Try.underlying24 HI.out HZ1.out w2.heap.size T (T + len) _ (by rfl) (own_made (Nat.le_refl _) (by omega) (by unfold maxLen; omega) (by rw [HMC.out]; exact heap_alloc_new w2 _)) A len cap (nums z len) (by rfl) (by rw [nums_length, Nat.mul_one]) HA.out (RZ_news (hR2.out.keep (by repeat (first | exact Below.refl _ _ | apply bel_alloc | apply Below.drew)))) (nums_one _ _) (T + len) (by omega) (by omega) ?_; intro wA hown1 hgrow1; rw [nums_sh] at hown1; have hA2 : Below w2.heap.size w2 wA := ((bel_alloc (Below.refl w2.heap.size w2) _).drew).grown hgrow1 (by simp) (fun g hg => by cases hg; exact Nat.le_refl _); obtain ⟨d0, d1⟩ := (mf.keep hA2).cells)
      | (go_at_call 13; refine (melts_ok r h (some ⟨w2.heap.size, 0, none⟩) (T + len) (T + len) (sh T z) _ (by omega) (RZ_own hown1) hv ha2).mono ?_; rintro e w3 ⟨rfl, hb3⟩; have h3 := bel_step hA2 hb3; clear hb3; clear d0 d1; obtain ⟨d0, d1⟩ := (mf.keep h3).cells; rw [HMM.out]))
  have mf := mf.keep h3
  have h4 := bel_step h0 h3
  clear c0 c1 d0 d1 hmk0
  rcases HMZ.out with hz | hz
  · obtain ⟨rfl, rfl⟩ := hz
    go_wp2_with fail
    go_loopw [3, 9, 14] (fun x u i wr => ∃ (k : Nat) (s : Int), k ≤ T ∧ i = .int .i64 k ∧ x = .int .i64 s ∧ u = .bool true ∧ (k = 0 ∨ nE r h s 0 = 0) ∧ Below w3.heap.size w3 wr) (fun _ _ i _ => T - (intOf i).toNat)
    case atStart => exact ⟨0, t, Nat.zero_le _, rfl, rfl, rfl, .inl rfl, Below.refl _ _⟩
    case round =>
      obtain ⟨k, s, hk, rfl, rfl, rfl, hks, hbw⟩ := hrel
      have HKS := Lib.hid hks
      clear hks
      obtain ⟨c0, c1⟩ := (mf.keep hbw).cells
      by_cases hlt : k < T
      · by_cases hn : nE r h s 0 = 0
        · have hst := rest_step hn
          have hx := nE_iff.1 hn
          have hvb := vF_iff.1 hx.1
          have hr2 := sq_bd (a := r) (by omega)
          have HN := Lib.hid hn
          have HS := Lib.hid hst.2
          have hsb := hx.2.1
          have hh9 : h ≤ 1000000000 := by omega
          clear hn
          by_cases hp : 0 < s - r * r
          · have HV : Hid (nH r s 0 = s - r * r) := by show _ = _; rw [hst.1]; omega
            have hlt2 : s - r * r < s := by
              rcases hvb with hb | hb
              · obtain ⟨rfl, rfl⟩ := hb; omega
              · have : 1 * 1 ≤ r * r := Int.mul_le_mul hb.1.1 hb.1.1 (by omega) (by omega)
                omega
            clear hst hx hvb
            go_wp2_with fail
            refine (next_ok r h s 0 _ HN.out).mono ?_
            rintro e w5 ⟨rfl, hb5⟩
            have h5 := bel_step hbw hb5
            clear hb5 c0 c1
            obtain ⟨c0, c1⟩ := (mf.keep h5).cells
            rw [HV.out]
            go_wp2_with fail
            go_roundw
            case rel => exact ⟨k + 1, _, by omega, by go_num, rfl, rfl, .inr (by have hq := HS.out; rw [HV.out] at hq; exact hq), h5⟩
            case measure => simp [intOf] <;> omega
          · have HV : Hid (nH r s 0 = 0) := by show _ = _; rw [hst.1]; omega
            have hp2 : s - r * r ≤ 0 := by omega
            clear hst hx hvb
            go_wp2_with fail
            refine (next_ok r h s 0 _ HN.out).mono ?_
            rintro e w5 ⟨rfl, hb5⟩
            have h5 := bel_step hbw hb5
            clear hb5 c0 c1
            obtain ⟨c0, c1⟩ := (mf.keep h5).cells
            rw [HV.out]
            by_cases hs0 : 0 < s
            · go_wp2_with fail
              go_roundw
              case rel => exact ⟨k + 1, _, by omega, by go_num, rfl, rfl, .inr (by have hq := HS.out; rw [HV.out] at hq; exact hq), h5⟩
              case measure => simp [intOf] <;> omega
            · have hs1 : s ≤ 0 := by omega
              go_wp2_with fail
              go_roundw
              case rel => exact ⟨k + 1, _, by omega, by go_num, rfl, rfl, .inr (by have hq := HS.out; rw [HV.out] at hq; exact hq), h5⟩
              case measure => simp [intOf] <;> omega
        · obtain rfl : k = 0 := by rcases HKS.out with hq | hq; exact hq; exact absurd hq hn
          go_wp2_with fail
          refine (next_bad r h s 0 _ hn).mono ?_
          rintro e w5 ⟨rfl, hb5⟩
          have h5 := bel_step hbw hb5
          clear hb5 c0 c1
          go_wp2_with fail
          go_ret
          exact ⟨rfl, bel_step h4 h5⟩
      · go_wp2_with fail
        go_ret
        exact ⟨rfl, bel_step h4 hbw⟩
  · obtain ⟨hz1, rfl⟩ := hz
    have s1 : (m1 == (-1 : Int)) = false := by simp; omega
    go_wp2_with fail
    go_loopw [3, 9, 14] (fun x u i wr => ∃ (k : Nat) (s : Int), k ≤ T ∧ i = .int .i64 k ∧ x = .int .i64 s ∧ u = .bool true ∧ (k = 0 ∨ nE r h s 0 = 0) ∧ Below w3.heap.size w3 wr) (fun _ _ i _ => T - (intOf i).toNat)
    case atStart => exact ⟨0, t, Nat.zero_le _, rfl, rfl, rfl, .inl rfl, Below.refl _ _⟩
    case round =>
      obtain ⟨k, s, hk, rfl, rfl, rfl, hks, hbw⟩ := hrel
      have HKS := Lib.hid hks
      clear hks
      obtain ⟨c0, c1⟩ := (mf.keep hbw).cells
      by_cases hlt : k < T
      · by_cases hn : nE r h s 0 = 0
        · have hst := rest_step hn
          have hx := nE_iff.1 hn
          have hvb := vF_iff.1 hx.1
          have hr2 := sq_bd (a := r) (by omega)
          have HN := Lib.hid hn
          have HS := Lib.hid hst.2
          have hsb := hx.2.1
          have hh9 : h ≤ 1000000000 := by omega
          clear hn
          by_cases hp : 0 < s - r * r
          · have HV : Hid (nH r s 0 = s - r * r) := by show _ = _; rw [hst.1]; omega
            have hlt2 : s - r * r < s := by
              rcases hvb with hb | hb
              · obtain ⟨rfl, rfl⟩ := hb; omega
              · have : 1 * 1 ≤ r * r := Int.mul_le_mul hb.1.1 hb.1.1 (by omega) (by omega)
                omega
            clear hst hx hvb
            go_wp2_with fail
            refine (next_ok r h s 0 _ HN.out).mono ?_
            rintro e w5 ⟨rfl, hb5⟩
            have h5 := bel_step hbw hb5
            clear hb5 c0 c1
            obtain ⟨c0, c1⟩ := (mf.keep h5).cells
            rw [HV.out]
            go_wp2_with fail
            go_roundw
            case rel => exact ⟨k + 1, _, by omega, by go_num, rfl, rfl, .inr (by have hq := HS.out; rw [HV.out] at hq; exact hq), h5⟩
            case measure => simp [intOf] <;> omega
          · have HV : Hid (nH r s 0 = 0) := by show _ = _; rw [hst.1]; omega
            have hp2 : s - r * r ≤ 0 := by omega
            clear hst hx hvb
            go_wp2_with fail
            refine (next_ok r h s 0 _ HN.out).mono ?_
            rintro e w5 ⟨rfl, hb5⟩
            have h5 := bel_step hbw hb5
            clear hb5 c0 c1
            obtain ⟨c0, c1⟩ := (mf.keep h5).cells
            rw [HV.out]
            by_cases hs0 : 0 < s
            · go_wp2_with fail
              go_roundw
              case rel => exact ⟨k + 1, _, by omega, by go_num, rfl, rfl, .inr (by have hq := HS.out; rw [HV.out] at hq; exact hq), h5⟩
              case measure => simp [intOf] <;> omega
            · have hs1 : s ≤ 0 := by omega
              go_wp2_with fail
              go_roundw
              case rel => exact ⟨k + 1, _, by omega, by go_num, rfl, rfl, .inr (by have hq := HS.out; rw [HV.out] at hq; exact hq), h5⟩
              case measure => simp [intOf] <;> omega
        · obtain rfl : k = 0 := by rcases HKS.out with hq | hq; exact hq; exact absurd hq hn
          go_wp2_with fail
          refine (next_bad r h s 0 _ hn).mono ?_
          rintro e w5 ⟨rfl, hb5⟩
          have h5 := bel_step hbw hb5
          clear hb5 c0 c1
          go_wp2_with fail
          go_ret
          exact ⟨rfl, bel_step h4 h5⟩
      · go_wp2_with fail
        go_ret
        exact ⟨rfl, bel_step h4 hbw⟩
set_option maxHeartbeats 2000000 in
set_option maxRecDepth 100000 in
theorem rest_n (r h : Int) (A : Option Addr) (len cap : Nat) (z : Nat → Int) (T : Nat) (t : Int) (w : World) (hl : len ≤ 5000) (hR : RZ w A len z) (hA : A = none → len = 0 ∧ cap = 0) (hT : T ≤ 5000) (ha : (vF r h && allB z len) = false) :
    Calls Try.prog 8 #[.agg #[.int .i64 r, .int .i64 h], .slice A len cap, .int .i64 (T : Int), .int .i64 t] w fun e w' => e = .returned (.bool true) ∧ Below w.heap.size w w' := by
  have HR := Lib.hid hR
  clear hR
  have HA := Lib.hid hA
  clear hA
  obtain ⟨i0, hi, hz0, hz1, hz2⟩ := info_parts infoInt
  have HI := Lib.hid hi
  have HZ1 := Lib.hid hz1
  have hmk0 : ∀ W : World, (Instr.makeSlice 24 (.int .i64 (T : Int)) (.int .i64 ((T : Int) + (len : Int)))).run Try.prog W = .ok (.slice (some ⟨W.heap.size, 0, none⟩) T (T + len)) (W.alloc (.cells (madeCells (Value.int .i64 0).cells (T + len)) 3)) := fun W => by
    have := run_make_rowN (P := Try.prog) 24 3 i0 _ Try.underlying24 hi hz0 .i64 .i64 T (T + len) (by omega) (by rw [hz2]; omega) (by omega) W
    rw [hz1, Nat.mul_one, Int.natCast_add] at this
    exact this
  obtain ⟨mc, hmc⟩ : ∃ mc, madeCells (Value.int .i64 0).cells (T + len) = mc := ⟨_, rfl⟩
  rw [hmc] at hmk0
  have HMC := Lib.hid hmc
  clear hi hz0 hz1 hz2 hmc
  have ha2 : (vF r h && allB (sh T z) (T + len)) = false := by rw [allB_sh]; exact ha
  have HAA := Lib.hid ha
  have HA2 := Lib.hid ha2
  clear ha ha2
  go_enter Try.func8, Try.ntmps8
  go_wp2_with fail
  refine (head_any _).mono ?_
  rintro e w1 ⟨rfl, hb⟩
  have mf := (FB.new w r h).keep hb
  obtain ⟨c0, c1⟩ := mf.cells
  have h0 := bel_step (bel_alloc (Below.refl w.heap.size w) _) hb
  clear hb
  go_wp2_with fail
  all_goals (try (exfalso; omega))
  refine (melts_bad r h A len cap z _ (by omega) (HR.out.keep h0) HAA.out).mono ?_
  rintro e w2 ⟨rfl, hb⟩
  have mf := mf.keep hb
  have h0 := bel_step h0 hb
  clear hb c0 c1
  obtain ⟨c0, c1⟩ := mf.cells
  have hws := h0.size
  have hfl := mf.lt
  have hR2 := Lib.hid (HR.out.keep h0)
  have u1 : IntKind.i64.wrap ((T : Int) + (len : Int)) = (T : Int) + (len : Int) := IntWalk.i64_in _ (by omega)
  go_wp2_with fail
  go_region_held3 (fun w' => w'.cell? ⟨w.heap.size, 0, none⟩ = some (.int .i64 r) ∧ w'.cell? ⟨w.heap.size, 1, none⟩ = some (.int .i64 h)) (first | go_keep | exact ⟨d0, d1⟩)
    (first
      | (refine step_fits _ (by rfl) (.tmp 43) (.tmp 44) 24 (by rfl) w2.heap.size 3 i0 1 Try.underlying24 HI.out HZ1.out w2.heap.size T (T + len) _ (by rfl) (own_made (Nat.le_refl _) (by omega) (by unfold maxLen; omega) (by rw [HMC.out]; exact heap_alloc_new w2 _)) A len cap (nums z len) (by rfl) (by rw [nums_length, Nat.mul_one]) HA.out (RZ_news (hR2.out.keep (by repeat (first | exact Below.refl _ _ | apply bel_alloc | apply Below.drew)))) (nums_one _ _) (T + len) (by omega) (by omega) ?_; intro wA hown1 hgrow1; rw [nums_sh] at hown1; have hA2 : Below w2.heap.size w2 wA := ((bel_alloc (Below.refl w2.heap.size w2) _).drew).grown hgrow1 (by simp) (fun g hg => by cases hg; exact Nat.le_refl _); obtain ⟨d0, d1⟩ := (mf.keep hA2).cells)
      | (go_at_call 13; refine (melts_bad r h (some ⟨w2.heap.size, 0, none⟩) (T + len) (T + len) (sh T z) _ (by omega) (RZ_own hown1) HA2.out).mono ?_; rintro e w3 ⟨rfl, hb3⟩; have h3 := bel_step hA2 hb3; clear hb3; clear d0 d1; obtain ⟨d0, d1⟩ := (mf.keep h3).cells))
  have mf := mf.keep h3
  have h4 := bel_step h0 h3
  clear c0 c1 d0 d1 hmk0
  go_wp2_with fail
  go_loopw [3, 9, 14] (fun x u i wr => ∃ (k : Nat) (s : Int), k ≤ T ∧ i = .int .i64 k ∧ x = .int .i64 s ∧ u = .bool true ∧ (k = 0 ∨ nE r h s 0 = 0) ∧ Below w3.heap.size w3 wr) (fun _ _ i _ => T - (intOf i).toNat)
  case atStart => exact ⟨0, t, Nat.zero_le _, rfl, rfl, rfl, .inl rfl, Below.refl _ _⟩
  case round =>
    obtain ⟨k, s, hk, rfl, rfl, rfl, hks, hbw⟩ := hrel
    have HKS := Lib.hid hks
    clear hks
    obtain ⟨c0, c1⟩ := (mf.keep hbw).cells
    by_cases hlt : k < T
    · by_cases hn : nE r h s 0 = 0
      · have hst := rest_step hn
        have hx := nE_iff.1 hn
        have hvb := vF_iff.1 hx.1
        have hr2 := sq_bd (a := r) (by omega)
        have HN := Lib.hid hn
        have HS := Lib.hid hst.2
        have hsb := hx.2.1
        have hh9 : h ≤ 1000000000 := by omega
        clear hn
        by_cases hp : 0 < s - r * r
        · have HV : Hid (nH r s 0 = s - r * r) := by show _ = _; rw [hst.1]; omega
          have hlt2 : s - r * r < s := by
            rcases hvb with hb | hb
            · obtain ⟨rfl, rfl⟩ := hb; omega
            · have : 1 * 1 ≤ r * r := Int.mul_le_mul hb.1.1 hb.1.1 (by omega) (by omega)
              omega
          clear hst hx hvb
          go_wp2_with fail
          refine (next_ok r h s 0 _ HN.out).mono ?_
          rintro e w5 ⟨rfl, hb5⟩
          have h5 := bel_step hbw hb5
          clear hb5 c0 c1
          obtain ⟨c0, c1⟩ := (mf.keep h5).cells
          rw [HV.out]
          go_wp2_with fail
          go_roundw
          case rel => exact ⟨k + 1, _, by omega, by go_num, rfl, rfl, .inr (by have hq := HS.out; rw [HV.out] at hq; exact hq), h5⟩
          case measure => simp [intOf] <;> omega
        · have HV : Hid (nH r s 0 = 0) := by show _ = _; rw [hst.1]; omega
          have hp2 : s - r * r ≤ 0 := by omega
          clear hst hx hvb
          go_wp2_with fail
          refine (next_ok r h s 0 _ HN.out).mono ?_
          rintro e w5 ⟨rfl, hb5⟩
          have h5 := bel_step hbw hb5
          clear hb5 c0 c1
          obtain ⟨c0, c1⟩ := (mf.keep h5).cells
          rw [HV.out]
          by_cases hs0 : 0 < s
          · go_wp2_with fail
            go_roundw
            case rel => exact ⟨k + 1, _, by omega, by go_num, rfl, rfl, .inr (by have hq := HS.out; rw [HV.out] at hq; exact hq), h5⟩
            case measure => simp [intOf] <;> omega
          · have hs1 : s ≤ 0 := by omega
            go_wp2_with fail
            go_roundw
            case rel => exact ⟨k + 1, _, by omega, by go_num, rfl, rfl, .inr (by have hq := HS.out; rw [HV.out] at hq; exact hq), h5⟩
            case measure => simp [intOf] <;> omega
      · obtain rfl : k = 0 := by rcases HKS.out with hq | hq; exact hq; exact absurd hq hn
        go_wp2_with fail
        refine (next_bad r h s 0 _ hn).mono ?_
        rintro e w5 ⟨rfl, hb5⟩
        have h5 := bel_step hbw hb5
        clear hb5 c0 c1
        go_wp2_with fail
        go_ret
        exact ⟨rfl, bel_step h4 h5⟩
    · go_wp2_with fail
      go_ret
      exact ⟨rfl, bel_step h4 hbw⟩
theorem walk_rest (r h : Int) (A : Option Addr) (len cap : Nat) (z : Nat → Int) (q t : Int) (w : World) (hl : len ≤ 9223372036854775807) (hR : RZ w A len z) (hA : A = none → len = 0 ∧ cap = 0) :
    Calls Try.prog 8 #[.agg #[.int .i64 r, .int .i64 h], .slice A len cap, .int .i64 q, .int .i64 t] w fun e w' => e = .returned (.bool true) ∧ Below w.heap.size w w' := by
  by_cases hg : 5000 < len ∨ q < 0 ∨ 5000 < q
  · exact rest_no r h A len cap z q t w hl hR hg
  · obtain ⟨T, rfl⟩ := Int.eq_ofNat_of_zero_le (show 0 ≤ q by omega)
    cases ha : (vF r h && allB z len)
    · exact rest_n r h A len cap z T t w (by omega) hR hA (by omega) ha
    · exact rest_y r h A len cap z T t w (by omega) hR hA (by omega) ha
end Go.Proofs.Ythjclpfddfjfhaa
