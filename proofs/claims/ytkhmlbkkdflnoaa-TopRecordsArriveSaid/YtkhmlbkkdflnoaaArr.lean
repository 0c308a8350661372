/-
  THE WALK over TopRecordsArrive.
-/
import Derived.Test.YtkhmlbkkdflnoaaArrC
import Derived.Test.YtkhmlbkkdflnoaaSes
namespace Go.Proofs.Ytkhmlbkkdflnoaa.Hb
open Go.RowKit Go.Maps
open Rc (rcL rcs rcL_one RR_own own_below UO)
set_option linter.unusedVariables false
set_option linter.unusedSimpArgs false
attribute [local go_sem ↓] Go.wp_at_zero Go.wp_at_succ

theorem bel_gb {w w' : World} (h : Below w.heap.size w w') : w.grownBy w' none := ⟨h.os, h.tape, h.output, h.size, fun k hk _ => h.block k hk⟩
/-- the state between two messages -/
def AR (W5 : World) (bm n no : Nat) (X : Nat → Nat → Int) (vb vg vi : Value) (W : World) : Prop :=
  ∃ (j T q : Nat) (f : Nat → Int) (S : List Nat) (A9 : Option Addr) (c9 : Nat), j ≤ no ∧ vi = .int .i64 (j : Int) ∧ ST n T q f S ∧ BV W vb T q f ∧ vg = .slice A9 T c9 ∧ W.ownsRow (bm + 1) 53 13 (.slice A9 T c9) T (rcs X T) ∧ IM W bm j S ∧ Below bm W5 W
/-- the state between two records that are handed over -/
def IR (bm : Nat) (w2 : World) (L U T R j : Nat) (X : Nat → Nat → Int) (S : List Nat) (v : Value) (q : Nat) (f : Nat → Int) (Ao : Option Addr) (vg vi : Value) (W : World) : Prop :=
  ∃ (i : Nat) (A9 : Option Addr) (c9 : Nat), i ≤ R ∧ vi = .int .i64 (i : Int) ∧ vg = .slice A9 (T + i) c9 ∧ W.ownsRow (bm + 1) 53 13 (.slice A9 (T + i) c9) (T + i) (rcs X (T + i)) ∧ FB L U W v (T + R) q f Ao R (mg (fun i => (T : Int) + 1 + i)) ∧ IM W bm j S ∧ Below bm w2 W ∧ U ≤ W.heap.size ∧ ∀ g, (Value.slice A9 (T + i) c9).ownBlock = some g → g < L ∨ U ≤ g
set_option maxRecDepth 100000 in
set_option maxHeartbeats 8000000 in
theorem arr_all (A : Option Addr) (n c : Nat) (X : Nat → Nat → Int) (m : Int) (Ao : Option Addr) (no co : Nat) (z : Nat → Int) (w : World) (hR : RR w A n X) (hwf : ∀ i, i < n → (Lit.int .i64 (X i 0)).wf = true) (hO : UO w Ao no z) (hn : n ≤ 9223372036854775807) (hno : no ≤ 9223372036854775807) (hc : n ≤ c ∧ c ≤ 9223372036854775807) :
    Calls Try.prog 6 #[.slice A n c, .int .i64 m, .slice Ao no co] w fun x w' => x = .returned (.bool true) ∧ Below w.heap.size w w' := by
  have HR := Lib.hid hR
  have HO := Lib.hid hO
  have HWF := Lib.hid hwf
  clear hR hO hwf
  obtain ⟨r0, hr, hr0, hr1, hr2⟩ := info_parts Rc.infoRec
  have HJ := Lib.hid hr
  have HY0 := Lib.hid hr0
  have HY1 := Lib.hid hr1
  have HY2 := Lib.hid hr2
  clear hr hr0 hr1 hr2
  have hmm := @run_makeMap Try.prog
  go_enter Try.func6, Try.ntmps6
  go_upto_region 2 with (first
    | (go_at_call 14; with_reducible refine (Rc.settled_ok _).mono ?_; rintro x1 w1 ⟨rfl, h1⟩))
  have H1 := Lib.hid h1
  clear h1
  by_cases hz : n = 0
  · subst hz
    go_wp2_with fail
    all_goals (try (exfalso; omega))
    go_ret
    exact ⟨rfl, H1.out⟩
  by_cases hbig : 40 < n
  · have e0 : ((n : Int) == 0) = false := by simp; omega
    go_wp2_with fail
    all_goals (try (exfalso; omega))
    go_ret
    exact ⟨rfl, H1.out⟩
  have e0 : ((n : Int) == 0) = false := by simp; omega
  have e00 : (n == 0) = false := by simp; omega
  have e1 : decide ((40 : Int) < (n : Int)) = false := by simp; omega
  by_cases hob : 200 < no
  · go_wp2_with fail
    all_goals (try (exfalso; omega))
    go_ret
    exact ⟨rfl, H1.out⟩
  have e2 : decide ((200 : Int) < (no : Int)) = false := by simp; omega
  have hn1 : 1 ≤ n ∧ n ≤ 40 := by omega
  have hno2 : no ≤ 200 := by omega
  clear hz hbig hob hn hno
  by_cases hmr : m < 1 ∨ 8 < m
  · have HNET := Lib.hid (net_arg A n c m w1 (by omega) hmr)
    go_wp2_with (first
      | (go_at_call 17; with_reducible refine HNET.out.mono ?_; rintro x2 w2 ⟨rfl, rfl⟩))
    all_goals (try (exfalso; omega))
    go_ret
    exact ⟨rfl, H1.out⟩
  obtain ⟨mm, rfl⟩ : ∃ mm : Nat, m = mm := ⟨m.toNat, by omega⟩
  have hmm8 : 1 ≤ mm ∧ mm ≤ 8 := by omega
  clear hmr
  have HNET := Lib.hid (net_any A n c X mm w1 (by omega) hmm8 (HR.out.keep H1.out) HWF.out)
  go_upto_region 5 with (first
    | (go_at_call 17; with_reducible refine HNET.out.mono ?_; rintro x2 w2 ⟨⟨v2, er2, rfl, h2⟩, hb2⟩))
  all_goals (try (exfalso; omega))
  have H2 := Lib.hid (bel_step H1.out hb2)
  clear hb2
  rcases h2 with ⟨rfl, rfl, _⟩ | ⟨rfl, rfl, _⟩ | ⟨rfl, hall, hdup, g8, rfl, ho8⟩
  · go_wp2_with fail
    all_goals (try (exfalso; omega))
    go_ret
    exact ⟨rfl, H2.out⟩
  · go_wp2_with fail
    all_goals (try (exfalso; omega))
    go_ret
    exact ⟨rfl, H2.out⟩
  have HALL := Lib.hid hall
  have HDUP := Lib.hid hdup
  have HO8 := Lib.hid ho8
  have HX2 := Lib.hid (HR.out.keep H2.out)
  clear hall hdup ho8
  go_wp2_with fail
  all_goals (try (exfalso; omega))
  have hst : AR w2 w2.heap.size n no X (.slice none 0 0) (.slice none 0 0) (.int .i64 0) (w2.alloc (.map #[] 0)) :=
    ⟨0, 0, 0, fun _ => 0, [], none, 0, Nat.zero_le _, rfl, ST.start, .inl ⟨rfl, rfl, rfl⟩, rfl, World.ownsRow_nil _ _ _ _, IM.made w2, bel_alloc (Below.refl _ _) _⟩
  obtain ⟨w3, hw3⟩ : ∃ w3, w2.alloc (.map #[] 0) = w3 := ⟨_, rfl⟩
  rw [hw3] at hst ⊢
  obtain ⟨bm, hbm⟩ : ∃ bm, w2.heap.size = bm := ⟨_, rfl⟩
  rw [hbm] at hst ⊢
  have HST := Lib.hid hst
  have HBM := Lib.hid hbm
  clear hst hw3 hbm
  go_loopw [10, 11, 54] (fun vb vg vi wr => AR w2 bm n no X vb vg vi wr) (fun _ _ vi _ => no - (intOf vi).toNat)
  case atStart => exact HST.out
  case round =>
    obtain ⟨j, T, q, f, S, A9, c9, hj, rfl, hst, hbv, rfl, hown, him, hbel⟩ := hrel
    have HS := Lib.hid hst
    have HBV := Lib.hid hbv
    have HOW := Lib.hid hown
    have HIM := Lib.hid him
    have HBL := Lib.hid hbel
    have hTn := hst.1
    clear hst hbv hown him hbel
    by_cases hlt : j < no
    · obtain ⟨b, o, rfl, hb, hc0, hz0, hz1⟩ := HO.out j hlt
      have hbms := HBL.out.size
      rw [HBM.out] at hbms
      have hcw : wr.cell? ⟨b, o + j, none⟩ = some (.int .u8 (z j)) := (HBL.out.cell (p := ⟨b, o + j, none⟩) (by rw [← HBM.out]; exact Nat.lt_of_lt_of_le hb H2.out.size)).trans (old_at hc0 H2.out)
      obtain ⟨y, hy⟩ : ∃ y : Nat, z j = y := ⟨(z j).toNat, by omega⟩
      rw [hy] at hcw hz0 hz1
      obtain ⟨k, hk⟩ : ∃ k, y % n = k := ⟨_, rfl⟩
      have hkn : k < n := by rw [← hk]; exact Nat.mod_lt _ (by omega)
      have u1 : IntKind.i64.wrap (y : Int) = (y : Int) := IntWalk.i64_in _ (by omega)
      have u2 : (y : Int).tmod (n : Int) = (k : Int) := by
        rw [Int.tmod_eq_emod_of_nonneg (by omega), ← hk]
        norm_cast
      have u3 : IntKind.i64.wrap (k : Int) = (k : Int) := IntWalk.i64_in _ (by omega)
      have u4 : ¬ (n : Int) = 0 := by omega
      have u5 : ¬ n = 0 := by omega
      have i0 : (0 : Int) ≤ (j : Int) := by omega
      have i1 : (j : Int) < (no : Int) := by omega
      clear hk hy hc0
      go_upto_region 15 with (at_mapUpdate; refine wpList_update_IM _ rfl _ _ _ rfl bm j S rfl HIM.out (by omega) k (by omega) rfl rfl ?_; intro wM hIM hgM)
      obtain ⟨om, hom, hcm⟩ := HIM.out.obj
      have hBVM := HBV.out.mapped hom hcm hgM
      have hOWM := HOW.out.kept hgM (.inr fun e => by have := (HOW.out.lt _ e).1; omega)
      have hBLM : Below bm w2 wM := HBL.out.grown hgM hbms (by intro k e; cases e; exact Nat.le_refl _)
      have hsM : bm < wM.heap.size := by
        obtain ⟨om', hom', _⟩ := hIM.obj
        exact (Array.getElem?_eq_some_iff.1 hom').1
      have HOM := Lib.hid hOWM
      have HIMM := Lib.hid hIM
      have HBLM := Lib.hid hBLM
      have hrc := rec_any n k T q f S u10 wM HS.out hn1.2 hkn hBVM
      have HBVM := Lib.hid hBVM
      clear hBVM hOWM hBLM hIM hgM hom hcm hcw u1 u2 u3 u4 u5
      by_cases hin : k ∈ S
      · have HRC : Hid (Calls Try.prog 21 #[u10, .agg #[.int .i64 3, .int .i64 ((k : Int) + 1), .int .i64 (k : Int)]] wM fun e w' => e = .returned (.tuple #[.slice none 0 0, .slice none 0 0, .int .i64 12]) ∧ Below wM.heap.size wM w') := Lib.hid (hrc.mono fun e w' ⟨h1, h2⟩ => by
          rcases h2 with ⟨_, h3⟩ | ⟨h3, _⟩
          · exact ⟨h3, h1⟩
          · exact absurd hin h3)
        have HIN := Lib.hid hin
        clear hrc hin
        go_wp2_with (first
          | (go_at_call 21; with_reducible refine HRC.out.mono ?_; rintro e wN ⟨rfl, hbN⟩))
        all_goals (try (exfalso; omega))
        have hIN : IM wN bm (j + 1) S := by
          have h1 := HIMM.out
          rw [if_pos HIN.out] at h1
          exact h1.kept (bel_gb hbN) (by simp)
        go_roundw
        case rel => exact ⟨j + 1, T, q, f, S, A9, c9, by omega, by go_num, HS.out, HBVM.out.keep hbN, rfl, own_below HOM.out hbN, hIN, HBLM.out.trans (hbN.mono (by omega))⟩
        case measure => simp [intOf] <;> omega
      · have HRC : Hid (Calls Try.prog 21 #[u10, .agg #[.int .i64 3, .int .i64 ((k : Int) + 1), .int .i64 (k : Int)]] wM fun e w' => Below wM.heap.size wM w' ∧ ∃ v' R Ao co q' f', e = .returned (.tuple #[v', .slice Ao R co, .int .i64 0]) ∧ FB wM.heap.size w'.heap.size w' v' (T + R) q' f' Ao R (mg (fun i => (T : Int) + 1 + i)) ∧ ST n (T + R) q' f' (k :: S) ∧ R ≤ co ∧ co ≤ 9223372036854775807) := Lib.hid (hrc.mono fun e w' ⟨h1, h2⟩ => by
          rcases h2 with ⟨h3, _⟩ | ⟨_, v', R, Ao, co, q', f', h4, h5, h6, h7, h8, h9, h10⟩
          · exact absurd h3 hin
          · exact ⟨h1, v', R, Ao, co, q', f', h4, FB.mk' h5 h6 h8 h10, h7, h9⟩)
        have HIN := Lib.hid hin
        clear hrc hin
        go_upto_region 21 with (first
          | (go_at_call 21; with_reducible refine HRC.out.mono ?_; rintro e wN ⟨hbN, v', R, Ao', co', q', f', rfl, hfb, hst', hco'⟩))
        all_goals (try (exfalso; omega))
        have HFB := Lib.hid hfb
        have HST' := Lib.hid hst'
        have hTR := hst'.1
        have HSZ := Lib.hid (And.intro hsM (And.intro hbN.size hbms))
        obtain ⟨L0, hL0⟩ : ∃ L0, wM.heap.size = L0 := ⟨_, rfl⟩
        obtain ⟨U0, hU0⟩ : ∃ U0, wN.heap.size = U0 := ⟨_, rfl⟩
        have hIN : IM wN bm (j + 1) (k :: S) := by
          have h1 := HIMM.out
          rw [if_neg HIN.out] at h1
          exact h1.kept (bel_gb hbN) (by simp)
        have hst0 : IR bm w2 L0 U0 T R (j + 1) X (k :: S) v' q' f' Ao' (.slice A9 T c9) (.int .i64 0) wN := by
          rw [hL0, hU0] at hfb
          exact ⟨0, A9, c9, Nat.zero_le _, rfl, rfl, own_below HOM.out hbN, hfb, hIN, HBLM.out.trans (hbN.mono (by omega)), by omega, fun g e => .inl (by rw [← hL0]; exact (HOM.out.lt g e).2)⟩
        have HIR := Lib.hid hst0
        have hUL : bm + 1 ≤ U0 := by have := hbN.size; omega
        clear hfb hst' hst0 hIN hbN hL0 hU0 hsM
        go_loopw [11, 82] (fun vg vi wr => IR bm w2 L0 U0 T R (j + 1) X (k :: S) v' q' f' Ao' vg vi wr) (fun _ vi _ => R - (intOf vi).toNat)
        case atStart => exact HIR.out
        case round =>
          obtain ⟨i, A8, c8, hi, rfl, rfl, hown, hfb, him, hbel, hU, hgap⟩ := hrel
          have HOW8 := Lib.hid hown
          have HFB8 := Lib.hid hfb
          have HIM8 := Lib.hid him
          have HBL8 := Lib.hid hbel
          have HGAP := Lib.hid hgap
          clear hown hfb him hbel hgap
          by_cases hlt2 : i < R
          · obtain ⟨b2, o2, rfl, hb2, d0, d1, d2⟩ := HFB8.out.2.1 i hlt2
            obtain ⟨p, hp⟩ : ∃ p, T + i = p := ⟨_, rfl⟩
            have hpn : p < n := by omega
            rw [show mg (fun i => (T : Int) + 1 + i) i 0 = 3 from rfl] at d0
            rw [show mg (fun i => (T : Int) + 1 + i) i 1 = (p : Int) + 1 by show (T : Int) + 1 + i = _; omega] at d1
            rw [show mg (fun i => (T : Int) + 1 + i) i 2 = (p : Int) by show (T : Int) + 1 + i - 1 = _; omega] at d2
            have hkeep : Below w2.heap.size w2 wr := by rw [HBM.out]; exact HBL8.out
            obtain ⟨b3, o3, rfl, hb3, k0, k1, k2, k3, k4, k5, k6, k7, k8, k9, k10, k11, k12⟩ := (HX2.out.keep hkeep).cells hpn
            have HP := Lib.hid hp
            rw [hp] at HOW8 ⊢
            have HGAP' : Hid (∀ g, (Value.slice A8 p c8).ownBlock = some g → g < L0 ∨ U0 ≤ g) := Lib.hid (fun g e => HGAP.out g (by rw [HP.out]; exact e))
            clear hp hkeep HGAP
            have j0 : (0 : Int) ≤ (i : Int) := by omega
            have j1 : (i : Int) < (R : Int) := by omega
            have j2 : (0 : Int) ≤ (p : Int) := by omega
            have j3 : (p : Int) < (n : Int) := by omega
            have j4 : decide ((n : Int) ≤ (p : Int)) = false := by simp; omega
            have j5 : decide (n ≤ p) = false := by simp; omega
            have j6 : ((p : Int) != (p : Int)) = false := by simp
            have HBM8 := Lib.hid (bel_alloc (Below.refl _ wr) (.cells #[.int .i64 3, .int .i64 ((p : Int) + 1), .int .i64 (p : Int)] 69))
            have HNM8 := Lib.hid (heap_alloc_new wr (.cells #[.int .i64 3, .int .i64 ((p : Int) + 1), .int .i64 (p : Int)] 69))
            go_upto_region 23 with fail
            all_goals (try (exfalso; omega))
            obtain ⟨pb, hpb⟩ : ∃ pb, wr.heap.size = pb := ⟨_, rfl⟩
            obtain ⟨wa, hwa⟩ : ∃ wa, wr.alloc (.cells #[.int .i64 3, .int .i64 ((p : Int) + 1), .int .i64 (p : Int)] 69) = wa := ⟨_, rfl⟩
            rw [hwa] at HBM8 HNM8 ⊢
            rw [hpb] at HNM8 ⊢
            have HFBA := Lib.hid (HFB8.out.kept (fun k _ hk => HBM8.out.block k (by omega)) HBM8.out.size)
            have HOWA := Lib.hid (own_below HOW8.out HBM8.out)
            have HIMA := Lib.hid (HIM8.out.kept (bel_gb HBM8.out) (by simp))
            have HBLA := Lib.hid (HBL8.out.trans (HBM8.out.mono (by omega)))
            have hsa := HBM8.out.size
            obtain ⟨m0, m1, m2, _⟩ := blk3 HNM8.out
            have x0 := old_at k0 HBM8.out
            have x1 := old_at k1 HBM8.out
            have x2 := old_at k2 HBM8.out
            have x3 := old_at k3 HBM8.out
            have x4 := old_at k4 HBM8.out
            have x5 := old_at k5 HBM8.out
            have x6 := old_at k6 HBM8.out
            have x7 := old_at k7 HBM8.out
            have x8 := old_at k8 HBM8.out
            have x9 := old_at k9 HBM8.out
            have x10 := old_at k10 HBM8.out
            have x11 := old_at k11 HBM8.out
            have x12 := old_at k12 HBM8.out
            clear hwa d0 d1 d2 k0 k1 k2 k3 k4 k5 k6 k7 k8 k9 k10 k11 k12
            go_upto_region 26 with (at_builtin; refine wpList_append_lies _ rfl (.tmp 98) (.tmp 104) 43 rfl (bm + 1) 53 r0 _ 13 104 Try.underlying43 HJ.out HY0.out HY1.out HY2.out rfl (by omega) (.slice A8 p c8) p _ rfl (HOWA.out.alloc _) ⟨wa.heap.size, 0, none⟩ 1 1 [.int .i64 (X p 0), .int .i64 (X p 1), .int .i64 (X p 2), .int .i64 (X p 3), .int .i64 (X p 4), .int .i64 (X p 5), .int .i64 (X p 6), .int .i64 (X p 7), .int .i64 (X p 8), .int .u64 (X p 9), .int .u64 (X p 10), .int .u64 (X p 11), .int .u64 (X p 12)] rfl rfl (World.news_of_block (heap_alloc_new wa _)) (by simp [Value.oneCell']) (by omega) (by unfold maxLen; omega) (by omega) (by simp; omega) (wa.heap.size + 1) (by simp) ?_; intro g1 cap1 wB hown1 hgrow1 hat1 hlt1)
            have hrow : rcs X p ++ [.int .i64 (X p 0), .int .i64 (X p 1), .int .i64 (X p 2), .int .i64 (X p 3), .int .i64 (X p 4), .int .i64 (X p 5), .int .i64 (X p 6), .int .i64 (X p 7), .int .i64 (X p 8), .int .u64 (X p 9), .int .u64 (X p 10), .int .u64 (X p 11), .int .u64 (X p 12)] = rcs X (p + 1) := rfl
            rw [hrow] at hown1
            have e9 : p + 1 = T + (i + 1) := by have := HP.out; omega
            have hob : ∀ g, (Value.slice A8 p c8).ownBlock = some g → bm + 1 ≤ g := fun g e => (HOWA.out.lt g e).1
            have hfbB := HFBA.out.kept (w' := wB) (fun k hk1 hk2 => by
              rw [hgrow1.block k (by rw [World.size_alloc]; omega) (fun e => by have := HGAP'.out k e.symm; omega)]
              exact Below.heap_alloc _ _ _ (by omega)) (by have h1 := hgrow1.size; rw [World.size_alloc] at h1; omega)
            have himB := (HIMA.out.kept (World.grownBy_alloc wa _ none) (by simp)).kept hgrow1 (fun e => by have := hob bm e.symm; omega)
            have hblB := (HBLA.out.alloc (by omega) _).grown hgrow1 (by rw [World.size_alloc]; omega) (fun g e => by have := hob g e; omega)
            have hgapB : ∀ g, (Value.slice (some ⟨g1, 0, none⟩) (p + 1) cap1).ownBlock = some g → g < L0 ∨ U0 ≤ g := fun g e => by
              have e1 : g1 = g := by simpa [Value.ownBlock] using e
              subst e1
              rcases hat1 with h | h
              · exact HGAP'.out _ h
              · exact .inr (by omega)
            have hszB : U0 ≤ wB.heap.size := by have h1 := hgrow1.size; rw [World.size_alloc] at h1; omega
            have HZ1 : Hid (IR bm w2 L0 U0 T R (j + 1) X (k :: S) v' q' f' (some ⟨b2, o2, none⟩) (.slice (some ⟨g1, 0, none⟩) (p + 1) cap1) (.int .i64 ((i : Int) + 1)) wB) := Lib.hid (by
              rw [e9] at hown1 hgapB ⊢
              exact ⟨i + 1, some ⟨g1, 0, none⟩, cap1, by omega, by go_num, rfl, hown1, hfbB, himB, hblB, hszB, hgapB⟩)
            clear hown1 hgrow1 hat1 hlt1 hfbB himB hblB hgapB hszB hob hrow e9 m0 m1 m2 x0 x1 x2 x3 x4 x5 x6 x7 x8 x9 x10 x11 x12
            go_wp2_with fail
            go_roundw
            case rel => exact HZ1.out
            case measure => simp [intOf] <;> omega
          · obtain rfl : i = R := by omega
            obtain ⟨bA, oA, rfl, _⟩ := HX2.out 0 (by omega)
            have hbv := HFB8.out.bv
            obtain ⟨p, hp⟩ : ∃ p, T + i = p := ⟨_, rfl⟩
            rw [hp] at HOW8 hbv HST' hTR ⊢
            have HBV8 := Lib.hid hbv
            have HBX : Hid (Below w2.heap.size w2 wr) := Lib.hid (by rw [HBM.out]; exact HBL8.out)
            have HN1 := Lib.hid (net_ok A8 p c8 X mm wr (by omega) hmm8 (RR_own HOW8.out) (fun i hi => HWF.out i (by omega)) (fun i hi => HALL.out i (by omega)) (fun h => HDUP.out (dup_mono h hTR)))
            have j2 : (0 : Int) ≤ (p : Int) := by omega
            have j3 : (p : Int) ≤ (c : Int) := by omega
            clear hp hbv HFB8 HIR HFB
            go_upto_region 28 with (first
              | (go_at_call 17; with_reducible refine HN1.out.mono ?_; rintro e wP ⟨g21, rfl, ho21, hbP⟩))
            all_goals (try (exfalso; omega))
            have HO21 := Lib.hid ho21
            have HBP := Lib.hid hbP
            have HN2 := Lib.hid (net_ok (some ⟨bA, oA, none⟩) p c X mm wP (by omega) hmm8 (fun i hi => ((HX2.out.keep HBX.out).keep hbP) i (by omega)) (fun i hi => HWF.out i (by omega)) (fun i hi => HALL.out i (by omega)) (fun h => HDUP.out (dup_mono h hTR)))
            clear ho21 hbP
            go_upto_region 29 with (first
              | (go_at_call 17; with_reducible refine HN2.out.mono ?_; rintro e wQ ⟨g23, rfl, ho23, hbQ⟩))
            all_goals (try (exfalso; omega))
            have HIT := Lib.hid (ints_yes (some ⟨g21, 0, none⟩) (some ⟨g23, 0, none⟩) mm mm mm (get X p) wQ (by omega) (HO21.out.below hbQ).rz ho23.rz)
            have HBQ := Lib.hid (bel_step HBP.out hbQ)
            clear ho23 hbQ
            go_wp2_with (first
              | (go_at_call 22; with_reducible refine HIT.out.mono ?_; rintro e wZ ⟨rfl, hbZ⟩))
            all_goals (try (exfalso; omega))
            have HBZ := Lib.hid (bel_step HBQ.out hbZ)
            have HZ2 : Hid (AR w2 bm n no X v' (.slice A8 p c8) (.int .i64 ((j : Int) + 1)) wZ) := Lib.hid ⟨j + 1, p, q', f', k :: S, A8, c8, by omega, by go_num, HST'.out, HBV8.out.keep HBZ.out, rfl, own_below HOW8.out HBZ.out, HIM8.out.kept (bel_gb HBZ.out) (by simp), HBL8.out.trans (HBZ.out.mono (by omega))⟩
            clear hbZ
            go_roundw
            case rel => exact HZ2.out
            case measure => simp [intOf] <;> omega
    · obtain rfl : no = j := by omega
      obtain ⟨D, hD1, hD2, _⟩ := HIM.out
      have HHW : Hid (Below w.heap.size w wr) := Lib.hid (H2.out.trans (HBL.out.mono (by rw [← HBM.out]; exact H2.out.size)))
      by_cases hful : S.length < n
      · have q1 : decide ((S.length : Int) < (n : Int)) = true := by simp; omega
        go_wp2_with (first
          | (at_len; refine wpList_len_own _ rfl _ 64 rfl 3 4 Try.underlying64 _ bm no D rfl hD1 ?_; rw [hD2]))
        all_goals (try (exfalso; omega))
        go_ret
        exact ⟨rfl, HHW.out⟩
      · have hTe : T = n := HS.out.full (by omega)
        have q1 : decide ((S.length : Int) < (n : Int)) = false := by simp; omega
        subst hTe
        have HN1 := Lib.hid (net_ok A9 T c9 X mm wr (by omega) hmm8 (RR_own HOW.out) HWF.out HALL.out HDUP.out)
        have HO8W := Lib.hid (HO8.out.keep (HBL.out.block _ (by rw [← HBM.out]; exact HO8.out.lt)))
        go_upto_region 35 with (first
          | (at_len; refine wpList_len_own _ rfl _ 64 rfl 3 4 Try.underlying64 _ bm no D rfl hD1 ?_; rw [hD2])
          | (go_at_call 17; with_reducible refine HN1.out.mono ?_; rintro e wS ⟨g25, rfl, ho25, hbS⟩))
        all_goals (try (exfalso; omega))
        have HIT := Lib.hid (ints_yes (some ⟨g25, 0, none⟩) (some ⟨g8, 0, none⟩) mm mm mm (get X T) wS (by omega) ho25.rz (HO8W.out.below hbS).rz)
        have HBS := Lib.hid hbS
        clear ho25 hbS hD1
        go_wp2_with (first
          | (go_at_call 22; with_reducible refine HIT.out.mono ?_; rintro e wZ ⟨rfl, hbZ⟩))
        all_goals (try (exfalso; omega))
        go_ret
        exact ⟨rfl, bel_step (bel_step HHW.out HBS.out) hbZ⟩
end Go.Proofs.Ytkhmlbkkdflnoaa.Hb
