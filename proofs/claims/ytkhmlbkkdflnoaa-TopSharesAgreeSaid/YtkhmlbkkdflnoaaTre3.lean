/-
  package tree: Below.
-/
import Derived.Test.YtkhmlbkkdflnoaaIrw
namespace Go.Proofs.Ytkhmlbkkdflnoaa.Nm
open Go.RowKit Go.Shelf Go.Proofs.Ytkhmlbkkdflnoaa Go
set_option linter.unusedVariables false
attribute [local go_sem ↓] Go.wp_at_zero Go.wp_at_succ

/-- a list of numbers, and no error -/
def OkL (B : Nat) (L : List Nat) (e : Ending) (w : World) : Prop := ∃ A c, e = .returned (.tuple #[.slice A L.length c, .int .i64 0]) ∧ (L.length ≤ c ∧ c ≤ 9223372036854775807) ∧ RZ w A L.length (fun i => ((L.getD i 0 : Nat) : Int)) ∧ ∀ b o, A = some ⟨b, o, none⟩ → B ≤ b
theorem okL_open {B : Nat} {L : List Nat} {e : Ending} {w : World} (h : OkL B L e w) : ∃ A c, e = .returned (.tuple #[.slice A L.length c, .int .i64 0]) ∧ (L.length ≤ c ∧ c ≤ 9223372036854775807) ∧ RZ w A L.length (fun i => ((L.getD i 0 : Nat) : Int)) ∧ ∀ b o, A = some ⟨b, o, none⟩ → B ≤ b := h
/-- the chargers below conductor k -/
def bl (S : Sit) (k : Nat) : List Nat := (List.range (S.n 3)).filter (blw S k)
set_option maxRecDepth 100000 in
set_option maxHeartbeats 8000000 in
theorem below_any (S : Sit) (A3 : Option Addr) (a3 : S.A 3 = A3) (k : Nat) (w : World) (hM : SM5 w S) (hP : SitP S) (hk : k < S.n 0) :
    Calls Try.prog 75 #[.agg #[.slice (S.A 0) (S.n 0) (S.c 0), .slice (S.A 1) (S.n 1) (S.c 1), .slice (S.A 2) (S.n 2) (S.c 2), .slice A3 (S.n 3) (S.c 3), .slice (S.A 4) (S.n 4) (S.c 4)], .int .i64 (k : Int)] w fun e w' => OkL w.heap.size (bl S k) e w' ∧ Below w.heap.size w w' := by
  obtain ⟨r0, hr, hr0, hr1, hr2⟩ := info_parts infoInt
  have HJ := Lib.hid hr
  have HY0 := Lib.hid hr0
  have HY1 := Lib.hid hr1
  have HY2 := Lib.hid hr2
  clear hr hr0 hr1 hr2
  have HM := Lib.hid hM
  have HP := Lib.hid hP
  obtain ⟨⟨p0, p1⟩, p2, p3, p4, p5⟩ := hP.sizes
  have HV : Hid (∀ W, SM5 W S → Calls Try.prog 73 #[.agg #[.slice (S.A 0) (S.n 0) (S.c 0), .slice (S.A 1) (S.n 1) (S.c 1), .slice (S.A 2) (S.n 2) (S.c 2), .slice A3 (S.n 3) (S.c 3), .slice (S.A 4) (S.n 4) (S.c 4)]] W fun e w' => e = .returned (.bool true) ∧ Below W.heap.size W w') := Lib.hid fun W hW => by
    have := vsite_yes S W hW hP
    rw [a3] at this
    exact this
  have HA := Lib.hid a3
  have hmf : ∀ (fn : Fn) (first cap : Array Value) (w : World), (Instr.makeFunc fn first cap).run Try.prog w = .ok (.func fn first cap) w := fun _ _ _ _ => rfl
  clear hM hP a3
  go_enter Try.func75, Try.ntmps75
  go_upto_region 1 with fail
  refine nameW ?_
  intro W0 hW0
  have HB0 : Hid (Below w.heap.size w W0) := Lib.hid (by rw [← hW0]; exact bel_alloc (bel_alloc (Below.refl _ _) _) _)
  have HC0 : Hid (W0.cell? ⟨w.heap.size, 0, none⟩ = some (.slice (S.A 0) (S.n 0) (S.c 0)) ∧ W0.cell? ⟨w.heap.size, 1, none⟩ = some (.slice (S.A 1) (S.n 1) (S.c 1)) ∧ W0.cell? ⟨w.heap.size, 2, none⟩ = some (.slice (S.A 2) (S.n 2) (S.c 2)) ∧ W0.cell? ⟨w.heap.size, 3, none⟩ = some (.slice A3 (S.n 3) (S.c 3)) ∧ W0.cell? ⟨w.heap.size, 4, none⟩ = some (.slice (S.A 4) (S.n 4) (S.c 4)) ∧ W0.cell? ⟨w.heap.size + 1, 0, none⟩ = some (.int .i64 (k : Int))) := Lib.hid (by
    refine ⟨?_, ?_, ?_, ?_, ?_, ?_⟩ <;> (rw [← hW0]; simp))
  clear hW0
  obtain ⟨d0, d1, d2, d3, d4, dk⟩ := HC0.out
  go_upto_region 5 with (go_at_call 73; with_reducible refine (HV.out _ (HM.out.keep HB0.out)).mono ?_; rintro e W1 ⟨rfl, hb1⟩; have d0' := old_at d0 hb1; have dk' := old_at dk hb1)
  all_goals (try (exfalso; omega))
  have HB1 := Lib.hid hb1
  clear d0 d1 d2 d3 d4 dk d0' dk'
  obtain ⟨B, hB⟩ : ∃ x, W1.heap.size = x := ⟨_, rfl⟩
  have HBB : Hid (W1.heap.size = B) := Lib.hid hB
  have HD : Hid (∀ W, Below B W1 W → W.cell? ⟨w.heap.size, 0, none⟩ = some (.slice (S.A 0) (S.n 0) (S.c 0)) ∧ W.cell? ⟨w.heap.size, 1, none⟩ = some (.slice (S.A 1) (S.n 1) (S.c 1)) ∧ W.cell? ⟨w.heap.size, 2, none⟩ = some (.slice (S.A 2) (S.n 2) (S.c 2)) ∧ W.cell? ⟨w.heap.size, 3, none⟩ = some (.slice A3 (S.n 3) (S.c 3)) ∧ W.cell? ⟨w.heap.size, 4, none⟩ = some (.slice (S.A 4) (S.n 4) (S.c 4)) ∧ W.cell? ⟨w.heap.size + 1, 0, none⟩ = some (.int .i64 (k : Int))) := Lib.hid fun W hW => by
    obtain ⟨g0, g1, g2, g3, g4, gk⟩ := HC0.out
    rw [← hB] at hW
    have h := HB1.out
    exact ⟨old_at (old_at g0 h) hW, old_at (old_at g1 h) hW, old_at (old_at g2 h) hW, old_at (old_at g3 h) hW, old_at (old_at g4 h) hW, old_at (old_at gk h) hW⟩
  have HG : Hid (∀ W, Below B W1 W → Below w.heap.size w W) := Lib.hid fun W h => by
    have h1 : Below w.heap.size w W1 := HB0.out.trans (HB1.out.mono HB0.out.size)
    exact h1.trans (h.mono (by rw [← hB]; exact h1.size))
  have HE : Hid (∀ W, Below B W1 W → SM5 W S) := Lib.hid fun W h => HM.out.keep (HG.out W h)
  have HN0 := Lib.hid (IR.nil W1 B)
  clear hb1 HC0 HB0 HB1 HM HV hB
  obtain ⟨d0, d1, d2, d3, d4, dk⟩ := HD.out W1 (Below.refl _ _)
  go_wp2_with fail
  go_loopw [7, 28] (fun v i wr => ∃ q : Nat, q ≤ S.n 3 ∧ i = .int .i64 q ∧ IR B W1 ((List.range q).filter (blw S k)) v wr) (fun v i _ => S.n 3 - (intOf i).toNat)
  case atStart => exact ⟨0, by omega, rfl, HN0.out⟩
  case round =>
    obtain ⟨wa, hwa⟩ : ∃ x, x = wr := ⟨_, rfl⟩
    subst hwa
    obtain ⟨v, hv⟩ : ∃ x, x = u7 := ⟨_, rfl⟩
    subst hv
    obtain ⟨q, hq, rfl, hir⟩ := hrel
    have HK := Lib.hid hir
    have HBw : Hid (Below B W1 wa) := Lib.hid hir.2
    have hsz : B ≤ wa.heap.size := by have := HBw.out.size; have := HBB.out; omega
    have hfl := filter_len (blw S k) q
    clear hir d0 d1 d2 d3 d4 dk HN0
    obtain ⟨d0, d1, d2, d3, d4, dk⟩ := HD.out wa HBw.out
    by_cases hlt : q < S.n 3
    · obtain ⟨b, o, hA, hl, hs, hz⟩ := (HE.out wa HBw.out).rows 3 (by decide) q hlt
      have ha := HA.out.symm.trans hA
      subst ha
      have c0 : wa.cell? ⟨b, o + q * 8, none⟩ = some (.string (S.N 3 q)) := hs
      have c1 : wa.cell? ⟨b, o + q * 8 + 1, none⟩ = some (.int .i64 (S.Z 3 q 1)) := hz 1 (by decide) (by decide)
      have c2 : wa.cell? ⟨b, o + q * 8 + 2, none⟩ = some (.int .i64 (S.Z 3 q 2)) := hz 2 (by decide) (by decide)
      have c3 : wa.cell? ⟨b, o + q * 8 + 3, none⟩ = some (.int .i64 (S.Z 3 q 3)) := hz 3 (by decide) (by decide)
      have c4 : wa.cell? ⟨b, o + q * 8 + 4, none⟩ = some (.int .i64 (S.Z 3 q 4)) := hz 4 (by decide) (by decide)
      have c5 : wa.cell? ⟨b, o + q * 8 + 5, none⟩ = some (.int .i64 (S.Z 3 q 5)) := hz 5 (by decide) (by decide)
      have c6 : wa.cell? ⟨b, o + q * 8 + 6, none⟩ = some (.int .i64 (S.Z 3 q 6)) := hz 6 (by decide) (by decide)
      have c7 : wa.cell? ⟨b, o + q * 8 + 7, none⟩ = some (.int .i64 (S.Z 3 q 7)) := hz 7 (by decide) (by decide)
      clear hz hs hA
      go_upto_region 8 with fail
      all_goals (try (exfalso; omega))
      refine nameW ?_
      intro wc hwc
      have HAc : Hid (Below wa.heap.size wa wc) := Lib.hid (by rw [← hwc]; exact bel_alloc (Below.refl _ _) _)
      have hk8 : wc.cell? ⟨wa.heap.size, 0, none⟩ = some (.string (S.N 3 q)) ∧ wc.cell? ⟨wa.heap.size, 1, none⟩ = some (.int .i64 (S.Z 3 q 1)) ∧ wc.cell? ⟨wa.heap.size, 2, none⟩ = some (.int .i64 (S.Z 3 q 2)) ∧ wc.cell? ⟨wa.heap.size, 3, none⟩ = some (.int .i64 (S.Z 3 q 3)) ∧ wc.cell? ⟨wa.heap.size, 4, none⟩ = some (.int .i64 (S.Z 3 q 4)) ∧ wc.cell? ⟨wa.heap.size, 5, none⟩ = some (.int .i64 (S.Z 3 q 5)) ∧ wc.cell? ⟨wa.heap.size, 6, none⟩ = some (.int .i64 (S.Z 3 q 6)) ∧ wc.cell? ⟨wa.heap.size, 7, none⟩ = some (.int .i64 (S.Z 3 q 7)) := by
        refine ⟨?_, ?_, ?_, ?_, ?_, ?_, ?_, ?_⟩ <;> (rw [← hwc]; simp)
      have HKc := Lib.hid (HK.out.keep hsz HAc.out)
      have hsc : B ≤ wc.heap.size := Nat.le_trans hsz HAc.out.size
      have HBC := Lib.hid (HBw.out.trans (HAc.out.mono hsz))
      have HBL : Hid (Calls Try.prog 115 #[.agg #[.string (S.N 3 q), .int .i64 (S.Z 3 q 1), .int .i64 (S.Z 3 q 2), .int .i64 (S.Z 3 q 3), .int .i64 (S.Z 3 q 4), .int .i64 (S.Z 3 q 5), .int .i64 (S.Z 3 q 6), .int .i64 (S.Z 3 q 7)], .pointer (some ⟨w.heap.size, 0, none⟩), .pointer (some ⟨w.heap.size + 1, 0, none⟩)] wc
          fun e w' => e = .returned (.bool (blw S k q)) ∧ Below wc.heap.size wc w') := Lib.hid (by
        obtain ⟨g0, g1, g2, g3, g4, gk⟩ := HD.out wc HBC.out
        refine below1_any S k (S.N 3 q) (S.Z 3 q) w.heap.size (w.heap.size + 1) wc (HE.out wc HBC.out) HP.out (by omega) (HP.out.chr q hlt).2.1.2 ⟨g0, g1, g2, ?_, g4⟩ gk
        rw [HA.out]; exact g3)
      clear hwc d0 d1 d2 d3 d4 dk c0 c1 c2 c3 c4 c5 c6 c7 HBw HK HAc
      obtain ⟨c0, c1, c2, c3, c4, c5, c6, c7⟩ := hk8
      have HFS := Lib.hid (filter_snoc (blw S k) q)
      cases hbl : blw S k q
      · rw [hbl] at HBL HFS
        have hfs : Hid ((List.range (q + 1)).filter (blw S k) = (List.range q).filter (blw S k)) := Lib.hid (by have := HFS.out; simpa using this)
        go_wp2_with (go_at_call 115; with_reducible refine HBL.out.mono ?_; rintro e w2 ⟨rfl, hb2⟩)
        all_goals (try (exfalso; omega))
        go_roundw
        case rel => exact ⟨q + 1, by omega, by go_num, by rw [hfs.out]; exact HKc.out.keep hsc hb2⟩
        case measure => simp [intOf] <;> omega
      · rw [hbl] at HBL HFS
        have hfs : Hid ((List.range (q + 1)).filter (blw S k) = (List.range q).filter (blw S k) ++ [q]) := Lib.hid (by have := HFS.out; simpa using this)
        go_upto_region 9 with (go_at_call 115; with_reducible refine HBL.out.mono ?_; rintro e w2 ⟨rfl, hb2⟩)
        all_goals (try (exfalso; omega))
        have HK2 := Lib.hid (HKc.out.keep hsc hb2)
        have hs2 : B ≤ w2.heap.size := Nat.le_trans hsc hb2.size
        clear hb2 c0 c1 c2 c3 c4 c5 c6 c7
        go_wp2_with (at_builtin; refine wpList_append_lies _ rfl (.tmp 36) (.tmp 38) 46 rfl B 3 r0 _ 1 8 Try.underlying46 HJ.out HY0.out HY1.out HY2.out rfl (by omega) v _ _ rfl (HK2.out.1.alloc _) ⟨w2.heap.size, 0, none⟩ 1 1 [.int .i64 (q : Int)] rfl rfl (World.news_of_block (heap_alloc_new w2 _)) (by simp [Value.oneCell']) (by omega) (by unfold maxLen; omega) (by omega) (by simp; omega) (w2.heap.size + 1) (by simp) ?_; intro g cap wB hown hgrow hat hlt1)
        all_goals (try (exfalso; omega))
        go_roundw
        case rel => exact ⟨q + 1, by omega, by go_num, by rw [hfs.out]; exact HK2.out.step hs2 hown hgrow⟩
        case measure => simp [intOf] <;> omega
    · obtain rfl : q = S.n 3 := by omega
      go_wp2_with fail
      all_goals (try (exfalso; omega))
      obtain ⟨A, cc, rfl, hcc, hRZ⟩ := HK.out.rz
      go_ret2
      exact ⟨⟨A, cc, rfl, hcc, hRZ, fun b o e => by subst e; have h1 := (HK.out.1.lt b rfl).1; have h2 := (HG.out W1 (Below.refl _ _)).size; have h3 := HBB.out; omega⟩, HG.out _ HBw.out⟩
end Go.Proofs.Ytkhmlbkkdflnoaa.Nm
