/-
  package site: namesOf and Valid, true of what the reference takes for valid (printed by gen_sv4.py).
-/
import Derived.Test.YtkhmlbkkdflnoaaSv3
import Derived.Laws.OwnMore
namespace Go.Proofs.Ytkhmlbkkdflnoaa.Nm
open Go.RowKit Go.Proofs.Ytkhmlbkkdflnoaa Go Go.Maps Go.WideMaps
set_option linter.unusedVariables false
attribute [local go_sem ↓] Go.wp_at_zero Go.wp_at_succ

theorem NR.alloc {B : Nat} {W0 w : World} {L : List ByteArray} {v : Value} (h : NR B W0 L v w) (hB : B ≤ w.heap.size) (o : Obj) : NR B W0 L v (w.alloc o) := ⟨h.1.alloc o, h.2.alloc hB o⟩
/-- a slice of texts: just L -/
def TxP (L : List ByteArray) (e : Ending) (w : World) : Prop := ∃ A c, e = .returned (.slice A L.length c) ∧ (L.length ≤ c ∧ c ≤ 9223372036854775807) ∧ RS w A L.length (fun i => L.getD i ⟨#[]⟩)
theorem tx_open {L : List ByteArray} {e : Ending} {w : World} (h : TxP L e w) : ∃ A c, e = .returned (.slice A L.length c) ∧ (L.length ≤ c ∧ c ≤ 9223372036854775807) ∧ RS w A L.length (fun i => L.getD i ⟨#[]⟩) := h
set_option maxRecDepth 100000 in
set_option maxHeartbeats 8000000 in
theorem namesOf_any (S : Sit) (A0 A1 A2 A3 A4 : Option Addr) (a0 : S.A 0 = A0) (a1 : S.A 1 = A1) (a2 : S.A 2 = A2) (a3 : S.A 3 = A3) (a4 : S.A 4 = A4) (w : World) (hM : SM5 w S) :
    Calls Try.prog 111 #[.agg #[.slice A0 (S.n 0) (S.c 0), .slice A1 (S.n 1) (S.c 1), .slice A2 (S.n 2) (S.c 2), .slice A3 (S.n 3) (S.c 3), .slice A4 (S.n 4) (S.c 4)]] w fun e w' => TxP (S.names 5) e w' ∧ Below w.heap.size w w' := by
  obtain ⟨r0, hr, hr0, hr1, hr2⟩ := info_parts infoStr
  have HJ := Lib.hid hr
  have HY0 := Lib.hid hr0
  have HY1 := Lib.hid hr1
  have HY2 := Lib.hid hr2
  clear hr hr0 hr1 hr2
  have HM := Lib.hid hM
  have AA := Lib.hid (And.intro a0 (And.intro a1 (And.intro a2 (And.intro a3 a4))))
  clear hM a0 a1 a2 a3 a4
  go_enter Try.func111, Try.ntmps111
  go_upto_region 2 with fail
  refine nameW ?_
  intro W0 hW0
  have HB0 : Hid (Below w.heap.size w W0) := Lib.hid (by rw [← hW0]; exact (Below.refl _ _).alloc (Nat.le_refl _) _)
  have HS0 : Hid (W0.heap.size = w.heap.size + 1) := Lib.hid (by rw [← hW0]; simp)
  obtain ⟨B, hB⟩ : ∃ x, W0.heap.size = x := ⟨_, rfl⟩
  have HBB : Hid (W0.heap.size = B) := Lib.hid hB
  have HD' : Hid (∀ W : World, Below B W0 W → W.cell? ⟨w.heap.size, 0, none⟩ = some (.slice A0 (S.n 0) (S.c 0)) ∧ W.cell? ⟨w.heap.size, 1, none⟩ = some (.slice A1 (S.n 1) (S.c 1)) ∧ W.cell? ⟨w.heap.size, 2, none⟩ = some (.slice A2 (S.n 2) (S.c 2)) ∧ W.cell? ⟨w.heap.size, 3, none⟩ = some (.slice A3 (S.n 3) (S.c 3)) ∧ W.cell? ⟨w.heap.size, 4, none⟩ = some (.slice A4 (S.n 4) (S.c 4))) := Lib.hid fun W hW => by
    rw [← hB] at hW
    refine ⟨?_, ?_, ?_, ?_, ?_⟩ <;> (refine old_at ?_ hW; rw [← hW0]; simp)
  have HE : Hid (∀ W, Below B W0 W → SM5 W S) := Lib.hid fun W h => (HM.out.keep HB0.out).keep (by rw [hB]; exact h)
  have HG : Hid (∀ W, Below B W0 W → Below w.heap.size w W) := Lib.hid fun W h => HB0.out.trans (h.mono (by rw [← hB]; exact HB0.out.size))
  have HN0 : Hid (NR B W0 [] (.slice none 0 0) W0) := Lib.hid ⟨⟨rfl, .inl ⟨rfl, rfl⟩⟩, Below.refl _ _⟩
  obtain ⟨d0, d1, d2, d3, d4⟩ := HD'.out W0 (Below.refl _ _)
  clear HB0 hW0 hB
  have HX0 := HN0
  go_wp2_with fail
  go_loopw [3, 17] (fun v i wr => ∃ k : Nat, k ≤ S.n 0 ∧ i = .int .i64 k ∧ NR B W0 (S.names 0 ++ (List.range k).map (S.N 0)) v wr) (fun v i _ => S.n 0 - (intOf i).toNat)
  case atStart => exact ⟨0, by omega, rfl, by rw [List.range_zero, List.map_nil, List.append_nil]; exact HX0.out⟩
  case round =>
    obtain ⟨w0, hw0⟩ : ∃ x, x = wr := ⟨_, rfl⟩
    subst hw0
    obtain ⟨v0, hv0⟩ : ∃ x, x = u3 := ⟨_, rfl⟩
    subst hv0
    obtain ⟨k, hk, rfl, hnr⟩ := hrel
    have HK := Lib.hid hnr
    have HBw : Hid (Below B W0 w0) := Lib.hid hnr.2
    have hsz : B ≤ w0.heap.size := by have := HBw.out.size; have := HBB.out; omega
    have hle := names_len S 0 fun i hi => HM.out.few i (by omega)
    have hnk := HM.out.few 0 (by omega)
    have hcap := HM.out.cap 0 (by omega)
    have hll : (S.names 0 ++ (List.range k).map (S.N 0)).length = (S.names 0).length + k := by simp
    clear hnr d0 d1 d2 d3 d4 HX0
    obtain ⟨d0, d1, d2, d3, d4⟩ := HD'.out w0 HBw.out
    by_cases hlt : k < S.n 0
    · obtain ⟨b, o, hA, hl, hs, hz⟩ := (HE.out w0 HBw.out).rows 0 (by decide) k hlt
      obtain rfl : A0 = _ := AA.out.1.symm.trans hA
      have c0 : w0.cell? ⟨b, o + k * 11, none⟩ = some (.string (S.N 0 k)) := hs
      have c1 : w0.cell? ⟨b, o + k * 11 + 1, none⟩ = some (.int .i64 (S.Z 0 k 1)) := hz 1 (by decide) (by decide)
      have c2 : w0.cell? ⟨b, o + k * 11 + 2, none⟩ = some (.int .i64 (S.Z 0 k 2)) := hz 2 (by decide) (by decide)
      have c3 : w0.cell? ⟨b, o + k * 11 + 3, none⟩ = some (.int .i64 (S.Z 0 k 3)) := hz 3 (by decide) (by decide)
      have c4 : w0.cell? ⟨b, o + k * 11 + 4, none⟩ = some (.int .i64 (S.Z 0 k 4)) := hz 4 (by decide) (by decide)
      have c5 : w0.cell? ⟨b, o + k * 11 + 5, none⟩ = some (.int .i64 (S.Z 0 k 5)) := hz 5 (by decide) (by decide)
      have c6 : w0.cell? ⟨b, o + k * 11 + 6, none⟩ = some (.int .i64 (S.Z 0 k 6)) := hz 6 (by decide) (by decide)
      have c7 : w0.cell? ⟨b, o + k * 11 + 7, none⟩ = some (.int .i64 (S.Z 0 k 7)) := hz 7 (by decide) (by decide)
      have c8 : w0.cell? ⟨b, o + k * 11 + 8, none⟩ = some (.int .i64 (S.Z 0 k 8)) := hz 8 (by decide) (by decide)
      have c9 : w0.cell? ⟨b, o + k * 11 + 9, none⟩ = some (.int .i64 (S.Z 0 k 9)) := hz 9 (by decide) (by decide)
      have c10 : w0.cell? ⟨b, o + k * 11 + 10, none⟩ = some (.int .i64 (S.Z 0 k 10)) := hz 10 (by decide) (by decide)
      clear hz hs hA
      go_upto_region 5 with fail
      all_goals (try (exfalso; omega))
      refine nameW ?_
      intro wc hwc
      have HKc : Hid (NR B W0 (S.names 0 ++ (List.range k).map (S.N 0)) v0 wc) := Lib.hid (by rw [← hwc]; exact HK.out.alloc hsz _)
      have x0 : wc.cell? ⟨w0.heap.size, 0, none⟩ = some (.string (S.N 0 k)) := by rw [← hwc]; simp
      have hsc : B ≤ wc.heap.size := by rw [← hwc]; simp; omega
      have hmul : o + k * 11 = o + k * 11 := rfl
      clear hwc d0 d1 d2 d3 d4 c0 c1 c2 c3 c4 c5 c6 c7 c8 c9 c10 HBw HK
      go_wp2_with (at_builtin; refine wpList_append_lies _ rfl (.tmp 21) (.tmp 24) 151 rfl B 9 r0 _ 1 16 Try.underlying151 HJ.out HY0.out HY1.out HY2.out rfl (by omega) v0 _ _ rfl (HKc.out.1.alloc _) ⟨wc.heap.size, 0, none⟩ 1 1 [.string (S.N 0 k)] rfl rfl (World.news_of_block (heap_alloc_new wc _)) (by simp [Value.oneCell']) (by omega) (by unfold maxLen; omega) (by omega) (by simp; omega) (wc.heap.size + 1) (by simp) ?_; intro g cap wB hown hgrow hat hlt1)
      go_roundw
      case rel => exact ⟨k + 1, by omega, by go_num, by rw [List.range_succ, List.map_append, ← List.append_assoc]; have hst := HKc.out.step (by omega) hown hgrow; rw [hll] at hst; exact hst⟩
      case measure => simp [intOf] <;> omega
    · obtain rfl : k = S.n 0 := by omega
      have HX1 : Hid (NR B W0 (S.names 1) v0 w0) := HK
      clear hk hll hle hnk HK hlt
      go_wp2_with fail
      go_loopw [3, 30] (fun v i wr => ∃ k : Nat, k ≤ S.n 1 ∧ i = .int .i64 k ∧ NR B W0 (S.names 1 ++ (List.range k).map (S.N 1)) v wr) (fun v i _ => S.n 1 - (intOf i).toNat)
      case atStart => exact ⟨0, by omega, rfl, by rw [List.range_zero, List.map_nil, List.append_nil]; exact HX1.out⟩
      case round =>
        obtain ⟨w1, hw1⟩ : ∃ x, x = wr := ⟨_, rfl⟩
        subst hw1
        obtain ⟨v1, hv1⟩ : ∃ x, x = u3 := ⟨_, rfl⟩
        subst hv1
        obtain ⟨k, hk, rfl, hnr⟩ := hrel
        have HK := Lib.hid hnr
        have HBw : Hid (Below B W0 w1) := Lib.hid hnr.2
        have hsz : B ≤ w1.heap.size := by have := HBw.out.size; have := HBB.out; omega
        have hle := names_len S 1 fun i hi => HM.out.few i (by omega)
        have hnk := HM.out.few 1 (by omega)
        have hcap := HM.out.cap 1 (by omega)
        have hll : (S.names 1 ++ (List.range k).map (S.N 1)).length = (S.names 1).length + k := by simp
        clear hnr d0 d1 d2 d3 d4 HX1
        obtain ⟨d0, d1, d2, d3, d4⟩ := HD'.out w1 HBw.out
        by_cases hlt : k < S.n 1
        · obtain ⟨b, o, hA, hl, hs, hz⟩ := (HE.out w1 HBw.out).rows 1 (by decide) k hlt
          obtain rfl : A1 = _ := AA.out.2.1.symm.trans hA
          have c0 : w1.cell? ⟨b, o + k, none⟩ = some (.string (S.N 1 k)) := by simpa [wid] using hs
          clear hz hs hA
          go_upto_region 10 with fail
          all_goals (try (exfalso; omega))
          refine nameW ?_
          intro wc hwc
          have HKc : Hid (NR B W0 (S.names 1 ++ (List.range k).map (S.N 1)) v1 wc) := Lib.hid (by rw [← hwc]; exact HK.out.alloc hsz _)
          have x0 : wc.cell? ⟨w1.heap.size, 0, none⟩ = some (.string (S.N 1 k)) := by rw [← hwc]; simp
          have hsc : B ≤ wc.heap.size := by rw [← hwc]; simp; omega
          have hmul : o + k = o + k := rfl
          clear hwc d0 d1 d2 d3 d4 c0 HBw HK
          go_wp2_with (at_builtin; refine wpList_append_lies _ rfl (.tmp 34) (.tmp 37) 151 rfl B 9 r0 _ 1 16 Try.underlying151 HJ.out HY0.out HY1.out HY2.out rfl (by omega) v1 _ _ rfl (HKc.out.1.alloc _) ⟨wc.heap.size, 0, none⟩ 1 1 [.string (S.N 1 k)] rfl rfl (World.news_of_block (heap_alloc_new wc _)) (by simp [Value.oneCell']) (by omega) (by unfold maxLen; omega) (by omega) (by simp; omega) (wc.heap.size + 1) (by simp) ?_; intro g cap wB hown hgrow hat hlt1)
          go_roundw
          case rel => exact ⟨k + 1, by omega, by go_num, by rw [List.range_succ, List.map_append, ← List.append_assoc]; have hst := HKc.out.step (by omega) hown hgrow; rw [hll] at hst; exact hst⟩
          case measure => simp [intOf] <;> omega
        · obtain rfl : k = S.n 1 := by omega
          have HX2 : Hid (NR B W0 (S.names 2) v1 w1) := HK
          clear hk hll hle hnk HK hlt
          go_wp2_with fail
          go_loopw [3, 43] (fun v i wr => ∃ k : Nat, k ≤ S.n 2 ∧ i = .int .i64 k ∧ NR B W0 (S.names 2 ++ (List.range k).map (S.N 2)) v wr) (fun v i _ => S.n 2 - (intOf i).toNat)
          case atStart => exact ⟨0, by omega, rfl, by rw [List.range_zero, List.map_nil, List.append_nil]; exact HX2.out⟩
          case round =>
            obtain ⟨w2, hw2⟩ : ∃ x, x = wr := ⟨_, rfl⟩
            subst hw2
            obtain ⟨v2, hv2⟩ : ∃ x, x = u3 := ⟨_, rfl⟩
            subst hv2
            obtain ⟨k, hk, rfl, hnr⟩ := hrel
            have HK := Lib.hid hnr
            have HBw : Hid (Below B W0 w2) := Lib.hid hnr.2
            have hsz : B ≤ w2.heap.size := by have := HBw.out.size; have := HBB.out; omega
            have hle := names_len S 2 fun i hi => HM.out.few i (by omega)
            have hnk := HM.out.few 2 (by omega)
            have hcap := HM.out.cap 2 (by omega)
            have hll : (S.names 2 ++ (List.range k).map (S.N 2)).length = (S.names 2).length + k := by simp
            clear hnr d0 d1 d2 d3 d4 HX2
            obtain ⟨d0, d1, d2, d3, d4⟩ := HD'.out w2 HBw.out
            by_cases hlt : k < S.n 2
            · obtain ⟨b, o, hA, hl, hs, hz⟩ := (HE.out w2 HBw.out).rows 2 (by decide) k hlt
              obtain rfl : A2 = _ := AA.out.2.2.1.symm.trans hA
              have c0 : w2.cell? ⟨b, o + k * 4, none⟩ = some (.string (S.N 2 k)) := hs
              have c1 : w2.cell? ⟨b, o + k * 4 + 1, none⟩ = some (.int .i64 (S.Z 2 k 1)) := hz 1 (by decide) (by decide)
              have c2 : w2.cell? ⟨b, o + k * 4 + 2, none⟩ = some (.int .i64 (S.Z 2 k 2)) := hz 2 (by decide) (by decide)
              have c3 : w2.cell? ⟨b, o + k * 4 + 3, none⟩ = some (.int .i64 (S.Z 2 k 3)) := hz 3 (by decide) (by decide)
              clear hz hs hA
              go_upto_region 15 with fail
              all_goals (try (exfalso; omega))
              refine nameW ?_
              intro wc hwc
              have HKc : Hid (NR B W0 (S.names 2 ++ (List.range k).map (S.N 2)) v2 wc) := Lib.hid (by rw [← hwc]; exact HK.out.alloc hsz _)
              have x0 : wc.cell? ⟨w2.heap.size, 0, none⟩ = some (.string (S.N 2 k)) := by rw [← hwc]; simp
              have hsc : B ≤ wc.heap.size := by rw [← hwc]; simp; omega
              have hmul : o + k * 4 = o + k * 4 := rfl
              clear hwc d0 d1 d2 d3 d4 c0 c1 c2 c3 HBw HK
              go_wp2_with (at_builtin; refine wpList_append_lies _ rfl (.tmp 47) (.tmp 50) 151 rfl B 9 r0 _ 1 16 Try.underlying151 HJ.out HY0.out HY1.out HY2.out rfl (by omega) v2 _ _ rfl (HKc.out.1.alloc _) ⟨wc.heap.size, 0, none⟩ 1 1 [.string (S.N 2 k)] rfl rfl (World.news_of_block (heap_alloc_new wc _)) (by simp [Value.oneCell']) (by omega) (by unfold maxLen; omega) (by omega) (by simp; omega) (wc.heap.size + 1) (by simp) ?_; intro g cap wB hown hgrow hat hlt1)
              go_roundw
              case rel => exact ⟨k + 1, by omega, by go_num, by rw [List.range_succ, List.map_append, ← List.append_assoc]; have hst := HKc.out.step (by omega) hown hgrow; rw [hll] at hst; exact hst⟩
              case measure => simp [intOf] <;> omega
            · obtain rfl : k = S.n 2 := by omega
              have HX3 : Hid (NR B W0 (S.names 3) v2 w2) := HK
              clear hk hll hle hnk HK hlt
              go_wp2_with fail
              go_loopw [3, 56] (fun v i wr => ∃ k : Nat, k ≤ S.n 3 ∧ i = .int .i64 k ∧ NR B W0 (S.names 3 ++ (List.range k).map (S.N 3)) v wr) (fun v i _ => S.n 3 - (intOf i).toNat)
              case atStart => exact ⟨0, by omega, rfl, by rw [List.range_zero, List.map_nil, List.append_nil]; exact HX3.out⟩
              case round =>
                obtain ⟨w3, hw3⟩ : ∃ x, x = wr := ⟨_, rfl⟩
                subst hw3
                obtain ⟨v3, hv3⟩ : ∃ x, x = u3 := ⟨_, rfl⟩
                subst hv3
                obtain ⟨k, hk, rfl, hnr⟩ := hrel
                have HK := Lib.hid hnr
                have HBw : Hid (Below B W0 w3) := Lib.hid hnr.2
                have hsz : B ≤ w3.heap.size := by have := HBw.out.size; have := HBB.out; omega
                have hle := names_len S 3 fun i hi => HM.out.few i (by omega)
                have hnk := HM.out.few 3 (by omega)
                have hcap := HM.out.cap 3 (by omega)
                have hll : (S.names 3 ++ (List.range k).map (S.N 3)).length = (S.names 3).length + k := by simp
                clear hnr d0 d1 d2 d3 d4 HX3
                obtain ⟨d0, d1, d2, d3, d4⟩ := HD'.out w3 HBw.out
                by_cases hlt : k < S.n 3
                · obtain ⟨b, o, hA, hl, hs, hz⟩ := (HE.out w3 HBw.out).rows 3 (by decide) k hlt
                  obtain rfl : A3 = _ := AA.out.2.2.2.1.symm.trans hA
                  have c0 : w3.cell? ⟨b, o + k * 8, none⟩ = some (.string (S.N 3 k)) := hs
                  have c1 : w3.cell? ⟨b, o + k * 8 + 1, none⟩ = some (.int .i64 (S.Z 3 k 1)) := hz 1 (by decide) (by decide)
                  have c2 : w3.cell? ⟨b, o + k * 8 + 2, none⟩ = some (.int .i64 (S.Z 3 k 2)) := hz 2 (by decide) (by decide)
                  have c3 : w3.cell? ⟨b, o + k * 8 + 3, none⟩ = some (.int .i64 (S.Z 3 k 3)) := hz 3 (by decide) (by decide)
                  have c4 : w3.cell? ⟨b, o + k * 8 + 4, none⟩ = some (.int .i64 (S.Z 3 k 4)) := hz 4 (by decide) (by decide)
                  have c5 : w3.cell? ⟨b, o + k * 8 + 5, none⟩ = some (.int .i64 (S.Z 3 k 5)) := hz 5 (by decide) (by decide)
                  have c6 : w3.cell? ⟨b, o + k * 8 + 6, none⟩ = some (.int .i64 (S.Z 3 k 6)) := hz 6 (by decide) (by decide)
                  have c7 : w3.cell? ⟨b, o + k * 8 + 7, none⟩ = some (.int .i64 (S.Z 3 k 7)) := hz 7 (by decide) (by decide)
                  clear hz hs hA
                  go_upto_region 20 with fail
                  all_goals (try (exfalso; omega))
                  refine nameW ?_
                  intro wc hwc
                  have HKc : Hid (NR B W0 (S.names 3 ++ (List.range k).map (S.N 3)) v3 wc) := Lib.hid (by rw [← hwc]; exact HK.out.alloc hsz _)
                  have x0 : wc.cell? ⟨w3.heap.size, 0, none⟩ = some (.string (S.N 3 k)) := by rw [← hwc]; simp
                  have hsc : B ≤ wc.heap.size := by rw [← hwc]; simp; omega
                  have hmul : o + k * 8 = o + k * 8 := rfl
                  clear hwc d0 d1 d2 d3 d4 c0 c1 c2 c3 c4 c5 c6 c7 HBw HK
                  go_wp2_with (at_builtin; refine wpList_append_lies _ rfl (.tmp 60) (.tmp 63) 151 rfl B 9 r0 _ 1 16 Try.underlying151 HJ.out HY0.out HY1.out HY2.out rfl (by omega) v3 _ _ rfl (HKc.out.1.alloc _) ⟨wc.heap.size, 0, none⟩ 1 1 [.string (S.N 3 k)] rfl rfl (World.news_of_block (heap_alloc_new wc _)) (by simp [Value.oneCell']) (by omega) (by unfold maxLen; omega) (by omega) (by simp; omega) (wc.heap.size + 1) (by simp) ?_; intro g cap wB hown hgrow hat hlt1)
                  go_roundw
                  case rel => exact ⟨k + 1, by omega, by go_num, by rw [List.range_succ, List.map_append, ← List.append_assoc]; have hst := HKc.out.step (by omega) hown hgrow; rw [hll] at hst; exact hst⟩
                  case measure => simp [intOf] <;> omega
                · obtain rfl : k = S.n 3 := by omega
                  have HX4 : Hid (NR B W0 (S.names 4) v3 w3) := HK
                  clear hk hll hle hnk HK hlt
                  go_wp2_with fail
                  go_loopw [3, 69] (fun v i wr => ∃ k : Nat, k ≤ S.n 4 ∧ i = .int .i64 k ∧ NR B W0 (S.names 4 ++ (List.range k).map (S.N 4)) v wr) (fun v i _ => S.n 4 - (intOf i).toNat)
                  case atStart => exact ⟨0, by omega, rfl, by rw [List.range_zero, List.map_nil, List.append_nil]; exact HX4.out⟩
                  case round =>
                    obtain ⟨w4, hw4⟩ : ∃ x, x = wr := ⟨_, rfl⟩
                    subst hw4
                    obtain ⟨v4, hv4⟩ : ∃ x, x = u3 := ⟨_, rfl⟩
                    subst hv4
                    obtain ⟨k, hk, rfl, hnr⟩ := hrel
                    have HK := Lib.hid hnr
                    have HBw : Hid (Below B W0 w4) := Lib.hid hnr.2
                    have hsz : B ≤ w4.heap.size := by have := HBw.out.size; have := HBB.out; omega
                    have hle := names_len S 4 fun i hi => HM.out.few i (by omega)
                    have hnk := HM.out.few 4 (by omega)
                    have hcap := HM.out.cap 4 (by omega)
                    have hll : (S.names 4 ++ (List.range k).map (S.N 4)).length = (S.names 4).length + k := by simp
                    clear hnr d0 d1 d2 d3 d4 HX4
                    obtain ⟨d0, d1, d2, d3, d4⟩ := HD'.out w4 HBw.out
                    by_cases hlt : k < S.n 4
                    · obtain ⟨b, o, hA, hl, hs, hz⟩ := (HE.out w4 HBw.out).rows 4 (by decide) k hlt
                      obtain rfl : A4 = _ := AA.out.2.2.2.2.symm.trans hA
                      have c0 : w4.cell? ⟨b, o + k * 2, none⟩ = some (.string (S.N 4 k)) := hs
                      have c1 : w4.cell? ⟨b, o + k * 2 + 1, none⟩ = some (.int .i64 (S.Z 4 k 1)) := hz 1 (by decide) (by decide)
                      clear hz hs hA
                      go_upto_region 25 with fail
                      all_goals (try (exfalso; omega))
                      refine nameW ?_
                      intro wc hwc
                      have HKc : Hid (NR B W0 (S.names 4 ++ (List.range k).map (S.N 4)) v4 wc) := Lib.hid (by rw [← hwc]; exact HK.out.alloc hsz _)
                      have x0 : wc.cell? ⟨w4.heap.size, 0, none⟩ = some (.string (S.N 4 k)) := by rw [← hwc]; simp
                      have hsc : B ≤ wc.heap.size := by rw [← hwc]; simp; omega
                      have hmul : o + k * 2 = o + k * 2 := rfl
                      clear hwc d0 d1 d2 d3 d4 c0 c1 HBw HK
                      go_wp2_with (at_builtin; refine wpList_append_lies _ rfl (.tmp 73) (.tmp 76) 151 rfl B 9 r0 _ 1 16 Try.underlying151 HJ.out HY0.out HY1.out HY2.out rfl (by omega) v4 _ _ rfl (HKc.out.1.alloc _) ⟨wc.heap.size, 0, none⟩ 1 1 [.string (S.N 4 k)] rfl rfl (World.news_of_block (heap_alloc_new wc _)) (by simp [Value.oneCell']) (by omega) (by unfold maxLen; omega) (by omega) (by simp; omega) (wc.heap.size + 1) (by simp) ?_; intro g cap wB hown hgrow hat hlt1)
                      go_roundw
                      case rel => exact ⟨k + 1, by omega, by go_num, by rw [List.range_succ, List.map_append, ← List.append_assoc]; have hst := HKc.out.step (by omega) hown hgrow; rw [hll] at hst; exact hst⟩
                      case measure => simp [intOf] <;> omega
                    · obtain rfl : k = S.n 4 := by omega
                      have HX5 : Hid (NR B W0 (S.names 5) v4 w4) := HK
                      clear hk hll hle hnk HK hlt
                      go_wp2_with fail
                      all_goals (try (exfalso; omega))
                      obtain ⟨A, cc, rfl, hcc, hRS⟩ := HX5.out.rs
                      go_ret
                      exact ⟨⟨A, cc, rfl, hcc, hRS⟩, HG.out _ HBw.out⟩
end Go.Proofs.Ytkhmlbkkdflnoaa.Nm
