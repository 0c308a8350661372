/-
  THE WALK over head: the fixed examples.
-/
import Derived.Test.YteeohndgkfilaaaRefs
namespace Go.Proofs.Yteeohndgkfilaaa
open Go.RowKit
set_option linter.unusedVariables false
attribute [local go_sem ↓] Go.wp_at_zero Go.wp_at_succ

theorem one1 {P : Nat → Prop} (h0 : P 0) : ∀ i, i < 1 → P i := fun i hi => by
  obtain rfl : i = 0 := by omega
  exact h0
theorem vB_nil {h nx : Int} (hh : 0 ≤ h ∧ h ≤ 1000) (hn : 1 ≤ nx ∧ nx ≤ 1000001) : vB h nx [] [] = true :=
  vB_iff.2 ⟨⟨hh, hn⟩, ⟨by simp, by simp⟩, fun i hi => by simp at hi, fun i hi => by simp at hi, fun i hi => by simp at hi, fun i hi => by simp at hi⟩
theorem vB_a : vB 22 2 [(1, 10)] [] = true :=
  vB_iff.2 ⟨by omega, ⟨by simp, by simp⟩, fun i hi => one1 (P := fun i => vT (at2 [(1, 10)] i) = true ∧ (at2 [(1, 10)] i).1 < 2) ⟨by decide, by decide⟩ i hi, fun i hi => by simp at hi, fun i hi => by simp at hi, fun i hi => by simp at hi⟩
theorem vB_b : vB 18 1 [] [1] = true :=
  vB_iff.2 ⟨by omega, ⟨by simp, by simp⟩, fun i hi => by simp at hi, fun i hi => one1 (P := fun i => isN (at1 [1] i) = true) (by decide) i hi, fun i hi => by simp at hi, fun i hi => by simp at hi⟩
theorem vB_z : vB 0 0 [] [] = false := (vB_no fun hx => by have := hx.1; omega).symm
/-- Send that goes well -/
theorem send_0 (v : Value) (h nx : Int) (O : List (Int × Int)) (I : List Int) (a : Int) (w : World) (hs : SV w v h nx O I) (he : sE h nx O I a = 0) :
    Calls Try.prog 11 #[v, .int .i64 a] w fun e w' => ∃ v', e = .returned (.tuple #[v', .agg #[.int .i64 nx, .int .i64 a], .int .i64 0]) ∧ SV w' v' (h - a) (nx + 1) (O ++ [(nx, a)]) I ∧ Below w.heap.size w w' := by
  refine (send_all v h nx O I a w hs).mono ?_
  rintro e w' ⟨⟨v', t, er, rfl, h1, h2⟩, hb⟩
  rcases h2 with ⟨rfl, h3, rfl⟩ | ⟨h3, _⟩
  · exact ⟨v', rfl, h3.sv, hb⟩
  · exact absurd (h1.trans he) h3
theorem send_x (v : Value) (h nx : Int) (O : List (Int × Int)) (I : List Int) (a : Int) (w : World) (er : Int) (hs : SV w v h nx O I) (he : sE h nx O I a = er) (h0 : er ≠ 0) :
    Calls Try.prog 11 #[v, .int .i64 a] w fun e w' => e = .returned (.tuple #[.agg #[.int .i64 0, .int .i64 0, .slice none 0 0, .slice none 0 0], .agg #[.int .i64 0, .int .i64 0], .int .i64 er]) ∧ Below w.heap.size w w' := by
  refine (send_all v h nx O I a w hs).mono ?_
  rintro e w' ⟨⟨v', t, er', rfl, h1, h2⟩, hb⟩
  obtain rfl : er' = er := h1.trans he
  rcases h2 with ⟨h3, _⟩ | ⟨_, rfl, rfl⟩
  · exact absurd h3 h0
  · exact ⟨rfl, hb⟩
theorem recv_0 (v : Value) (h nx : Int) (O : List (Int × Int)) (I : List Int) (x y : Int) (w : World) (hs : SV w v h nx O I) (he : rE h nx O I x y = 0) :
    Calls Try.prog 13 #[v, .agg #[.int .i64 x, .int .i64 y]] w fun e w' => ∃ v', e = .returned (.tuple #[v', .int .i64 0]) ∧ SV w' v' (h + y) nx O (insO x I) ∧ Below w.heap.size w w' := by
  refine (recv_all v h nx O I x y w hs).mono ?_
  rintro e w' ⟨⟨v', er, rfl, h1, h2⟩, hb⟩
  rcases h2 with ⟨rfl, h3⟩ | ⟨h3, _⟩
  · exact ⟨v', rfl, h3.sv, hb⟩
  · exact absurd (h1.trans he) h3
theorem recv_x (v : Value) (h nx : Int) (O : List (Int × Int)) (I : List Int) (x y : Int) (w : World) (er : Int) (hs : SV w v h nx O I) (he : rE h nx O I x y = er) (h0 : er ≠ 0) :
    Calls Try.prog 13 #[v, .agg #[.int .i64 x, .int .i64 y]] w fun e w' => e = .returned (.tuple #[.agg #[.int .i64 0, .int .i64 0, .slice none 0 0, .slice none 0 0], .int .i64 er]) ∧ Below w.heap.size w w' := by
  refine (recv_all v h nx O I x y w hs).mono ?_
  rintro e w' ⟨⟨v', er', rfl, h1, h2⟩, hb⟩
  obtain rfl : er' = er := h1.trans he
  rcases h2 with ⟨h3, _⟩ | ⟨_, rfl⟩
  · exact absurd h3 h0
  · exact ⟨rfl, hb⟩
theorem ack_0 (v : Value) (h nx : Int) (O : List (Int × Int)) (I : List Int) (x : Int) (w : World) (hs : SV w v h nx O I) (he : aE h nx O I x = 0) :
    Calls Try.prog 15 #[v, .int .i64 x] w fun e w' => ∃ v', e = .returned (.tuple #[v', .int .i64 0]) ∧ SV w' v' h nx (wo x O) I ∧ Below w.heap.size w w' := by
  refine (ack_all v h nx O I x w hs).mono ?_
  rintro e w' ⟨⟨v', er, rfl, h1, h2⟩, hb⟩
  rcases h2 with ⟨rfl, h3⟩ | ⟨h3, _⟩
  · exact ⟨v', rfl, h3.sv, hb⟩
  · exact absurd (h1.trans he) h3
theorem ack_x (v : Value) (h nx : Int) (O : List (Int × Int)) (I : List Int) (x : Int) (w : World) (er : Int) (hs : SV w v h nx O I) (he : aE h nx O I x = er) (h0 : er ≠ 0) :
    Calls Try.prog 15 #[v, .int .i64 x] w fun e w' => e = .returned (.tuple #[.agg #[.int .i64 0, .int .i64 0, .slice none 0 0, .slice none 0 0], .int .i64 er]) ∧ Below w.heap.size w w' := by
  refine (ack_all v h nx O I x w hs).mono ?_
  rintro e w' ⟨⟨v', er', rfl, h1, h2⟩, hb⟩
  obtain rfl : er' = er := h1.trans he
  rcases h2 with ⟨h3, _⟩ | ⟨_, rfl⟩
  · exact absurd h3 h0
  · exact ⟨rfl, hb⟩
theorem val_sv (v : Value) (h nx : Int) (O : List (Int × Int)) (I : List Int) (w : World) (hs : SV w v h nx O I) (b : Bool) (hb : vB h nx O I = b) :
    Calls Try.prog 18 #[v] w fun e w' => e = .returned (.bool b) ∧ Below w.heap.size w w' := by
  obtain ⟨A, c, B, d, rfl, hRO, hRI, _, _, hc, hd⟩ := hs
  rw [← hb]
  exact val_any h nx A _ c B _ d O I w (by omega) (by omega) rfl rfl hRO hRI

theorem x1 : sE 32 1 [] [] 10 = 0 := by unfold sE; rw [if_pos ⟨vB_nil (by omega) (by omega), by omega, by omega⟩]; rfl
theorem x2 : rE 8 1 [] [] 1 10 = 0 := by unfold rE; rw [if_pos ⟨vB_nil (by omega) (by omega), by decide⟩]; rfl
theorem x3 : rE 18 1 [] [1] 1 10 = 5 := by unfold rE; rw [if_pos ⟨vB_b, by decide⟩]; rfl
theorem x4 : aE 22 2 [(1, 10)] [] 1 = 0 := by unfold aE; rw [if_pos vB_a, if_pos ⟨0, by decide, rfl⟩]
theorem x5 : aE 22 2 [] [] 1 = 4 := by unfold aE; rw [if_pos (vB_nil (by omega) (by omega)), if_neg (fun ⟨i, hi, _⟩ => by simp at hi)]
theorem x6 : sE 22 2 [] [] 23 = 13 := by unfold sE; rw [if_pos ⟨vB_nil (by omega) (by omega), by omega, by omega⟩]; rfl
theorem sv_lit (W : World) (h nx : Int) : SV W (.agg #[.int .i64 h, .int .i64 nx, .slice none 0 0, .slice none 0 0]) h nx [] [] := ⟨none, 0, none, 0, rfl, RL_nil, RL_nil, fun _ => ⟨rfl, rfl⟩, fun _ => ⟨rfl, rfl⟩, ⟨Nat.le_refl _, by omega⟩, ⟨Nat.le_refl _, by omega⟩⟩

theorem hd1 (w : World) : Calls Try.prog 11 #[.agg #[.int .i64 32, .int .i64 1, .slice none 0 0, .slice none 0 0], .int .i64 10] w
    fun e w' => ∃ A c B d, e = .returned (.tuple #[.agg #[.int .i64 22, .int .i64 2, .slice A 1 c, .slice B 0 d], .agg #[.int .i64 1, .int .i64 10], .int .i64 0]) ∧ SV w' (.agg #[.int .i64 22, .int .i64 2, .slice A 1 c, .slice B 0 d]) 22 2 [(1, 10)] [] ∧ Below w.heap.size w w' := by
  refine (send_0 _ 32 1 [] [] 10 _ (sv_lit _ _ _) x1).mono ?_
  rintro e w' ⟨v, rfl, hs, hb⟩
  obtain ⟨A, c, B, d, rfl, r⟩ := hs
  exact ⟨A, c, B, d, rfl, ⟨A, c, B, d, rfl, r⟩, hb⟩
theorem hd2 (w : World) : Calls Try.prog 13 #[.agg #[.int .i64 8, .int .i64 1, .slice none 0 0, .slice none 0 0], .agg #[.int .i64 1, .int .i64 10]] w
    fun e w' => ∃ A c B d, e = .returned (.tuple #[.agg #[.int .i64 18, .int .i64 1, .slice A 0 c, .slice B 1 d], .int .i64 0]) ∧ SV w' (.agg #[.int .i64 18, .int .i64 1, .slice A 0 c, .slice B 1 d]) 18 1 [] [1] ∧ Below w.heap.size w w' := by
  refine (recv_0 _ 8 1 [] [] 1 10 _ (sv_lit _ _ _) x2).mono ?_
  rintro e w' ⟨v, rfl, hs, hb⟩
  obtain ⟨A, c, B, d, rfl, r⟩ := hs
  exact ⟨A, c, B, d, rfl, ⟨A, c, B, d, rfl, r⟩, hb⟩
theorem hd4 (v : Value) (w : World) (hs : SV w v 22 2 [(1, 10)] []) : Calls Try.prog 15 #[v, .int .i64 1] w
    fun e w' => ∃ A c B d, e = .returned (.tuple #[.agg #[.int .i64 22, .int .i64 2, .slice A 0 c, .slice B 0 d], .int .i64 0]) ∧ SV w' (.agg #[.int .i64 22, .int .i64 2, .slice A 0 c, .slice B 0 d]) 22 2 [] [] ∧ Below w.heap.size w w' := by
  refine (ack_0 v 22 2 [(1, 10)] [] 1 _ hs x4).mono ?_
  rintro e w' ⟨v, rfl, hs, hb⟩
  obtain ⟨A, c, B, d, rfl, r⟩ := hs
  exact ⟨A, c, B, d, rfl, ⟨A, c, B, d, rfl, r⟩, hb⟩
theorem cell4 {W : World} {b : Nat} {t : TypeId} {x0 x1 x2 x3 : Value} (h : OW W b t [x0, x1, x2, x3]) : W.cell? ⟨b, 0, none⟩ = some x0 ∧ W.cell? ⟨b, 1, none⟩ = some x1 ∧ W.cell? ⟨b, 2, none⟩ = some x2 ∧ W.cell? ⟨b, 3, none⟩ = some x3 := ⟨h.at rfl, h.at rfl, h.at rfl, h.at rfl⟩
theorem cell2 {W : World} {b : Nat} {t : TypeId} {x0 x1 : Value} (h : OW W b t [x0, x1]) : W.cell? ⟨b, 0, none⟩ = some x0 ∧ W.cell? ⟨b, 1, none⟩ = some x1 := ⟨h.at rfl, h.at rfl⟩

set_option maxRecDepth 100000 in
set_option maxHeartbeats 8000000 in
theorem head_any (w : World) : Calls Try.prog 9 #[] w fun e w' => e = .returned (.bool true) ∧ Below w.heap.size w w' := by
  go_enter Try.func9, Try.ntmps9
  go_upto_region 2 with (go_at_call 11; with_reducible refine (hd1 _).mono ?_; rintro e w1 ⟨Aa, ca, Ba, da, rfl, hs1, h1⟩)
  have OA := (OW.new w1 25 [.int .i64 22, .int .i64 2, .slice Aa 1 ca, .slice Ba 0 da]).alloc (.cells #[.int .i64 1, .int .i64 10] 27)
  have OT := OW.new1 w1 (.cells #[.int .i64 22, .int .i64 2, .slice Aa 1 ca, .slice Ba 0 da] 25) 27 [.int .i64 1, .int .i64 10]
  have SA := hs1.keep (bel_alloc (bel_a w1 (.cells #[.int .i64 22, .int .i64 2, .slice Aa 1 ca, .slice Ba 0 da] 25)) (.cells #[.int .i64 1, .int .i64 10] 27))
  have HB := bel_alloc (bel_alloc h1 (.cells #[.int .i64 22, .int .i64 2, .slice Aa 1 ca, .slice Ba 0 da] 25)) (.cells #[.int .i64 1, .int .i64 10] 27)
  obtain ⟨W2, hW2⟩ : ∃ W, (w1.alloc (.cells #[.int .i64 22, .int .i64 2, .slice Aa 1 ca, .slice Ba 0 da] 25)).alloc (.cells #[.int .i64 1, .int .i64 10] 27) = W := ⟨_, rfl⟩
  rw [hW2] at OA OT SA HB ⊢
  clear hW2
  obtain ⟨b1, hb1⟩ : ∃ b, w1.heap.size = b := ⟨_, rfl⟩
  obtain ⟨b2, hb2⟩ : ∃ b, w1.heap.size + 1 = b := ⟨_, rfl⟩
  rw [hb2] at OT ⊢
  rw [hb1] at OA ⊢
  clear hb1 hb2 hs1 h1
  obtain ⟨t0, t1⟩ := cell2 OT
  go_upto_region 3 with (go_at_call 13; with_reducible refine (hd2 _).mono ?_; rintro e w2 ⟨Ab, cb, Bb, db, rfl, hs2, h2⟩)
  clear t0 t1
  replace OA := (OA.keep h2).alloc (.cells #[.int .i64 18, .int .i64 1, .slice Ab 0 cb, .slice Bb 1 db] 25)
  replace OT := (OT.keep h2).alloc (.cells #[.int .i64 18, .int .i64 1, .slice Ab 0 cb, .slice Bb 1 db] 25)
  replace SA := (SA.keep h2).keep (bel_a w2 (.cells #[.int .i64 18, .int .i64 1, .slice Ab 0 cb, .slice Bb 1 db] 25))
  replace HB := bel_alloc (bel_step HB h2) (.cells #[.int .i64 18, .int .i64 1, .slice Ab 0 cb, .slice Bb 1 db] 25)
  have OB := OW.new w2 25 [.int .i64 18, .int .i64 1, .slice Ab 0 cb, .slice Bb 1 db]
  have SB := hs2.keep (bel_a w2 (.cells #[.int .i64 18, .int .i64 1, .slice Ab 0 cb, .slice Bb 1 db] 25))
  obtain ⟨W3, hW3⟩ : ∃ W, w2.alloc (.cells #[.int .i64 18, .int .i64 1, .slice Ab 0 cb, .slice Bb 1 db] 25) = W := ⟨_, rfl⟩
  rw [hW3] at OA OT SA HB OB SB ⊢
  clear hW3
  obtain ⟨b4, hb4⟩ : ∃ b, w2.heap.size = b := ⟨_, rfl⟩
  rw [hb4] at OB ⊢
  clear hb4 hs2 h2
  obtain ⟨t0, t1⟩ := cell2 OT
  obtain ⟨y0, y1, y2, y3⟩ := cell4 OB
  go_upto_region 4 with (go_at_call 13; with_reducible refine (recv_x _ 18 1 [] [1] 1 10 _ 5 SB x3 (by decide)).mono ?_; rintro e w3 ⟨rfl, h3⟩)
  clear t0 t1 y0 y1 y2 y3
  replace OA := (OA.keep h3).alloc (.cells #[.int .i64 0, .int .i64 0, .slice none 0 0, .slice none 0 0] 25)
  replace OT := (OT.keep h3).alloc (.cells #[.int .i64 0, .int .i64 0, .slice none 0 0, .slice none 0 0] 25)
  replace OB := (OB.keep h3).alloc (.cells #[.int .i64 0, .int .i64 0, .slice none 0 0, .slice none 0 0] 25)
  replace SA := (SA.keep h3).keep (bel_a w3 (.cells #[.int .i64 0, .int .i64 0, .slice none 0 0, .slice none 0 0] 25))
  replace SB := (SB.keep h3).keep (bel_a w3 (.cells #[.int .i64 0, .int .i64 0, .slice none 0 0, .slice none 0 0] 25))
  replace HB := bel_alloc (bel_step HB h3) (.cells #[.int .i64 0, .int .i64 0, .slice none 0 0, .slice none 0 0] 25)
  obtain ⟨W4, hW4⟩ : ∃ W, w3.alloc (.cells #[.int .i64 0, .int .i64 0, .slice none 0 0, .slice none 0 0] 25) = W := ⟨_, rfl⟩
  rw [hW4] at OA OT SA HB OB SB ⊢
  clear hW4
  clear h3
  obtain ⟨y0, y1, y2, y3⟩ := cell4 OA
  go_upto_region 5 with (go_at_call 15; with_reducible refine (hd4 _ _ SA).mono ?_; rintro e w4 ⟨Ac, cc, Bc, dc, rfl, hs4, h4⟩)
  clear y0 y1 y2 y3
  replace OA := (OA.keep h4).alloc (.cells #[.int .i64 22, .int .i64 2, .slice Ac 0 cc, .slice Bc 0 dc] 25)
  replace OT := (OT.keep h4).alloc (.cells #[.int .i64 22, .int .i64 2, .slice Ac 0 cc, .slice Bc 0 dc] 25)
  replace OB := (OB.keep h4).alloc (.cells #[.int .i64 22, .int .i64 2, .slice Ac 0 cc, .slice Bc 0 dc] 25)
  replace SA := (SA.keep h4).keep (bel_a w4 (.cells #[.int .i64 22, .int .i64 2, .slice Ac 0 cc, .slice Bc 0 dc] 25))
  replace SB := (SB.keep h4).keep (bel_a w4 (.cells #[.int .i64 22, .int .i64 2, .slice Ac 0 cc, .slice Bc 0 dc] 25))
  replace HB := bel_alloc (bel_step HB h4) (.cells #[.int .i64 22, .int .i64 2, .slice Ac 0 cc, .slice Bc 0 dc] 25)
  have OC := OW.new w4 25 [.int .i64 22, .int .i64 2, .slice Ac 0 cc, .slice Bc 0 dc]
  have SC := hs4.keep (bel_a w4 (.cells #[.int .i64 22, .int .i64 2, .slice Ac 0 cc, .slice Bc 0 dc] 25))
  obtain ⟨W5, hW5⟩ : ∃ W, w4.alloc (.cells #[.int .i64 22, .int .i64 2, .slice Ac 0 cc, .slice Bc 0 dc] 25) = W := ⟨_, rfl⟩
  rw [hW5] at OA OT SA HB OB SB OC SC ⊢
  clear hW5
  obtain ⟨b8, hb8⟩ : ∃ b, w4.heap.size = b := ⟨_, rfl⟩
  rw [hb8] at OC ⊢
  clear hb8 hs4 h4
  obtain ⟨y0, y1, y2, y3⟩ := cell4 OC
  go_upto_region 6 with (go_at_call 15; with_reducible refine (ack_x _ 22 2 [] [] 1 _ 4 SC x5 (by decide)).mono ?_; rintro e w5 ⟨rfl, h5⟩)
  clear y0 y1 y2 y3
  replace OA := (OA.keep h5).alloc (.cells #[.int .i64 0, .int .i64 0, .slice none 0 0, .slice none 0 0] 25)
  replace OT := (OT.keep h5).alloc (.cells #[.int .i64 0, .int .i64 0, .slice none 0 0, .slice none 0 0] 25)
  replace OB := (OB.keep h5).alloc (.cells #[.int .i64 0, .int .i64 0, .slice none 0 0, .slice none 0 0] 25)
  replace OC := (OC.keep h5).alloc (.cells #[.int .i64 0, .int .i64 0, .slice none 0 0, .slice none 0 0] 25)
  replace SA := (SA.keep h5).keep (bel_a w5 (.cells #[.int .i64 0, .int .i64 0, .slice none 0 0, .slice none 0 0] 25))
  replace SB := (SB.keep h5).keep (bel_a w5 (.cells #[.int .i64 0, .int .i64 0, .slice none 0 0, .slice none 0 0] 25))
  replace SC := (SC.keep h5).keep (bel_a w5 (.cells #[.int .i64 0, .int .i64 0, .slice none 0 0, .slice none 0 0] 25))
  replace HB := bel_alloc (bel_step HB h5) (.cells #[.int .i64 0, .int .i64 0, .slice none 0 0, .slice none 0 0] 25)
  obtain ⟨W6, hW6⟩ : ∃ W, w5.alloc (.cells #[.int .i64 0, .int .i64 0, .slice none 0 0, .slice none 0 0] 25) = W := ⟨_, rfl⟩
  rw [hW6] at OA OT OB OC SA SB SC HB ⊢
  clear hW6
  clear h5
  obtain ⟨y0, y1, y2, y3⟩ := cell4 OC
  go_upto_region 7 with (go_at_call 11; with_reducible refine (send_x _ 22 2 [] [] 23 _ 13 SC x6 (by decide)).mono ?_; rintro e w6 ⟨rfl, h6⟩)
  clear y0 y1 y2 y3
  replace OA := ((OA.keep h6).alloc (.cells #[.int .i64 0, .int .i64 0, .slice none 0 0, .slice none 0 0] 25)).alloc (.cells #[.int .i64 0, .int .i64 0] 27)
  replace OT := ((OT.keep h6).alloc (.cells #[.int .i64 0, .int .i64 0, .slice none 0 0, .slice none 0 0] 25)).alloc (.cells #[.int .i64 0, .int .i64 0] 27)
  replace OB := ((OB.keep h6).alloc (.cells #[.int .i64 0, .int .i64 0, .slice none 0 0, .slice none 0 0] 25)).alloc (.cells #[.int .i64 0, .int .i64 0] 27)
  replace OC := ((OC.keep h6).alloc (.cells #[.int .i64 0, .int .i64 0, .slice none 0 0, .slice none 0 0] 25)).alloc (.cells #[.int .i64 0, .int .i64 0] 27)
  replace SA := (SA.keep h6).keep (bel_alloc (bel_a w6 (.cells #[.int .i64 0, .int .i64 0, .slice none 0 0, .slice none 0 0] 25)) (.cells #[.int .i64 0, .int .i64 0] 27))
  replace SB := (SB.keep h6).keep (bel_alloc (bel_a w6 (.cells #[.int .i64 0, .int .i64 0, .slice none 0 0, .slice none 0 0] 25)) (.cells #[.int .i64 0, .int .i64 0] 27))
  replace SC := (SC.keep h6).keep (bel_alloc (bel_a w6 (.cells #[.int .i64 0, .int .i64 0, .slice none 0 0, .slice none 0 0] 25)) (.cells #[.int .i64 0, .int .i64 0] 27))
  replace HB := bel_alloc (bel_alloc (bel_step HB h6) (.cells #[.int .i64 0, .int .i64 0, .slice none 0 0, .slice none 0 0] 25)) (.cells #[.int .i64 0, .int .i64 0] 27)
  obtain ⟨W7, hW7⟩ : ∃ W, (w6.alloc (.cells #[.int .i64 0, .int .i64 0, .slice none 0 0, .slice none 0 0] 25)).alloc (.cells #[.int .i64 0, .int .i64 0] 27) = W := ⟨_, rfl⟩
  rw [hW7] at OA OT OB OC SA SB SC HB ⊢
  clear hW7
  clear h6
  obtain ⟨t0, t1⟩ := cell2 OT
  obtain ⟨y0, y1, y2, y3⟩ := cell4 OA
  have HSA := Lib.hid SA
  have HSB := Lib.hid SB
  have HSC := Lib.hid SC
  have HHB := Lib.hid HB
  have HOA := Lib.hid OA
  have HOB := Lib.hid OB
  have HOC := Lib.hid OC
  clear SA SB SC HB OA OB OC OT
  have L1 : Hid (∀ W : World, SV (W.alloc (.cells #[.int .i64 1, .int .i64 10] 27)) (.agg #[.int .i64 22, .int .i64 2, .slice (some ⟨W.heap.size, 0, none⟩) 1 1, .slice none 0 0]) 22 2 [(1, 10)] []) := Lib.hid fun W => ⟨_, 1, none, 0, rfl, (OW.new W 27 (cT [(1, 10)])).rl, RL_nil, (fun e => (by cases e)), fun _ => ⟨rfl, rfl⟩, ⟨Nat.le_refl _, by omega⟩, ⟨Nat.le_refl _, by omega⟩⟩
  have L2 : Hid (∀ W : World, SV (W.alloc (.cells #[.int .i64 1] 3)) (.agg #[.int .i64 18, .int .i64 1, .slice none 0 0, .slice (some ⟨W.heap.size, 0, none⟩) 1 1]) 18 1 [] [1]) := Lib.hid fun W => ⟨none, 0, _, 1, rfl, RL_nil, (OW.new W 3 (cI [1])).rl, fun _ => ⟨rfl, rfl⟩, (fun e => (by cases e)), ⟨Nat.le_refl _, by omega⟩, ⟨Nat.le_refl _, by omega⟩⟩
  go_upto_region 9 with (first
    | (go_at_call 17; with_reducible refine (same_yes _ _ 22 2 [(1, 10)] [] _ (HSA.out.keep (bel_a W7 _)) (L1.out W7) (by simp) (by simp)).mono ?_; rintro e w8 ⟨rfl, h8⟩
       have S8 := Lib.hid (bel_step (bel_a W7 (.cells #[.int .i64 1, .int .i64 10] 27)) h8)
       obtain ⟨q0, q1, q2, q3⟩ := cell4 (HOB.out.keep S8.out))
    | (go_at_call 17; with_reducible refine (same_yes _ _ 18 1 [] [1] _ ((HSB.out.keep S8.out).keep (bel_a w8 _)) (L2.out w8) (by simp) (by simp)).mono ?_; rintro e w9 ⟨rfl, h9⟩
       have S9 := Lib.hid (bel_step S8.out (bel_step (bel_a w8 (.cells #[.int .i64 1] 3)) h9))
       obtain ⟨r0, r1, r2, r3⟩ := cell4 (HOC.out.keep S9.out))
    | (go_at_call 17; with_reducible refine (same_yes _ _ 22 2 [] [] _ (HSC.out.keep S9.out) (sv_lit _ _ _) (by simp) (by simp)).mono ?_; rintro e w10 ⟨rfl, h10⟩
       have S10 := Lib.hid (bel_step S9.out h10)))
  obtain ⟨g0, g1, g2, g3⟩ := cell4 (HOA.out.keep S10.out)
  go_wp2_with (first
    | (go_at_call 18; with_reducible refine (val_sv _ 22 2 [(1, 10)] [] _ (HSA.out.keep S10.out) true vB_a).mono ?_; rintro e w11 ⟨rfl, h11⟩
       have S11 := Lib.hid (bel_step S10.out h11)
       obtain ⟨f0, f1, f2, f3⟩ := cell4 (HOB.out.keep S11.out))
    | (go_at_call 18; with_reducible refine (val_sv _ 18 1 [] [1] _ (HSB.out.keep S11.out) true vB_b).mono ?_; rintro e w12 ⟨rfl, h12⟩
       have S12 := Lib.hid (bel_step S11.out h12))
    | (go_at_call 18; with_reducible refine (val_sv _ 0 0 [] [] _ (sv_lit _ _ _) false vB_z).mono ?_; rintro e w13 ⟨rfl, h13⟩
       have S13 := Lib.hid (bel_step S12.out h13)))
  go_ret
  exact ⟨rfl, bel_step HHB.out S13.out⟩
end Go.Proofs.Yteeohndgkfilaaa
