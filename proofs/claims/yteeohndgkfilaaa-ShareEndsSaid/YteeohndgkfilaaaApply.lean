/-
  THE WALKS over apply: what one move does to two controllers, each way.
-/
import Derived.Test.YteeohndgkfilaaaPair
import Derived.Test.YteeohndgkfilaaaHead
namespace Go.Proofs.Yteeohndgkfilaaa
open Go.RowKit
set_option linter.unusedVariables false
attribute [local go_sem ↓] Go.wp_at_zero Go.wp_at_succ

theorem SF.new {N : Nat} {h nx : Value} {A : Option Addr} {n : Nat} {B : Option Addr} {m : Nat} (x : SF N (.agg #[h, nx, .slice A n n, .slice B m m])) : (∀ g, adr A = some g → N ≤ g) ∧ (∀ g, adr B = some g → N ≤ g) := by
  obtain ⟨_, _, gO, _, gI, _, e, h1, h2⟩ := x
  injection e with e
  have e5 := congrArg (fun l : Array Value => l.toList) e
  simp at e5
  obtain ⟨_, _, ⟨rfl, _⟩, rfl, _⟩ := e5
  refine ⟨fun g hg => ?_, fun g hg => ?_⟩
  · simp [adr] at hg; subst hg; exact h1
  · simp [adr] at hg; subst hg; exact h2
theorem send_n0 (v : Value) (h nx : Int) (O : List (Int × Int)) (I : List Int) (a : Int) (w : World) (hs : SV w v h nx O I) (he : sE h nx O I a = 0) :
    Calls Try.prog 11 #[v, .int .i64 a] w fun e w' => ∃ A' n' B' m', e = .returned (.tuple #[.agg #[.int .i64 (h - a), .int .i64 (nx + 1), .slice A' n' n', .slice B' m' m'], .agg #[.int .i64 nx, .int .i64 a], .int .i64 0]) ∧ SC w' (h - a) (nx + 1) A' n' B' m' (O ++ [(nx, a)]) I ∧ ((∀ g, adr A' = some g → w.heap.size ≤ g) ∧ (∀ g, adr B' = some g → w.heap.size ≤ g)) ∧ Below w.heap.size w w' := by
  obtain ⟨hv, ha, hh, h64, hnx⟩ := sE0 he
  obtain ⟨A, c, B, d, rfl, hRO, hRI, hAn, hBn, hc, hd⟩ := hs
  refine (send_okF h nx A _ c B _ d O I a w rfl rfl hRO hRI hAn hBn (vB_iff.2 hv) ha hh h64 hnx).mono ?_
  rintro e w' ⟨⟨v', rfl, h1, h2⟩, hb⟩
  obtain ⟨u0, u1, u2, u3, rfl, hs'⟩ := h1.sc
  exact ⟨u0, u1, u2, u3, rfl, hs', h2.new, hb⟩
theorem recv_n0 (v : Value) (h nx : Int) (O : List (Int × Int)) (I : List Int) (x y : Int) (w : World) (hs : SV w v h nx O I) (he : rE h nx O I x y = 0) :
    Calls Try.prog 13 #[v, .agg #[.int .i64 x, .int .i64 y]] w fun e w' => ∃ A' n' B' m', e = .returned (.tuple #[.agg #[.int .i64 (h + y), .int .i64 nx, .slice A' n' n', .slice B' m' m'], .int .i64 0]) ∧ SC w' (h + y) nx A' n' B' m' O (insO x I) ∧ ((∀ g, adr A' = some g → w.heap.size ≤ g) ∧ (∀ g, adr B' = some g → w.heap.size ≤ g)) ∧ Below w.heap.size w w' := by
  obtain ⟨hv, ht, hx, h64, hr⟩ := rE0 he
  obtain ⟨A, c, B, d, rfl, hRO, hRI, hAn, hBn, hc, hd⟩ := hs
  refine (recv_okF h nx A _ c B _ d O I x y w (by omega) (by omega) rfl rfl hRO hRI hAn hBn (vB_iff.2 hv) ht hx h64 hr).mono ?_
  rintro e w' ⟨⟨v', rfl, h1, h2⟩, hb⟩
  obtain ⟨u0, u1, u2, u3, rfl, hs'⟩ := h1.sc
  exact ⟨u0, u1, u2, u3, rfl, hs', h2.new, hb⟩
theorem ack_n0 (v : Value) (h nx : Int) (O : List (Int × Int)) (I : List Int) (x : Int) (w : World) (hs : SV w v h nx O I) (he : aE h nx O I x = 0) :
    Calls Try.prog 15 #[v, .int .i64 x] w fun e w' => ∃ A' n' B' m', e = .returned (.tuple #[.agg #[.int .i64 h, .int .i64 nx, .slice A' n' n', .slice B' m' m'], .int .i64 0]) ∧ SC w' h nx A' n' B' m' (wo x O) I ∧ ((∀ g, adr A' = some g → w.heap.size ≤ g) ∧ (∀ g, adr B' = some g → w.heap.size ≤ g)) ∧ Below w.heap.size w w' := by
  obtain ⟨hv, hx⟩ := aE0 he
  obtain ⟨A, c, B, d, rfl, hRO, hRI, hAn, hBn, hc, hd⟩ := hs
  refine (ack_okF h nx A _ c B _ d O I x w (by omega) (by omega) rfl rfl hRO hRI hAn hBn (vB_iff.2 hv) hx).mono ?_
  rintro e w' ⟨⟨v', rfl, h1, h2⟩, hb⟩
  obtain ⟨u0, u1, u2, u3, rfl, hs'⟩ := h1.sc
  exact ⟨u0, u1, u2, u3, rfl, hs', h2.new, hb⟩
theorem PM.drew {W : World} {p : Nat} {h0 nx0 : Int} {A0 : Option Addr} {n0 : Nat} {B0 : Option Addr} {m0 : Nat} {h1 nx1 : Int} {A1 : Option Addr} {n1 : Nat} {B1 : Option Addr} {m1 : Nat} {s0 s1 k0 k1 : Value} {O0 : List (Int × Int)} {I0 : List Int} {Z0 : List (Int × Int)} {K0 : List Int} {O1 : List (Int × Int)} {I1 : List Int} {Z1 : List (Int × Int)} {K1 : List Int} (h : PM W p h0 nx0 A0 n0 B0 m0 h1 nx1 A1 n1 B1 m1 s0 s1 k0 k1 O0 I0 Z0 K0 O1 I1 Z1 K1) : PM W.drew p h0 nx0 A0 n0 B0 m0 h1 nx1 A1 n1 B1 m1 s0 s1 k0 k1 O0 I0 Z0 K0 O1 I1 Z1 K1 := h
theorem SC.drew {W : World} {h nx : Int} {A : Option Addr} {n : Nat} {B : Option Addr} {m : Nat} {O : List (Int × Int)} {I : List Int} (x : SC W h nx A n B m O I) : SC W.drew h nx A n B m O I := x
theorem cell3 {W : World} {b : Nat} {t : TypeId} {x0 x1 x2 : Value} (h : OW W b t [x0, x1, x2]) : W.cell? ⟨b, 0, none⟩ = some x0 ∧ W.cell? ⟨b, 1, none⟩ = some x1 ∧ W.cell? ⟨b, 2, none⟩ = some x2 := ⟨h.at rfl, h.at rfl, h.at rfl⟩
theorem cell12 {W : World} {b : Nat} {t : TypeId} {x0 x1 x2 x3 x4 x5 x6 x7 x8 x9 x10 x11 : Value} (h : OW W b t [x0, x1, x2, x3, x4, x5, x6, x7, x8, x9, x10, x11]) : W.cell? ⟨b, 0, none⟩ = some x0 ∧ W.cell? ⟨b, 1, none⟩ = some x1 ∧ W.cell? ⟨b, 2, none⟩ = some x2 ∧ W.cell? ⟨b, 3, none⟩ = some x3 ∧ W.cell? ⟨b, 4, none⟩ = some x4 ∧ W.cell? ⟨b, 5, none⟩ = some x5 ∧ W.cell? ⟨b, 6, none⟩ = some x6 ∧ W.cell? ⟨b, 7, none⟩ = some x7 ∧ W.cell? ⟨b, 8, none⟩ = some x8 ∧ W.cell? ⟨b, 9, none⟩ = some x9 ∧ W.cell? ⟨b, 10, none⟩ = some x10 ∧ W.cell? ⟨b, 11, none⟩ = some x11 := ⟨h.at rfl, h.at rfl, h.at rfl, h.at rfl, h.at rfl, h.at rfl, h.at rfl, h.at rfl, h.at rfl, h.at rfl, h.at rfl, h.at rfl⟩
set_option maxRecDepth 100000 in
set_option maxHeartbeats 4000000 in
theorem ap_send_no0 (p : Nat) (h0 nx0 : Int) (A0 : Option Addr) (n0 : Nat) (B0 : Option Addr) (m0 : Nat) (h1 nx1 : Int) (A1 : Option Addr) (n1 : Nat) (B1 : Option Addr) (m1 : Nat) (s0 s1 k0 k1 : Value) (O0 : List (Int × Int)) (I0 : List Int) (Z0 : List (Int × Int)) (K0 : List Int) (O1 : List (Int × Int)) (I1 : List Int) (Z1 : List (Int × Int)) (K1 : List Int) (d k : Int) (w : World) (hk : 0 ≤ k ∧ k ≤ 255) (hpm : PM w p h0 nx0 A0 n0 B0 m0 h1 nx1 A1 n1 B1 m1 s0 s1 k0 k1 O0 I0 Z0 K0 O1 I1 Z1 K1) (h3 : d.tmod 3 = 0) (er : Int) (hE : sE h0 nx0 O0 I0 (1 + k % 20) = er) (he0 : er ≠ 0) :
    Calls Try.prog 21 #[.pointer (some ⟨p, 0, none⟩), .agg #[.int .u8 d, .bool false, .int .u8 k]] w fun e w' => e = .returned (.bool true) ∧ PM w' p h0 nx0 A0 n0 B0 m0 h1 nx1 A1 n1 B1 m1 s0 s1 k0 k1 O0 I0 Z0 K0 O1 I1 Z1 K1 ∧ Below p w w' := by
  have HER := Lib.hid hE
  have HE0 := Lib.hid he0
  have e0 : (er == 0) = false := by simpa using he0
  clear hE he0
  have HM := Lib.hid hpm
  have hlt := hpm.1.lt
  have HMV := Lib.hid (OW.new w 43 [.int .u8 d, .bool false, .int .u8 k])
  have HM1 := Lib.hid (hpm.keep (bel_a w (.cells #[.int .u8 d, .bool false, .int .u8 k] 43)))
  have HB1 := Lib.hid (bel_a w (.cells #[.int .u8 d, .bool false, .int .u8 k] 43))
  clear hpm
  go_enter Try.func21, Try.ntmps21
  go_upto_region 1 with (fail)
  obtain ⟨W1, eW⟩ : ∃ W, w.alloc (.cells #[.int .u8 d, .bool false, .int .u8 k] 43) = W := ⟨_, rfl⟩
  have eWs : W1.heap.size = w.heap.size + 1 := by rw [← eW]; simp
  rw [eW] at HMV HM1 HB1 ⊢
  clear eW
  obtain ⟨b3, eB⟩ : ∃ b, w.heap.size = b := ⟨_, rfl⟩
  have HE3 := Lib.hid eB
  rw [eB] at HMV hlt eWs ⊢
  clear eB
  obtain ⟨m0', m1', m2'⟩ := cell3 HMV.out
  obtain ⟨c0, c1, c2, c3, c4, c5, c6, c7, c8, c9, c10, c11⟩ := cell12 HM1.out.1
  have hlt1 : p < W1.heap.size := HM1.out.1.lt
  clear eWs
  have HSV0 := Lib.hid HM1.out.2.1.sv
  have HSV1 := Lib.hid HM1.out.2.2.1.sv
  have hbp : Hid (Below p w W1) := Lib.hid (HB1.out.mono (by rw [HE3.out]; omega))
  go_wp2_with (first
    | (go_at_call 11; with_reducible refine (send_x _ h0 nx0 O0 I0 (1 + k % 20) _ er HSV0.out HER.out HE0.out).mono ?_; rintro e wa ⟨rfl, hw⟩))
  go_ret
  exact ⟨rfl, HM1.out.keep (bel_alloc (bel_step (Below.refl _ _) hw) _ |> fun q => bel_alloc q _), (hbp.out.trans ((bel_alloc (bel_alloc hw _) _).mono (by omega)))⟩

set_option maxRecDepth 100000 in
set_option maxHeartbeats 4000000 in
theorem ap_send_ok0 (p : Nat) (h0 nx0 : Int) (A0 : Option Addr) (n0 : Nat) (B0 : Option Addr) (m0 : Nat) (h1 nx1 : Int) (A1 : Option Addr) (n1 : Nat) (B1 : Option Addr) (m1 : Nat) (s0 s1 k0 k1 : Value) (O0 : List (Int × Int)) (I0 : List Int) (Z0 : List (Int × Int)) (K0 : List Int) (O1 : List (Int × Int)) (I1 : List Int) (Z1 : List (Int × Int)) (K1 : List Int) (d k : Int) (w : World) (hk : 0 ≤ k ∧ k ≤ 255) (hpm : PM w p h0 nx0 A0 n0 B0 m0 h1 nx1 A1 n1 B1 m1 s0 s1 k0 k1 O0 I0 Z0 K0 O1 I1 Z1 K1) (h3 : d.tmod 3 = 0) (hE : sE h0 nx0 O0 I0 (1 + k % 20) = 0) (hZ : Z0.length ≤ 1000) :
    Calls Try.prog 21 #[.pointer (some ⟨p, 0, none⟩), .agg #[.int .u8 d, .bool false, .int .u8 k]] w fun e w' => e = .returned (.bool true) ∧ (∃ A' n' B' m' s', PM w' p (h0 - (1 + k % 20)) (nx0 + 1) A' n' B' m' h1 nx1 A1 n1 B1 m1 s' s1 k0 k1 (O0 ++ [(nx0, (1 + k % 20))]) I0 (Z0 ++ [(nx0, (1 + k % 20))]) K0 O1 I1 Z1 K1) ∧ Below p w w' := by
  have HER := Lib.hid hE
  clear hE
  obtain ⟨i0, hi, hz0, hz1, hz2⟩ := info_parts infoTr
  have HI := Lib.hid hi
  have HZ0 := Lib.hid hz0
  have HZ1 := Lib.hid hz1
  have HZ2 := Lib.hid hz2
  clear hi hz0 hz1 hz2
  have HM := Lib.hid hpm
  have hlt := hpm.1.lt
  have HMV := Lib.hid (OW.new w 43 [.int .u8 d, .bool false, .int .u8 k])
  have HM1 := Lib.hid (hpm.keep (bel_a w (.cells #[.int .u8 d, .bool false, .int .u8 k] 43)))
  have HB1 := Lib.hid (bel_a w (.cells #[.int .u8 d, .bool false, .int .u8 k] 43))
  clear hpm
  go_enter Try.func21, Try.ntmps21
  go_upto_region 1 with (fail)
  obtain ⟨W1, eW⟩ : ∃ W, w.alloc (.cells #[.int .u8 d, .bool false, .int .u8 k] 43) = W := ⟨_, rfl⟩
  have eWs : W1.heap.size = w.heap.size + 1 := by rw [← eW]; simp
  rw [eW] at HMV HM1 HB1 ⊢
  clear eW
  obtain ⟨b3, eB⟩ : ∃ b, w.heap.size = b := ⟨_, rfl⟩
  have HE3 := Lib.hid eB
  rw [eB] at HMV hlt eWs ⊢
  clear eB
  obtain ⟨m0', m1', m2'⟩ := cell3 HMV.out
  obtain ⟨c0, c1, c2, c3, c4, c5, c6, c7, c8, c9, c10, c11⟩ := cell12 HM1.out.1
  have hlt1 : p < W1.heap.size := HM1.out.1.lt
  clear eWs
  have HSV0 := Lib.hid HM1.out.2.1.sv
  have HSV1 := Lib.hid HM1.out.2.2.1.sv
  have hbp : Hid (Below p w W1) := Lib.hid (HB1.out.mono (by rw [HE3.out]; omega))
  go_upto_region 15 with (first
    | (go_at_call 11; with_reducible refine (send_n0 _ h0 nx0 O0 I0 (1 + k % 20) _ HSV0.out HER.out).mono ?_; rintro e wa ⟨A', n', B', m', rfl, sc1, fr1, hw⟩))
  clear m0' m1' m2' c0 c1 c2 c3 c4 c5 c6 c7 c8 c9 c10 c11
  have HAP := Lib.hid (HM1.out.new0 fr1.1 fr1.2)
  have Q7 := Lib.hid ((OW.new wa 25 [.int .i64 (h0 - (1 + k % 20)), .int .i64 (nx0 + 1), .slice A' n' n', .slice B' m' m']).alloc (.cells #[.int .i64 nx0, .int .i64 (1 + k % 20)] 27))
  have Q8 := Lib.hid (OW.new1 wa (.cells #[.int .i64 (h0 - (1 + k % 20)), .int .i64 (nx0 + 1), .slice A' n' n', .slice B' m' m'] 25) 27 [.int .i64 nx0, .int .i64 (1 + k % 20)])
  have hw2 := bel_step hw (bel_alloc (bel_a wa (.cells #[.int .i64 (h0 - (1 + k % 20)), .int .i64 (nx0 + 1), .slice A' n' n', .slice B' m' m'] 25)) (.cells #[.int .i64 nx0, .int .i64 (1 + k % 20)] 27))
  have HSC := Lib.hid (sc1.keep (bel_alloc (bel_a wa (.cells #[.int .i64 (h0 - (1 + k % 20)), .int .i64 (nx0 + 1), .slice A' n' n', .slice B' m' m'] 25)) (.cells #[.int .i64 nx0, .int .i64 (1 + k % 20)] 27)))
  have HM2 := Lib.hid (HM1.out.keep hw2)
  have HB2 : Hid (Below p w ((wa.alloc (.cells #[.int .i64 (h0 - (1 + k % 20)), .int .i64 (nx0 + 1), .slice A' n' n', .slice B' m' m'] 25)).alloc (.cells #[.int .i64 nx0, .int .i64 (1 + k % 20)] 27))) := Lib.hid (hbp.out.trans (hw2.mono (by omega)))
  obtain ⟨W2, eW⟩ : ∃ W, (wa.alloc (.cells #[.int .i64 (h0 - (1 + k % 20)), .int .i64 (nx0 + 1), .slice A' n' n', .slice B' m' m'] 25)).alloc (.cells #[.int .i64 nx0, .int .i64 (1 + k % 20)] 27) = W := ⟨_, rfl⟩
  rw [eW] at Q7 Q8 HSC HM2 HB2 ⊢
  clear eW sc1 hw hw2 fr1
  obtain ⟨b8, eB⟩ : ∃ b, wa.heap.size + 1 = b := ⟨_, rfl⟩
  rw [eB] at Q8 ⊢
  obtain ⟨b7, eC⟩ : ∃ b, wa.heap.size = b := ⟨_, rfl⟩
  rw [eC] at Q7 ⊢
  clear eB eC
  have l7 := Q7.out.lt
  have l8 := Q8.out.lt
  have lp := HM2.out.1.lt
  have np7 : b7 ≠ p := fun e => by
    have q1 := Q7.out
    have q2 := HM2.out.1
    rw [e] at q1
    have q3 := (q1 : W2.heap[p]? = _).symm.trans q2
    injection q3 with q4
    injection q4 with _ q5
    exact absurd q5 (by decide)
  have np8 : b8 ≠ p := fun e => by
    have q1 := Q8.out
    have q2 := HM2.out.1
    rw [e] at q1
    have q3 := (q1 : W2.heap[p]? = _).symm.trans q2
    injection q3 with q4
    injection q4 with _ q5
    exact absurd q5 (by decide)
  obtain ⟨c0, c1, c2, c3, c4, c5, c6, c7, c8, c9, c10, c11⟩ := cell12 HM2.out.1
  obtain ⟨y0, y1, y2, y3⟩ := cell4 Q7.out
  have z0 := HM2.out.1.thaw 0
  have z1 := HM2.out.1.thaw 1
  have z2 := HM2.out.1.thaw 2
  have z3 := HM2.out.1.thaw 3
  have v1 : ¬ b7 = p := np7
  have v2 : ¬ p = b7 := fun e => np7 e.symm
  go_cut [] (fun wx => PM wx p (h0 - (1 + k % 20)) (nx0 + 1) A' n' B' m' h1 nx1 A1 n1 B1 m1 s0 s1 k0 k1 (O0 ++ [(nx0, (1 + k % 20))]) I0 Z0 K0 O1 I1 Z1 K1 ∧ OW wx b8 27 [.int .i64 nx0, .int .i64 (1 + k % 20)] ∧ Below p w wx)
  case first =>
    go_region_law (fail)
    all_goals ((try go_wp2_with fail); go_meet)
    all_goals (exact ⟨(HM2.out.share0 HSC.out HAP.out).drew, (((Q8.out.far (Ne.symm np8) 0 _).far (Ne.symm np8) 1 _).far (Ne.symm np8) 2 _ |>.far (Ne.symm np8) 3 _).drew, Below.drew ((((HB2.out.setCell (p := ⟨p, 0, none⟩) (Nat.le_refl p) _).setCell (p := ⟨p, 1, none⟩) (Nat.le_refl p) _).setCell (p := ⟨p, 2, none⟩) (Nat.le_refl p) _).setCell (p := ⟨p, 3, none⟩) (Nat.le_refl p) _)⟩)
  case rest =>
    obtain ⟨hp3, q8, hb3⟩ := hcut
    have HM3 := Lib.hid hp3
    have HB3 := Lib.hid hb3
    have lp3 := hp3.1.lt
    have l83 := q8.lt
    obtain ⟨y0, y1⟩ := cell2 q8
    have HX := Lib.hid ((hp3.keep (bel_a wc (.cells #[.int .i64 nx0, .int .i64 (1 + k % 20)] 27))).drew)
    have HN := Lib.hid ((OW.new wc 27 [.int .i64 nx0, .int .i64 (1 + k % 20)]).drew)
    have HBX := Lib.hid (Below.drew (hb3.alloc (show p ≤ wc.heap.size by omega) (.cells #[.int .i64 nx0, .int .i64 (1 + k % 20)] 27)))
    clear c0 c1 c2 c3 c4 c5 c6 c7 c8 c9 c10 c11 z0 z1 z2 z3 hp3 hb3 HM2 Q7 Q8 HSC HB2
    have cs := HM3.out.1.at (j := 8) rfl
    go_upto_region 16 with (fail)
    go_region_law (first
      | (refine step_rlf _ (by rfl) (.tmp 97) (.tmp 99) 22 (by rfl) (p + 1) 27 i0 _ 2 16 Try.underlying22 HI.out HZ0.out HZ1.out HZ2.out (by rfl) (by omega) _ _ _ (by rfl) HX.out.2.2.2.1 _ 1 1 [.int .i64 nx0, .int .i64 (1 + k % 20)] (by rfl) (by rfl) HN.out (one2 _ _) (by unfold maxLen; omega) (by omega) (by first | omega | (simp <;> omega)) ?_; intro v1' wA hown1 hgrow1 hfr1
         obtain ⟨Av, cv, rfl, _, _⟩ := own_form hown1
         have hown2 : wA.ownsRow (p + 1) 27 2 (.slice Av (Z0.length + 1) cv) (Z0 ++ [(nx0, (1 + k % 20))]).length (cT (Z0 ++ [(nx0, (1 + k % 20))])) := by rw [List.length_append, ← cT_snoc]; exact hown1
         have hpa := HX.out.1.grow hgrow1 (own_blk HX.out.2.2.2.1 (Nat.lt_succ_self p))
         have ca := hpa.at (j := 8) rfl; have za := hpa.thaw 8; have hba := Below.grown HBX.out hgrow1 (by first | omega | (simp <;> omega)) (fun g hg => Nat.le_of_lt (own_ge HX.out.2.2.2.1 g hg)); clear hown1))
    all_goals (go_wp2_with fail)
    all_goals go_ret
    all_goals (exact ⟨rfl, ⟨_, _, _, _, _, HX.out.row0 hgrow1 hown2 hfr1⟩, hba.setCell (Nat.le_refl p) _⟩)

set_option maxRecDepth 100000 in
set_option maxHeartbeats 4000000 in
theorem ap_send_no1 (p : Nat) (h0 nx0 : Int) (A0 : Option Addr) (n0 : Nat) (B0 : Option Addr) (m0 : Nat) (h1 nx1 : Int) (A1 : Option Addr) (n1 : Nat) (B1 : Option Addr) (m1 : Nat) (s0 s1 k0 k1 : Value) (O0 : List (Int × Int)) (I0 : List Int) (Z0 : List (Int × Int)) (K0 : List Int) (O1 : List (Int × Int)) (I1 : List Int) (Z1 : List (Int × Int)) (K1 : List Int) (d k : Int) (w : World) (hk : 0 ≤ k ∧ k ≤ 255) (hpm : PM w p h0 nx0 A0 n0 B0 m0 h1 nx1 A1 n1 B1 m1 s0 s1 k0 k1 O0 I0 Z0 K0 O1 I1 Z1 K1) (h3 : d.tmod 3 = 0) (er : Int) (hE : sE h1 nx1 O1 I1 (1 + k % 20) = er) (he0 : er ≠ 0) :
    Calls Try.prog 21 #[.pointer (some ⟨p, 0, none⟩), .agg #[.int .u8 d, .bool true, .int .u8 k]] w fun e w' => e = .returned (.bool true) ∧ PM w' p h0 nx0 A0 n0 B0 m0 h1 nx1 A1 n1 B1 m1 s0 s1 k0 k1 O0 I0 Z0 K0 O1 I1 Z1 K1 ∧ Below p w w' := by
  have HER := Lib.hid hE
  have HE0 := Lib.hid he0
  have e0 : (er == 0) = false := by simpa using he0
  clear hE he0
  have HM := Lib.hid hpm
  have hlt := hpm.1.lt
  have HMV := Lib.hid (OW.new w 43 [.int .u8 d, .bool true, .int .u8 k])
  have HM1 := Lib.hid (hpm.keep (bel_a w (.cells #[.int .u8 d, .bool true, .int .u8 k] 43)))
  have HB1 := Lib.hid (bel_a w (.cells #[.int .u8 d, .bool true, .int .u8 k] 43))
  clear hpm
  go_enter Try.func21, Try.ntmps21
  go_upto_region 1 with (fail)
  obtain ⟨W1, eW⟩ : ∃ W, w.alloc (.cells #[.int .u8 d, .bool true, .int .u8 k] 43) = W := ⟨_, rfl⟩
  have eWs : W1.heap.size = w.heap.size + 1 := by rw [← eW]; simp
  rw [eW] at HMV HM1 HB1 ⊢
  clear eW
  obtain ⟨b3, eB⟩ : ∃ b, w.heap.size = b := ⟨_, rfl⟩
  have HE3 := Lib.hid eB
  rw [eB] at HMV hlt eWs ⊢
  clear eB
  obtain ⟨m0', m1', m2'⟩ := cell3 HMV.out
  obtain ⟨c0, c1, c2, c3, c4, c5, c6, c7, c8, c9, c10, c11⟩ := cell12 HM1.out.1
  have hlt1 : p < W1.heap.size := HM1.out.1.lt
  clear eWs
  have HSV0 := Lib.hid HM1.out.2.1.sv
  have HSV1 := Lib.hid HM1.out.2.2.1.sv
  have hbp : Hid (Below p w W1) := Lib.hid (HB1.out.mono (by rw [HE3.out]; omega))
  go_wp2_with (first
    | (go_at_call 11; with_reducible refine (send_x _ h1 nx1 O1 I1 (1 + k % 20) _ er HSV1.out HER.out HE0.out).mono ?_; rintro e wa ⟨rfl, hw⟩))
  go_ret
  exact ⟨rfl, HM1.out.keep (bel_alloc (bel_step (Below.refl _ _) hw) _ |> fun q => bel_alloc q _), (hbp.out.trans ((bel_alloc (bel_alloc hw _) _).mono (by omega)))⟩

set_option maxRecDepth 100000 in
set_option maxHeartbeats 4000000 in
theorem ap_send_ok1 (p : Nat) (h0 nx0 : Int) (A0 : Option Addr) (n0 : Nat) (B0 : Option Addr) (m0 : Nat) (h1 nx1 : Int) (A1 : Option Addr) (n1 : Nat) (B1 : Option Addr) (m1 : Nat) (s0 s1 k0 k1 : Value) (O0 : List (Int × Int)) (I0 : List Int) (Z0 : List (Int × Int)) (K0 : List Int) (O1 : List (Int × Int)) (I1 : List Int) (Z1 : List (Int × Int)) (K1 : List Int) (d k : Int) (w : World) (hk : 0 ≤ k ∧ k ≤ 255) (hpm : PM w p h0 nx0 A0 n0 B0 m0 h1 nx1 A1 n1 B1 m1 s0 s1 k0 k1 O0 I0 Z0 K0 O1 I1 Z1 K1) (h3 : d.tmod 3 = 0) (hE : sE h1 nx1 O1 I1 (1 + k % 20) = 0) (hZ : Z1.length ≤ 1000) :
    Calls Try.prog 21 #[.pointer (some ⟨p, 0, none⟩), .agg #[.int .u8 d, .bool true, .int .u8 k]] w fun e w' => e = .returned (.bool true) ∧ (∃ A' n' B' m' s', PM w' p h0 nx0 A0 n0 B0 m0 (h1 - (1 + k % 20)) (nx1 + 1) A' n' B' m' s0 s' k0 k1 O0 I0 Z0 K0 (O1 ++ [(nx1, (1 + k % 20))]) I1 (Z1 ++ [(nx1, (1 + k % 20))]) K1) ∧ Below p w w' := by
  have HER := Lib.hid hE
  clear hE
  obtain ⟨i0, hi, hz0, hz1, hz2⟩ := info_parts infoTr
  have HI := Lib.hid hi
  have HZ0 := Lib.hid hz0
  have HZ1 := Lib.hid hz1
  have HZ2 := Lib.hid hz2
  clear hi hz0 hz1 hz2
  have HM := Lib.hid hpm
  have hlt := hpm.1.lt
  have HMV := Lib.hid (OW.new w 43 [.int .u8 d, .bool true, .int .u8 k])
  have HM1 := Lib.hid (hpm.keep (bel_a w (.cells #[.int .u8 d, .bool true, .int .u8 k] 43)))
  have HB1 := Lib.hid (bel_a w (.cells #[.int .u8 d, .bool true, .int .u8 k] 43))
  clear hpm
  go_enter Try.func21, Try.ntmps21
  go_upto_region 1 with (fail)
  obtain ⟨W1, eW⟩ : ∃ W, w.alloc (.cells #[.int .u8 d, .bool true, .int .u8 k] 43) = W := ⟨_, rfl⟩
  have eWs : W1.heap.size = w.heap.size + 1 := by rw [← eW]; simp
  rw [eW] at HMV HM1 HB1 ⊢
  clear eW
  obtain ⟨b3, eB⟩ : ∃ b, w.heap.size = b := ⟨_, rfl⟩
  have HE3 := Lib.hid eB
  rw [eB] at HMV hlt eWs ⊢
  clear eB
  obtain ⟨m0', m1', m2'⟩ := cell3 HMV.out
  obtain ⟨c0, c1, c2, c3, c4, c5, c6, c7, c8, c9, c10, c11⟩ := cell12 HM1.out.1
  have hlt1 : p < W1.heap.size := HM1.out.1.lt
  clear eWs
  have HSV0 := Lib.hid HM1.out.2.1.sv
  have HSV1 := Lib.hid HM1.out.2.2.1.sv
  have hbp : Hid (Below p w W1) := Lib.hid (HB1.out.mono (by rw [HE3.out]; omega))
  go_upto_region 15 with (first
    | (go_at_call 11; with_reducible refine (send_n0 _ h1 nx1 O1 I1 (1 + k % 20) _ HSV1.out HER.out).mono ?_; rintro e wa ⟨A', n', B', m', rfl, sc1, fr1, hw⟩))
  clear m0' m1' m2' c0 c1 c2 c3 c4 c5 c6 c7 c8 c9 c10 c11
  have HAP := Lib.hid (HM1.out.new1 fr1.1 fr1.2)
  have Q7 := Lib.hid ((OW.new wa 25 [.int .i64 (h1 - (1 + k % 20)), .int .i64 (nx1 + 1), .slice A' n' n', .slice B' m' m']).alloc (.cells #[.int .i64 nx1, .int .i64 (1 + k % 20)] 27))
  have Q8 := Lib.hid (OW.new1 wa (.cells #[.int .i64 (h1 - (1 + k % 20)), .int .i64 (nx1 + 1), .slice A' n' n', .slice B' m' m'] 25) 27 [.int .i64 nx1, .int .i64 (1 + k % 20)])
  have hw2 := bel_step hw (bel_alloc (bel_a wa (.cells #[.int .i64 (h1 - (1 + k % 20)), .int .i64 (nx1 + 1), .slice A' n' n', .slice B' m' m'] 25)) (.cells #[.int .i64 nx1, .int .i64 (1 + k % 20)] 27))
  have HSC := Lib.hid (sc1.keep (bel_alloc (bel_a wa (.cells #[.int .i64 (h1 - (1 + k % 20)), .int .i64 (nx1 + 1), .slice A' n' n', .slice B' m' m'] 25)) (.cells #[.int .i64 nx1, .int .i64 (1 + k % 20)] 27)))
  have HM2 := Lib.hid (HM1.out.keep hw2)
  have HB2 : Hid (Below p w ((wa.alloc (.cells #[.int .i64 (h1 - (1 + k % 20)), .int .i64 (nx1 + 1), .slice A' n' n', .slice B' m' m'] 25)).alloc (.cells #[.int .i64 nx1, .int .i64 (1 + k % 20)] 27))) := Lib.hid (hbp.out.trans (hw2.mono (by omega)))
  obtain ⟨W2, eW⟩ : ∃ W, (wa.alloc (.cells #[.int .i64 (h1 - (1 + k % 20)), .int .i64 (nx1 + 1), .slice A' n' n', .slice B' m' m'] 25)).alloc (.cells #[.int .i64 nx1, .int .i64 (1 + k % 20)] 27) = W := ⟨_, rfl⟩
  rw [eW] at Q7 Q8 HSC HM2 HB2 ⊢
  clear eW sc1 hw hw2 fr1
  obtain ⟨b8, eB⟩ : ∃ b, wa.heap.size + 1 = b := ⟨_, rfl⟩
  rw [eB] at Q8 ⊢
  obtain ⟨b7, eC⟩ : ∃ b, wa.heap.size = b := ⟨_, rfl⟩
  rw [eC] at Q7 ⊢
  clear eB eC
  have l7 := Q7.out.lt
  have l8 := Q8.out.lt
  have lp := HM2.out.1.lt
  have np7 : b7 ≠ p := fun e => by
    have q1 := Q7.out
    have q2 := HM2.out.1
    rw [e] at q1
    have q3 := (q1 : W2.heap[p]? = _).symm.trans q2
    injection q3 with q4
    injection q4 with _ q5
    exact absurd q5 (by decide)
  have np8 : b8 ≠ p := fun e => by
    have q1 := Q8.out
    have q2 := HM2.out.1
    rw [e] at q1
    have q3 := (q1 : W2.heap[p]? = _).symm.trans q2
    injection q3 with q4
    injection q4 with _ q5
    exact absurd q5 (by decide)
  obtain ⟨c0, c1, c2, c3, c4, c5, c6, c7, c8, c9, c10, c11⟩ := cell12 HM2.out.1
  obtain ⟨y0, y1, y2, y3⟩ := cell4 Q7.out
  have z0 := HM2.out.1.thaw 4
  have z1 := HM2.out.1.thaw 5
  have z2 := HM2.out.1.thaw 6
  have z3 := HM2.out.1.thaw 7
  have v1 : ¬ b7 = p := np7
  have v2 : ¬ p = b7 := fun e => np7 e.symm
  go_cut [] (fun wx => PM wx p h0 nx0 A0 n0 B0 m0 (h1 - (1 + k % 20)) (nx1 + 1) A' n' B' m' s0 s1 k0 k1 O0 I0 Z0 K0 (O1 ++ [(nx1, (1 + k % 20))]) I1 Z1 K1 ∧ OW wx b8 27 [.int .i64 nx1, .int .i64 (1 + k % 20)] ∧ Below p w wx)
  case first =>
    go_region_law (fail)
    all_goals ((try go_wp2_with fail); go_meet)
    all_goals (exact ⟨(HM2.out.share1 HSC.out HAP.out).drew, (((Q8.out.far (Ne.symm np8) 4 _).far (Ne.symm np8) 5 _).far (Ne.symm np8) 6 _ |>.far (Ne.symm np8) 7 _).drew, Below.drew ((((HB2.out.setCell (p := ⟨p, 4, none⟩) (Nat.le_refl p) _).setCell (p := ⟨p, 5, none⟩) (Nat.le_refl p) _).setCell (p := ⟨p, 6, none⟩) (Nat.le_refl p) _).setCell (p := ⟨p, 7, none⟩) (Nat.le_refl p) _)⟩)
  case rest =>
    obtain ⟨hp3, q8, hb3⟩ := hcut
    have HM3 := Lib.hid hp3
    have HB3 := Lib.hid hb3
    have lp3 := hp3.1.lt
    have l83 := q8.lt
    obtain ⟨y0, y1⟩ := cell2 q8
    have HX := Lib.hid ((hp3.keep (bel_a wc (.cells #[.int .i64 nx1, .int .i64 (1 + k % 20)] 27))).drew)
    have HN := Lib.hid ((OW.new wc 27 [.int .i64 nx1, .int .i64 (1 + k % 20)]).drew)
    have HBX := Lib.hid (Below.drew (hb3.alloc (show p ≤ wc.heap.size by omega) (.cells #[.int .i64 nx1, .int .i64 (1 + k % 20)] 27)))
    clear c0 c1 c2 c3 c4 c5 c6 c7 c8 c9 c10 c11 z0 z1 z2 z3 hp3 hb3 HM2 Q7 Q8 HSC HB2
    have cs := HM3.out.1.at (j := 9) rfl
    go_upto_region 16 with (fail)
    go_region_law (first
      | (refine step_rlf _ (by rfl) (.tmp 97) (.tmp 99) 22 (by rfl) (p + 1) 27 i0 _ 2 16 Try.underlying22 HI.out HZ0.out HZ1.out HZ2.out (by rfl) (by omega) _ _ _ (by rfl) HX.out.2.2.2.2.1 _ 1 1 [.int .i64 nx1, .int .i64 (1 + k % 20)] (by rfl) (by rfl) HN.out (one2 _ _) (by unfold maxLen; omega) (by omega) (by first | omega | (simp <;> omega)) ?_; intro v1' wA hown1 hgrow1 hfr1
         obtain ⟨Av, cv, rfl, _, _⟩ := own_form hown1
         have hown2 : wA.ownsRow (p + 1) 27 2 (.slice Av (Z1.length + 1) cv) (Z1 ++ [(nx1, (1 + k % 20))]).length (cT (Z1 ++ [(nx1, (1 + k % 20))])) := by rw [List.length_append, ← cT_snoc]; exact hown1
         have hpa := HX.out.1.grow hgrow1 (own_blk HX.out.2.2.2.2.1 (Nat.lt_succ_self p))
         have ca := hpa.at (j := 9) rfl; have za := hpa.thaw 9; have hba := Below.grown HBX.out hgrow1 (by first | omega | (simp <;> omega)) (fun g hg => Nat.le_of_lt (own_ge HX.out.2.2.2.2.1 g hg)); clear hown1))
    all_goals (go_wp2_with fail)
    all_goals go_ret
    all_goals (exact ⟨rfl, ⟨_, _, _, _, _, HX.out.row1 hgrow1 hown2 hfr1⟩, hba.setCell (Nat.le_refl p) _⟩)

end Go.Proofs.Yteeohndgkfilaaa
