/-
  THE WALKS over Same, fails and head.
-/
import Derived.Test.YtkmjflkodckflaaRefc
namespace Go.Proofs.Ytkmjflkodckflaa
open Go.RowKit
set_option linter.unusedVariables false
set_option linter.unusedSimpArgs false
attribute [local go_sem ↓] Go.wp_at_zero Go.wp_at_succ

/-- tokens that are the same, at offsets greater by d -/
def SameBy (d : Int) (a b : List Tok) : Prop := a.length = b.length ∧ ∀ i, i < a.length → (atK a i).1 = (atK b i).1 ∧ (atK a i).2.1 = (atK b i).2.1 ∧ (atK a i).2.2.1 = (atK b i).2.2.1 ∧ ((atK a i).2.2.2 : Int) + d = ((atK b i).2.2.2 : Int)
theorem SameBy.refl (a : List Tok) : SameBy 0 a a := ⟨rfl, fun i hi => ⟨rfl, rfl, rfl, by omega⟩⟩
set_option maxRecDepth 100000 in
set_option maxHeartbeats 4000000 in
theorem same_k (A B : Option Addr) (n m c d : Nat) (la lb : List Tok) (dd : Int) (w : World) (hn : n ≤ 5000) (hna : la.length = n) (hnb : lb.length = m) (hA : RL w A (cK la)) (hB : RL w B (cK lb)) (hsame : SameBy dd la lb) (hbd : ∀ t ∈ lb, t.2.2.2 ≤ 100000) :
    Calls Try.prog 12 #[.slice A n c, .slice B m d, .int .i64 dd] w fun e w' => e = .returned (.bool true) ∧ Below w.heap.size w w' := by
  obtain rfl : n = m := by have := hsame.1; omega
  have HA := Lib.hid hA
  have HB := Lib.hid hB
  have HNA := Lib.hid hna
  have HNB := Lib.hid hnb
  have HS := Lib.hid hsame.2
  have HBD := Lib.hid hbd
  clear hA hB hna hnb hsame hbd
  go_enter Try.func12, Try.ntmps12
  go_wp2_with fail
  go_loopw [7] (fun i wr => ∃ k e : Nat, k ≤ n ∧ i = .int .i64 k ∧ wr = w.drewN e) (fun i _ => n - (intOf i).toNat)
  case atStart => exact ⟨0, 0, Nat.zero_le _, rfl, rfl⟩
  case round =>
    obtain ⟨k, e0, hk, rfl, rfl⟩ := hrel
    by_cases hlt : k < n
    · obtain ⟨b, o, rfl, hb, x0, x1, x2, x3⟩ := HA.out.k (i := k) (by have := HNA.out; omega)
      obtain ⟨b', o', rfl, hb', y0, y1, y2, y3⟩ := HB.out.k (i := k) (by have := HNB.out; omega)
      obtain ⟨s1, s2, s3, s4⟩ := HS.out k (by have := HNA.out; omega)
      have hbd := HBD.out (atK lb k) (List.mem_of_getElem? (atK_get (by have := HNB.out; omega)))
      rw [← s1] at y0
      rw [← s2] at y1
      rw [← s3] at y2
      rw [← s4] at y3
      have c0 : (w.drewN e0).cell? ⟨b, o + k * 4, none⟩ = some (.int .i64 (atK la k).1) := x0
      have c1 : (w.drewN e0).cell? ⟨b, o + k * 4 + 1, none⟩ = some (.string (ba (atK la k).2.1)) := x1
      have c2 : (w.drewN e0).cell? ⟨b, o + k * 4 + 2, none⟩ = some (.int .i64 (atK la k).2.2.1) := x2
      have c3 : (w.drewN e0).cell? ⟨b, o + k * 4 + 3, none⟩ = some (.int .i64 ((atK la k).2.2.2 : Int)) := x3
      have d0 : (w.drewN e0).cell? ⟨b', o' + k * 4, none⟩ = some (.int .i64 (atK la k).1) := y0
      have d1 : (w.drewN e0).cell? ⟨b', o' + k * 4 + 1, none⟩ = some (.string (ba (atK la k).2.1)) := y1
      have d2 : (w.drewN e0).cell? ⟨b', o' + k * 4 + 2, none⟩ = some (.int .i64 (atK la k).2.2.1) := y2
      have d3 : (w.drewN e0).cell? ⟨b', o' + k * 4 + 3, none⟩ = some (.int .i64 (((atK la k).2.2.2 : Int) + dd)) := y3
      have wr3 : IntKind.i64.wrap (((atK la k).2.2.2 : Int) + dd) = ((atK la k).2.2.2 : Int) + dd := IntWalk.i64_in _ (by omega)
      obtain ⟨wx, hwx⟩ : ∃ wx, w.drewN e0 = wx := ⟨_, rfl⟩
      rw [hwx] at c0 c1 c2 c3 d0 d1 d2 d3 ⊢
      have HW := Lib.hid hwx
      clear hwx x0 x1 x2 x3 y0 y1 y2 y3 s1 s2 s3 s4 hbd
      generalize (atK la k).1 = K1 at *
      generalize ba (atK la k).2.1 = T1 at *
      generalize (atK la k).2.2.1 = N1 at *
      generalize ((atK la k).2.2.2 : Int) = P1 at *
      have i0 : (0 : Int) ≤ (k : Int) := by omega
      have i1 : (k : Int) < (n : Int) := by omega
      go_wp2_with fail
      go_quiet (fail)
      go_wp2_with fail
      go_roundw
      case rel => exact ⟨k + 1, _, by omega, by go_num, by rw [← HW.out, World.drewN_drewN]⟩
      case measure => simp [intOf] <;> omega
    · obtain rfl : k = n := by omega
      go_wp2_with fail
      all_goals (try (exfalso; omega))
      go_ret
      exact ⟨rfl, below_drewN (Below.refl _ _) _⟩
theorem lex_e (s : ByteArray) (er : Int) (p : Nat) (w : World) (hs : s.size ≤ 20000) (hr : lexS (bl s) = .err er p) :
    Calls Try.prog 10 #[.string s] w fun e w' => e = .returned (.tuple #[.slice none 0 0, .int .i64 er, .int .i64 (p : Int)]) ∧ Below w.heap.size w w' := by
  refine (lex_any s w hs).mono ?_
  rintro e w' ⟨hx, hw⟩
  rw [hr] at hx
  exact ⟨hx, hw⟩
theorem lex_o (s : ByteArray) (ts : List Tok) (w : World) (hs : s.size ≤ 20000) (hr : lexS (bl s) = .ok ts) :
    Calls Try.prog 10 #[.string s] w fun e w' => ∃ A c, e = .returned (.tuple #[.slice A ts.length c, .int .i64 0, .int .i64 0]) ∧ (RL w' A (cK ts) ∧ (A = none → ts.length = 0 ∧ c = 0) ∧ (ts.length ≤ c ∧ c ≤ 9223372036854775807)) ∧ Below w.heap.size w w' := by
  refine (lex_any s w hs).mono ?_
  rintro e w' ⟨hx, hw⟩
  rw [hr] at hx
  obtain ⟨A, c, h1, h2⟩ := hx
  exact ⟨A, c, h1, h2, hw⟩
theorem rlex_e (s : ByteArray) (er : Int) (p : Nat) (w : World) (hs : s.size ≤ 20000) (hr : lexS (bl s) = .err er p) :
    Calls Try.prog 11 #[.string s] w fun e w' => e = .returned (.tuple #[.slice none 0 0, .int .i64 er, .int .i64 (p : Int)]) ∧ Below w.heap.size w w' := by
  refine (rlex_any s w hs).mono ?_
  rintro e w' ⟨hx, hw⟩
  rw [hr] at hx
  exact ⟨hx, hw⟩
theorem rlex_o (s : ByteArray) (ts : List Tok) (w : World) (hs : s.size ≤ 20000) (hr : lexS (bl s) = .ok ts) :
    Calls Try.prog 11 #[.string s] w fun e w' => ∃ A c, e = .returned (.tuple #[.slice A ts.length c, .int .i64 0, .int .i64 0]) ∧ (RL w' A (cK ts) ∧ (A = none → ts.length = 0 ∧ c = 0) ∧ (ts.length ≤ c ∧ c ≤ 9223372036854775807)) ∧ Below w.heap.size w w' := by
  refine (rlex_any s w hs).mono ?_
  rintro e w' ⟨hx, hw⟩
  rw [hr] at hx
  obtain ⟨A, c, h1, h2⟩ := hx
  exact ⟨A, c, h1, h2, hw⟩
/-- a source with an error -/
theorem fails_any (s : ByteArray) (er : Int) (p : Nat) (w : World) (hs : s.size ≤ 20000) (hr : lexS (bl s) = .err er p) :
    Calls Try.prog 17 #[.string s, .int .i64 er, .int .i64 p] w fun e w' => e = .returned (.bool true) ∧ Below w.heap.size w w' := by
  have HR := Lib.hid hr
  clear hr
  go_enter Try.func17, Try.ntmps17
  go_wp2_with (first
    | (go_at_call 10; with_reducible refine (lex_e s er p _ hs HR.out).mono ?_; rintro e w1 ⟨rfl, hw⟩))
  go_ret
  exact ⟨rfl, hw⟩
theorem ex1 : lexS [98, 97, 121, 32, 98, 49, 123, 125, 35, 120] = .ok [(1, [98, 97, 121], 0, 0), (1, [98, 49], 0, 4), (3, [123], 0, 6), (3, [125], 0, 7)] := by
  simp [lexS, lexA_eq, lexB, gapN, tok1, gapB, lowB, digB, namB, punB, valD, valG, Res.pre]
theorem ex2 : lexS [49, 50, 97, 98, 59] = .ok [(2, [], 12, 0), (1, [97, 98], 0, 2), (3, [59], 0, 4)] := by
  simp [lexS, lexA_eq, lexB, gapN, tok1, gapB, lowB, digB, namB, punB, valD, valG, Res.pre]
theorem ex3 : lexS [97, 116, 32, 48, 48, 55] = .err 7 3 := by
  simp [lexS, lexA_eq, lexB, gapN, tok1, gapB, lowB, digB, namB, punB, valD, valG, Res.pre]
theorem ex4 : lexS [97, 109, 112, 115, 32, 49, 48, 48, 48, 48, 48, 49] = .err 3 5 := by
  simp [lexS, lexA_eq, lexB, gapN, tok1, gapB, lowB, digB, namB, punB, valD, valG, Res.pre]
theorem ex5 : lexS [111, 110, 44, 32, 119, 111, 114, 107] = .err 7 2 := by
  simp [lexS, lexA_eq, lexB, gapN, tok1, gapB, lowB, digB, namB, punB, valD, valG, Res.pre]
theorem ex6 : lexS [97, 32, 97, 98, 99, 100, 101, 102, 103, 104, 105, 106, 107, 108, 109] = .err 3 2 := by
  simp [lexS, lexA_eq, lexB, gapN, tok1, gapB, lowB, digB, namB, punB, valD, valG, Res.pre]
theorem fl3 (w : World) : Calls Try.prog 17 #[.string ⟨#[97, 116, 32, 48, 48, 55]⟩, .int .i64 7, .int .i64 3] w fun e w' => e = .returned (.bool true) ∧ Below w.heap.size w w' := fails_any ⟨#[97, 116, 32, 48, 48, 55]⟩ 7 3 w (by decide) ex3
theorem fl4 (w : World) : Calls Try.prog 17 #[.string ⟨#[97, 109, 112, 115, 32, 49, 48, 48, 48, 48, 48, 49]⟩, .int .i64 3, .int .i64 5] w fun e w' => e = .returned (.bool true) ∧ Below w.heap.size w w' := fails_any ⟨#[97, 109, 112, 115, 32, 49, 48, 48, 48, 48, 48, 49]⟩ 3 5 w (by decide) ex4
theorem fl5 (w : World) : Calls Try.prog 17 #[.string ⟨#[111, 110, 44, 32, 119, 111, 114, 107]⟩, .int .i64 7, .int .i64 2] w fun e w' => e = .returned (.bool true) ∧ Below w.heap.size w w' := fails_any ⟨#[111, 110, 44, 32, 119, 111, 114, 107]⟩ 7 2 w (by decide) ex5
theorem fl6 (w : World) : Calls Try.prog 17 #[.string ⟨#[97, 32, 97, 98, 99, 100, 101, 102, 103, 104, 105, 106, 107, 108, 109]⟩, .int .i64 3, .int .i64 2] w fun e w' => e = .returned (.bool true) ∧ Below w.heap.size w w' := fails_any ⟨#[97, 32, 97, 98, 99, 100, 101, 102, 103, 104, 105, 106, 107, 108, 109]⟩ 3 2 w (by decide) ex6
theorem hl1 (w : World) : Calls Try.prog 10 #[.string ⟨#[98, 97, 121, 32, 98, 49, 123, 125, 35, 120]⟩] w fun e w' => ∃ A c, e = .returned (.tuple #[.slice A 4 c, .int .i64 0, .int .i64 0]) ∧ (RL w' A (cK [(1, [98, 97, 121], 0, 0), (1, [98, 49], 0, 4), (3, [123], 0, 6), (3, [125], 0, 7)]) ∧ (4 ≤ c ∧ c ≤ 9223372036854775807)) ∧ Below w.heap.size w w' := by
  refine (lex_o ⟨#[98, 97, 121, 32, 98, 49, 123, 125, 35, 120]⟩ [(1, [98, 97, 121], 0, 0), (1, [98, 49], 0, 4), (3, [123], 0, 6), (3, [125], 0, 7)] w (by decide) ex1).mono ?_
  rintro e w' ⟨A, c, h1, h2, hw⟩
  exact ⟨A, c, h1, ⟨h2.1, h2.2.2⟩, hw⟩
theorem hs1 (A : Option Addr) (c : Nat) (W : World) (h : RL W A (cK [(1, [98, 97, 121], 0, 0), (1, [98, 49], 0, 4), (3, [123], 0, 6), (3, [125], 0, 7)])) : Calls Try.prog 12 #[.slice A 4 c, .slice (some ⟨W.heap.size, 0, none⟩) 4 4, .int .i64 0] (W.alloc (.cells #[.int .i64 1, .string ⟨#[98, 97, 121]⟩, .int .i64 0, .int .i64 0, .int .i64 1, .string ⟨#[98, 49]⟩, .int .i64 0, .int .i64 4, .int .i64 3, .string ⟨#[123]⟩, .int .i64 0, .int .i64 6, .int .i64 3, .string ⟨#[125]⟩, .int .i64 0, .int .i64 7] 30)) fun e w' => e = .returned (.bool true) ∧ Below W.heap.size W w' := by
  have hr : RL (W.alloc (.cells #[.int .i64 1, .string ⟨#[98, 97, 121]⟩, .int .i64 0, .int .i64 0, .int .i64 1, .string ⟨#[98, 49]⟩, .int .i64 0, .int .i64 4, .int .i64 3, .string ⟨#[123]⟩, .int .i64 0, .int .i64 6, .int .i64 3, .string ⟨#[125]⟩, .int .i64 0, .int .i64 7] 30)) (some ⟨W.heap.size, 0, none⟩) (cK [(1, [98, 97, 121], 0, 0), (1, [98, 49], 0, 4), (3, [123], 0, 6), (3, [125], 0, 7)]) := (OW.new W 30 (cK [(1, [98, 97, 121], 0, 0), (1, [98, 49], 0, 4), (3, [123], 0, 6), (3, [125], 0, 7)])).rl
  exact (same_k A _ 4 4 c 4 [(1, [98, 97, 121], 0, 0), (1, [98, 49], 0, 4), (3, [123], 0, 6), (3, [125], 0, 7)] [(1, [98, 97, 121], 0, 0), (1, [98, 49], 0, 4), (3, [123], 0, 6), (3, [125], 0, 7)] 0 _ (by omega) rfl rfl (h.keep (bel_a W _)) hr (SameBy.refl _) (by decide)).mono fun e w' hh => ⟨hh.1, bel_step (bel_a W _) hh.2⟩
theorem rl1 (W : World) : RL (W.alloc (.cells #[.int .i64 1, .string ⟨#[98, 97, 121]⟩, .int .i64 0, .int .i64 0, .int .i64 1, .string ⟨#[98, 49]⟩, .int .i64 0, .int .i64 4, .int .i64 3, .string ⟨#[123]⟩, .int .i64 0, .int .i64 6, .int .i64 3, .string ⟨#[125]⟩, .int .i64 0, .int .i64 7] 30)) (some ⟨W.heap.size, 0, none⟩) (cK [(1, [98, 97, 121], 0, 0), (1, [98, 49], 0, 4), (3, [123], 0, 6), (3, [125], 0, 7)]) := (OW.new W 30 (cK [(1, [98, 97, 121], 0, 0), (1, [98, 49], 0, 4), (3, [123], 0, 6), (3, [125], 0, 7)])).rl
theorem hl2 (w : World) : Calls Try.prog 10 #[.string ⟨#[49, 50, 97, 98, 59]⟩] w fun e w' => ∃ A c, e = .returned (.tuple #[.slice A 3 c, .int .i64 0, .int .i64 0]) ∧ (RL w' A (cK [(2, [], 12, 0), (1, [97, 98], 0, 2), (3, [59], 0, 4)]) ∧ (3 ≤ c ∧ c ≤ 9223372036854775807)) ∧ Below w.heap.size w w' := by
  refine (lex_o ⟨#[49, 50, 97, 98, 59]⟩ [(2, [], 12, 0), (1, [97, 98], 0, 2), (3, [59], 0, 4)] w (by decide) ex2).mono ?_
  rintro e w' ⟨A, c, h1, h2, hw⟩
  exact ⟨A, c, h1, ⟨h2.1, h2.2.2⟩, hw⟩
theorem hs2 (A : Option Addr) (c : Nat) (W : World) (h : RL W A (cK [(2, [], 12, 0), (1, [97, 98], 0, 2), (3, [59], 0, 4)])) : Calls Try.prog 12 #[.slice A 3 c, .slice (some ⟨W.heap.size, 0, none⟩) 3 3, .int .i64 0] (W.alloc (.cells #[.int .i64 2, .string ⟨#[]⟩, .int .i64 12, .int .i64 0, .int .i64 1, .string ⟨#[97, 98]⟩, .int .i64 0, .int .i64 2, .int .i64 3, .string ⟨#[59]⟩, .int .i64 0, .int .i64 4] 30)) fun e w' => e = .returned (.bool true) ∧ Below W.heap.size W w' := by
  have hr : RL (W.alloc (.cells #[.int .i64 2, .string ⟨#[]⟩, .int .i64 12, .int .i64 0, .int .i64 1, .string ⟨#[97, 98]⟩, .int .i64 0, .int .i64 2, .int .i64 3, .string ⟨#[59]⟩, .int .i64 0, .int .i64 4] 30)) (some ⟨W.heap.size, 0, none⟩) (cK [(2, [], 12, 0), (1, [97, 98], 0, 2), (3, [59], 0, 4)]) := (OW.new W 30 (cK [(2, [], 12, 0), (1, [97, 98], 0, 2), (3, [59], 0, 4)])).rl
  exact (same_k A _ 3 3 c 3 [(2, [], 12, 0), (1, [97, 98], 0, 2), (3, [59], 0, 4)] [(2, [], 12, 0), (1, [97, 98], 0, 2), (3, [59], 0, 4)] 0 _ (by omega) rfl rfl (h.keep (bel_a W _)) hr (SameBy.refl _) (by decide)).mono fun e w' hh => ⟨hh.1, bel_step (bel_a W _) hh.2⟩
theorem rl2 (W : World) : RL (W.alloc (.cells #[.int .i64 2, .string ⟨#[]⟩, .int .i64 12, .int .i64 0, .int .i64 1, .string ⟨#[97, 98]⟩, .int .i64 0, .int .i64 2, .int .i64 3, .string ⟨#[59]⟩, .int .i64 0, .int .i64 4] 30)) (some ⟨W.heap.size, 0, none⟩) (cK [(2, [], 12, 0), (1, [97, 98], 0, 2), (3, [59], 0, 4)]) := (OW.new W 30 (cK [(2, [], 12, 0), (1, [97, 98], 0, 2), (3, [59], 0, 4)])).rl
set_option maxRecDepth 100000 in
set_option maxHeartbeats 4000000 in
theorem head_any (w : World) : Calls Try.prog 9 #[] w fun e w' => e = .returned (.bool true) ∧ Below w.heap.size w w' := by
  go_enter Try.func9, Try.ntmps9
  go_upto_region 3 with (first
    | (go_at_call 10; with_reducible refine (hl1 _).mono ?_; rintro e w1 ⟨A1, c1, rfl, g1, h1⟩)
    | (go_at_call 10; with_reducible refine (hl2 _).mono ?_; rintro e w2 ⟨A2, c2, rfl, g2, h2⟩))
  have HR1 := Lib.hid (g1.1.keep h2)
  have HR2 := Lib.hid g2.1
  have k1 := g1.2
  have k2 := g2.2
  have HB := Lib.hid (bel_step h1 h2)
  clear g1 g2 h1 h2
  go_wp2_with (first
    | (go_at_call 17; with_reducible refine (fl3 _).mono ?_; rintro e w3 ⟨rfl, h3⟩
       have H3 := Lib.hid h3)
    | (go_at_call 17; with_reducible refine (fl4 _).mono ?_; rintro e w4 ⟨rfl, h4⟩
       have H4 := Lib.hid (bel_step H3.out h4))
    | (go_at_call 17; with_reducible refine (fl5 _).mono ?_; rintro e w5 ⟨rfl, h5⟩
       have H5 := Lib.hid (bel_step H4.out h5))
    | (go_at_call 17; with_reducible refine (fl6 _).mono ?_; rintro e w6 ⟨rfl, h6⟩
       have H6 := Lib.hid (bel_step H5.out h6))
    | (go_at_call 12; with_reducible refine (hs1 A1 c1 w6 (HR1.out.keep H6.out)).mono ?_; rintro e w7 ⟨rfl, h7⟩
       have H7 := Lib.hid (bel_step H6.out h7))
    | (go_at_call 12; with_reducible refine (hs2 A2 c2 w7 (HR2.out.keep H7.out)).mono ?_; rintro e w8 ⟨rfl, h8⟩
       have H8 := Lib.hid (bel_step H7.out h8)))
  go_ret
  exact ⟨rfl, bel_step HB.out H8.out⟩
end Go.Proofs.Ytkmjflkodckflaa
