/-
  THE LAW LexerGaps, walked.
-/
import Derived.Test.YtkmjflkodckflaaVis
import Derived.Test.YtkmjflkodckflaaJoinsc
namespace Go.Proofs.Ytkmjflkodckflaa
open Go.RowKit
set_option linter.unusedVariables false
set_option linter.unusedSimpArgs false
attribute [local go_sem ↓] Go.wp_at_zero Go.wp_at_succ

set_option maxRecDepth 100000 in
set_option maxHeartbeats 4000000 in
theorem same_q (A B : Option Addr) (n m c d : Nat) (la lb : List Tok) (dd : Int) (w : World) (hn : n ≤ 5000) (hna : la.length = n) (hnb : lb.length = m) (hA : RL w A (cK la)) (hB : RL w B (cK lb)) (hsame : SameBy dd la lb) (hbd : ∀ t ∈ lb, t.2.2.2 ≤ 100000) :
    Calls Try.prog 12 #[.slice A n c, .slice B m d, .int .i64 dd] w fun e w' => e = .returned (.bool true) ∧ ∃ n, w' = w.drewN n := by
  obtain rfl : n = m := by have := hsame.1; omega
  have HA := Lib.hid hA
  have HB := Lib.hid hB
  have HNA := Lib.hid hna
  have HNB := Lib.hid hnb
  have HS := Lib.hid hsame.2
  have HBD := Lib.hid hbd
  clear hA hB hna hnb hsame hbd
  go_enter Try.func12, Try.ntmps12
  go_wp2_with fail
  go_loopw [7] (fun i wr => ∃ k e : Nat, k ≤ n ∧ i = .int .i64 k ∧ wr = w.drewN e) (fun i _ => n - (intOf i).toNat)
  case atStart => exact ⟨0, 0, Nat.zero_le _, rfl, rfl⟩
  case round =>
    obtain ⟨k, e0, hk, rfl, rfl⟩ := hrel
    by_cases hlt : k < n
    · obtain ⟨b, o, rfl, hb, x0, x1, x2, x3⟩ := HA.out.k (i := k) (by have := HNA.out; omega)
      obtain ⟨b', o', rfl, hb', y0, y1, y2, y3⟩ := HB.out.k (i := k) (by have := HNB.out; omega)
      obtain ⟨s1, s2, s3, s4⟩ := HS.out k (by have := HNA.out; omega)
      have hbd := HBD.out (atK lb k) (List.mem_of_getElem? (atK_get (by have := HNB.out; omega)))
      rw [← s1] at y0
      rw [← s2] at y1
      rw [← s3] at y2
      rw [← s4] at y3
      have c0 : (w.drewN e0).cell? ⟨b, o + k * 4, none⟩ = some (.int .i64 (atK la k).1) := x0
      have c1 : (w.drewN e0).cell? ⟨b, o + k * 4 + 1, none⟩ = some (.string (ba (atK la k).2.1)) := x1
      have c2 : (w.drewN e0).cell? ⟨b, o + k * 4 + 2, none⟩ = some (.int .i64 (atK la k).2.2.1) := x2
      have c3 : (w.drewN e0).cell? ⟨b, o + k * 4 + 3, none⟩ = some (.int .i64 ((atK la k).2.2.2 : Int)) := x3
      have d0 : (w.drewN e0).cell? ⟨b', o' + k * 4, none⟩ = some (.int .i64 (atK la k).1) := y0
      have d1 : (w.drewN e0).cell? ⟨b', o' + k * 4 + 1, none⟩ = some (.string (ba (atK la k).2.1)) := y1
      have d2 : (w.drewN e0).cell? ⟨b', o' + k * 4 + 2, none⟩ = some (.int .i64 (atK la k).2.2.1) := y2
      have d3 : (w.drewN e0).cell? ⟨b', o' + k * 4 + 3, none⟩ = some (.int .i64 (((atK la k).2.2.2 : Int) + dd)) := y3
      have wr3 : IntKind.i64.wrap (((atK la k).2.2.2 : Int) + dd) = ((atK la k).2.2.2 : Int) + dd := IntWalk.i64_in _ (by omega)
      obtain ⟨wx, hwx⟩ : ∃ wx, w.drewN e0 = wx := ⟨_, rfl⟩
      rw [hwx] at c0 c1 c2 c3 d0 d1 d2 d3 ⊢
      have HW := Lib.hid hwx
      clear hwx x0 x1 x2 x3 y0 y1 y2 y3 s1 s2 s3 s4 hbd
      generalize (atK la k).1 = K1 at *
      generalize ba (atK la k).2.1 = T1 at *
      generalize (atK la k).2.2.1 = N1 at *
      generalize ((atK la k).2.2.2 : Int) = P1 at *
      have i0 : (0 : Int) ≤ (k : Int) := by omega
      have i1 : (k : Int) < (n : Int) := by omega
      go_wp2_with fail
      go_quiet (fail)
      go_wp2_with fail
      go_roundw
      case rel => exact ⟨k + 1, _, by omega, by go_num, by rw [← HW.out, World.drewN_drewN]⟩
      case measure => simp [intOf] <;> omega
    · obtain rfl : k = n := by omega
      go_wp2_with fail
      all_goals (try (exfalso; omega))
      go_ret
      exact ⟨rfl, _, rfl⟩

/-- the gaps that may be put in -/
def gapL : List ByteArray := [⟨#[32]⟩, ⟨#[9, 9]⟩, ⟨#[10]⟩, ⟨#[32, 35, 32, 97, 32, 55, 59, 10]⟩, ⟨#[35, 10, 10]⟩]
theorem gapL_S : ∀ {j : Nat} {g : ByteArray}, gapL[j]? = some g → GapS (bl g) ∧ 1 ≤ g.size ∧ g.size ≤ 8 := by
  intro j g h
  have hj : j < 5 := (List.getElem?_eq_some_iff.1 h).1
  match j, hj with
  | 0, _ => simp [gapL] at h; subst h; exact ⟨gapS1, by decide⟩
  | 1, _ => simp [gapL] at h; subst h; exact ⟨gapS2, by decide⟩
  | 2, _ => simp [gapL] at h; subst h; exact ⟨gapS3, by decide⟩
  | 3, _ => simp [gapL] at h; subst h; exact ⟨gapS4, by decide⟩
  | 4, _ => simp [gapL] at h; subst h; exact ⟨gapS5, by decide⟩
theorem gapL_get {j : Nat} (h : j < 5) : ∃ g, gapL[j]? = some g := ⟨_, List.getElem?_eq_getElem h⟩
theorem bl_gap (s g : ByteArray) (p : Nat) : bl (s.extract 0 p ++ g ++ s.extract p s.size) = (bl s).take p ++ bl g ++ (bl s).drop p := by
  rw [bl_append, bl_append, bl_extract, bl_extract]
  simp only [List.drop_zero, Nat.sub_zero]
  congr 1
  rw [List.take_of_length_le]
  rw [List.length_drop, bl_len]
  exact Nat.le_refl _
theorem RL.dn {w : World} {A : Option Addr} {cs : List Value} (x : RL w A cs) (n : Nat) : RL (w.drewN n) A cs := x.keep (below_drewN (Below.refl _ _) n)
theorem same_qn (A B : Option Addr) (q c d : Nat) (dd : Int) (w : World) (h0 : q = 0) :
    Calls Try.prog 12 #[.slice A q c, .slice B q d, .int .i64 dd] w fun e w' => e = .returned (.bool true) ∧ ∃ n, w' = w.drewN n := by
  subst h0
  exact same_q A B 0 0 c d [] [] dd w (by omega) rfl rfl RL_nil RL_nil ⟨rfl, fun i hi => by simp at hi⟩ (fun t ht => by simp at ht)
theorem cut_facts {l : List Tok} {k q G : Nat} {w : World} {A B : Option Addr} (hn : l.length = k + q) (ho : ∀ t ∈ l, t.2.2.2 ≤ 8000) (hG : G ≤ 8) (ra : RL w A (cK l)) (rb : RL w B (cK (l.take k ++ (l.drop k).map (sh G)))) :
    RL w A (cK (l.take k)) ∧ RL w B (cK (l.take k)) ∧ RL w (Option.map (fun x => x.add (k * 4)) A) (cK (l.drop k)) ∧ RL w (Option.map (fun x => x.add (k * 4)) B) (cK ((l.drop k).map (sh G))) ∧
    (l.take k).length = k ∧ (l.take k).length = k ∧ (l.drop k).length = q ∧ ((l.drop k).map (sh G)).length = q ∧ SameBy 0 (l.take k) (l.take k) ∧ SameBy (G : Int) (l.drop k) ((l.drop k).map (sh G)) ∧
    (∀ t ∈ l.take k, t.2.2.2 ≤ 100000) ∧ (∀ t ∈ (l.drop k).map (sh G), t.2.2.2 ≤ 100000) := by
  have hk : (l.take k).length = k := by rw [List.length_take]; omega
  refine ⟨ra.tk k, ?_, ?_, ?_, hk, hk, by rw [List.length_drop]; omega, by rw [List.length_map, List.length_drop]; omega, SameBy.refl _, same_sh G _, ?_, ?_⟩
  · have h := rb.tk k
    rw [List.take_append_of_le_length (by omega), List.take_take, Nat.min_self] at h
    exact h
  · have h : l = l.take k ++ l.drop k := (List.take_append_drop k l).symm
    rw [h] at ra
    exact ra.mk hk
  · exact rb.mk hk
  · intro t ht
    have := ho t (List.mem_of_mem_take ht)
    omega
  · intro t ht
    obtain ⟨u, hu, rfl⟩ := List.mem_map.1 ht
    have := ho u (List.mem_of_mem_drop hu)
    simp only [sh]
    omega
set_option maxRecDepth 100000 in
set_option maxHeartbeats 4000000 in
theorem gaps_no (s : ByteArray) (wh K : Nat) (w : World) (hwh : wh ≤ 65535) (hK : K ≤ 255) (h1 : 8000 < s.size) (hs : s.size ≤ 9223372036854775807) :
    Calls Try.prog 5 #[.string s, .int .u16 wh, .int .u8 K] w fun e w' => e = .returned (.bool true) ∧ Below w.heap.size w w' := by
  have e1 : decide ((8000 : Int) < (s.size : Int)) = true := decide_eq_true (by omega)
  go_enter Try.func5, Try.ntmps5
  go_wp2_with (first | (go_at_call 9; with_reducible refine (head_any _).mono ?_; rintro e w1 ⟨rfl, h1⟩))
  all_goals (try (exfalso; omega))
  go_ret
  exact ⟨rfl, h1⟩
set_option maxRecDepth 100000 in
set_option maxHeartbeats 4000000 in
theorem gaps_err (s : ByteArray) (wh K : Nat) (w : World) (hwh : wh ≤ 65535) (hK : K ≤ 255) (hs : s.size ≤ 8000) (er : Int) (p : Nat) (hr : lexS (bl s) = .err er p) :
    Calls Try.prog 5 #[.string s, .int .u16 wh, .int .u8 K] w fun e w' => e = .returned (.bool true) ∧ Below w.heap.size w w' := by
  have hz : (er != 0) = true := by simpa using lexS_ne hr
  have HE := Lib.hid (fun W => lex_e s er p W (by omega) hr)
  clear hr
  have e1 : decide ((8000 : Int) < (s.size : Int)) = false := decide_eq_false (by omega)
  go_enter Try.func5, Try.ntmps5
  go_wp2_with (first
    | (go_at_call 9; with_reducible refine (head_any _).mono ?_; rintro e w1 ⟨rfl, h1⟩)
    | (go_at_call 10; with_reducible refine (HE.out _).mono ?_; rintro e w2 ⟨rfl, h2⟩
       have H2 := Lib.hid (bel_step h1 h2)))
  all_goals (try (exfalso; omega))
  go_ret
  exact ⟨rfl, H2.out⟩
set_option maxRecDepth 100000 in
set_option maxHeartbeats 4000000 in
theorem gaps_ok (s : ByteArray) (wh K : Nat) (w : World) (hwh : wh ≤ 65535) (hK : K ≤ 255) (hs : s.size ≤ 8000) (l : List Tok) (hl : lexS (bl s) = .ok l) :
    Calls Try.prog 5 #[.string s, .int .u16 wh, .int .u8 K] w fun e w' => e = .returned (.bool true) ∧ Below w.heap.size w w' := by
  have e1 : decide ((8000 : Int) < (s.size : Int)) = false := decide_eq_false (by omega)
  have HL := Lib.hid hl
  have hlo := fun W => lex_o s l W (by omega) hl
  obtain ⟨n, hn⟩ : ∃ n, l.length = n := ⟨_, rfl⟩
  have hn2 := (lexS_bd hl).2.2.1
  rw [hn] at hlo hn2
  have HLO := Lib.hid hlo
  have HN := Lib.hid hn
  clear hl hlo hn
  obtain ⟨j, hj⟩ : ∃ j, K % 5 = j := ⟨_, rfl⟩
  have hj5 : j < 5 := by omega
  obtain ⟨g, hg⟩ := gapL_get hj5
  obtain ⟨hgs, hg1, hg8⟩ := gapL_S hg
  have HGS := Lib.hid hgs
  obtain ⟨k, hk⟩ : ∃ k, wh % (n + 1) = k := ⟨_, rfl⟩
  have hkn : k ≤ n := by have := Nat.mod_lt wh (show 0 < n + 1 by omega); omega
  obtain ⟨q, rfl⟩ : ∃ q, n = k + q := ⟨n - k, by omega⟩
  clear hkn
  have HK := Lib.hid hk
  have HG := Lib.hid hg
  have HJ := Lib.hid hj
  clear hk hg hgs hj
  go_enter Try.func5, Try.ntmps5
  go_upto_region 8 with (first
    | (go_at_call 9; with_reducible refine (head_any _).mono ?_; rintro e w1 ⟨rfl, h1⟩)
    | (go_at_call 10; with_reducible refine (HLO.out _).mono ?_; rintro e w2 ⟨A2, c2, rfl, ⟨r2, n2, k2⟩, h2⟩
       have H2 := Lib.hid (bel_step h1 h2)))
  all_goals (try (exfalso; omega))
  have R2 := Lib.hid (r2.keep (bel_a w2 (.cells #[.string ⟨#[32]⟩, .string ⟨#[9, 9]⟩, .string ⟨#[10]⟩, .string ⟨#[32, 35, 32, 97, 32, 55, 59, 10]⟩, .string ⟨#[35, 10, 10]⟩] 9)))
  have H3 := Lib.hid (bel_step H2.out (bel_a w2 (.cells #[.string ⟨#[32]⟩, .string ⟨#[9, 9]⟩, .string ⟨#[10]⟩, .string ⟨#[32, 35, 32, 97, 32, 55, 59, 10]⟩, .string ⟨#[35, 10, 10]⟩] 9)))
  have cg : (w2.alloc (.cells #[.string ⟨#[32]⟩, .string ⟨#[9, 9]⟩, .string ⟨#[10]⟩, .string ⟨#[32, 35, 32, 97, 32, 55, 59, 10]⟩, .string ⟨#[35, 10, 10]⟩] 9)).cell? ⟨w2.heap.size, j, none⟩ = some (.string g) :=
    (OW.new w2 9 (gapL.map Value.string)).at (by rw [List.getElem?_map, HG.out]; rfl)
  generalize w2.alloc (.cells #[.string ⟨#[32]⟩, .string ⟨#[9, 9]⟩, .string ⟨#[10]⟩, .string ⟨#[32, 35, 32, 97, 32, 55, 59, 10]⟩, .string ⟨#[35, 10, 10]⟩] 9) = w3 at R2 H3 cg ⊢
  clear h1 h2 r2
  generalize w2.heap.size = bg at *
  have tm1 : Int.tmod (K : Int) 5 = (j : Int) := by rw [← HJ.out]; exact (Int.ofNat_tmod K 5).symm
  have i0 : (0 : Int) ≤ (j : Int) := by omega
  have i1 : (j : Int) < 5 := by omega
  go_upto_region 9 with fail
  all_goals (try (exfalso; omega))
  clear tm1 i0 i1 cg
  have hkn : k ≤ k + q := by omega
  have hkn : k ≤ k + q := by omega
  have hkn : k ≤ k + q := by omega
  have hkn : k ≤ k + q := by omega
  have hkn : k ≤ k + q := by omega
  have hkn : k ≤ k + q := by omega
  have hkn : k ≤ k + q := by omega
  have hkn : k ≤ k + q := by omega
  have tm2 : Int.tmod (wh : Int) ((k : Int) + (q : Int) + 1) = (k : Int) := by have h := (Int.ofNat_tmod wh (k + q + 1)).symm; rw [HK.out] at h; simpa using h
  have ne : ¬ ((k : Int) + (q : Int) + 1 = 0) := by omega
  go_upto_region 10 with fail
  all_goals (try (exfalso; omega))
  clear tm2 ne
  have HOL : Hid (∀ t ∈ l, t.2.2.2 ≤ 8000) := Lib.hid fun t ht => by have := (lexS_bd HL.out).2.2.2 t ht; rw [bl_len] at this; omega
  by_cases hq : 0 < q
  · obtain ⟨b2, o2, rfl, hb2, x0, x1, x2, x3⟩ := R2.out.k (i := k) (by have := HN.out; omega)
    obtain ⟨u, hu⟩ : ∃ u, l[k]? = some u := ⟨_, atK_get (by have := HN.out; omega)⟩
    have hua : atK l k = u := by have := atK_get (l := l) (i := k) (by have := HN.out; omega); rw [hu] at this; exact (Option.some.inj this).symm
    rw [hua] at x3
    have hpu := (lexS_bd HL.out).2.2.2 u (List.mem_of_getElem? hu)
    rw [bl_len] at hpu
    obtain ⟨p, hp⟩ : ∃ p, u.2.2.2 = p := ⟨_, rfl⟩
    rw [hp] at x3 hpu
    have HLX : Hid (s.size + g.size ≤ 8000 → lexS ((bl s).take p ++ bl g ++ (bl s).drop p) = .ok (l.take k ++ (l.drop k).map (sh g.size))) := Lib.hid fun h8 => by
      have q1 := gaps_at HGS.out HL.out hu (by rw [bl_len, bl_len]; exact h8)
      rw [hp, bl_len] at q1
      exact q1
    clear hu hua hp x0 x1 x2
    have i0 : (0 : Int) ≤ (k : Int) := by omega
    have i1 : (k : Int) < (k : Int) + (q : Int) := by omega
    go_upto_region 12 with fail
    all_goals (try (exfalso; omega))
    clear i0 i1 x3
    have hps : p ≤ s.size := by omega
    obtain ⟨S, hS⟩ : ∃ S, s.extract 0 p ++ g ++ s.extract p s.size = S := ⟨_, rfl⟩
    have hbs := bl_gap s g p
    rw [hS] at hbs
    have hSz : S.size = s.size + g.size := by rw [← bl_len, hbs]; simp only [List.length_append, List.length_take, List.length_drop, bl_len]; omega
    have HS := Lib.hid hS
    have HBS := Lib.hid hbs
    clear hS hbs
    have i2 : (0 : Int) ≤ (p : Int) := by omega
    have i3 : (p : Int) ≤ (s.size : Int) := by omega
    by_cases h8 : s.size + g.size ≤ 8000
    · have e8 : decide ((8000 : Int) < (s.size : Int) + (g.size : Int)) = false := decide_eq_false (by omega)
      have HJO : Hid (∀ W, Calls Try.prog 10 #[.string S] W fun e w' => ∃ A c, e = .returned (.tuple #[.slice A (k + q) c, .int .i64 0, .int .i64 0]) ∧ (RL w' A (cK (l.take k ++ (l.drop k).map (sh g.size))) ∧ (A = none → k + q = 0 ∧ c = 0) ∧ (k + q ≤ c ∧ c ≤ 9223372036854775807)) ∧ Below W.heap.size W w') := Lib.hid fun W => by
        have q1 := lex_o S (l.take k ++ (l.drop k).map (sh g.size)) W (by omega) (by rw [HBS.out]; exact HLX.out h8)
        have q2 : (l.take k ++ (l.drop k).map (sh g.size)).length = k + q := by have := HN.out; simp only [List.length_append, List.length_take, List.length_map, List.length_drop]; omega
        rw [q2] at q1
        exact q1
      go_upto_region 14 with fail
      all_goals (try (exfalso; omega))
      have sz1 : (s.extract 0 p).size = p := by rw [← bl_len, bl_extract, List.drop_zero, List.length_take, bl_len]; omega
      have sz2 : (s.extract p s.size).size = s.size - p := by rw [← bl_len, bl_extract, List.length_take, List.length_drop, bl_len]; omega
      have mn1 : min p s.size = p := by omega
      have lt1 : ¬ 9223372036854775807 < p + g.size := by omega
      have lt2 : ¬ 9223372036854775807 < p + g.size + (s.size - p) := by omega
      go_region_held3 (fun _ => True) (trivial) (first
        | (go_at_call 10; rw [HS.out]; with_reducible refine (HJO.out _).mono ?_; rintro e w5 ⟨A5, c5, rfl, ⟨r5, n5, k5⟩, h5⟩
           have R5 := Lib.hid r5
           have R25 := Lib.hid ((R2.out.keep (below_drewN (Below.refl _ _) _)).keep h5)
           have H5 := Lib.hid (bel_step (below_drewN H3.out _) h5)
           clear r5 h5))
      clear sz1 sz2 mn1 lt1 lt2
      have hcut := cut_facts HN.out HOL.out (show g.size ≤ 8 by omega) R25.out R5.out
      obtain ⟨RA, RB, RC, RD, LA, LB, LC, LD, SA, SB, OA, OB⟩ := hcut
      have RC := R25.out.dk k
      have RA' := Lib.hid RA
      have RB' := Lib.hid RB
      have RC' := Lib.hid RC
      have RD' := Lib.hid RD
      have LA' := Lib.hid LA
      have LB' := Lib.hid LB
      have LC' := Lib.hid LC
      have LD' := Lib.hid LD
      have SA' := Lib.hid SA
      have SB' := Lib.hid SB
      have OA' := Lib.hid OA
      have OB' := Lib.hid OB
      clear RA RB RC RD LA LB LC LD SA SB OA OB
      have hq2000 : k + q ≤ 2000 := by omega
      have hk5000 : k ≤ 5000 := by omega
      have hq5000 : q ≤ 5000 := by omega
      go_upto_region 17 with fail
      all_goals (try (exfalso; omega))
      have j0 : (0 : Int) ≤ (k : Int) := by omega
      have j1 : (k : Int) ≤ (c2 : Int) := by omega
      have j2 : (k : Int) ≤ (c5 : Int) := by omega
      have j3 : (k : Int) ≤ (k : Int) + (q : Int) := by omega
      have j4 : k ≤ c2 := by omega
      have j5 : k ≤ c5 := by omega
      have hc2 : ¬ c2 = k := by omega
      have hc5 : ¬ c5 = k := by omega
      go_quiet (first
          | (go_at_call 12; with_reducible exact Calls.quiet_of (same_q _ _ k k _ _ (l.take k) (l.take k) 0 _ hk5000 LA'.out LA'.out (RA'.out.dn _) (RB'.out.dn _) SA'.out OA'.out))
          | (go_at_call 12; with_reducible exact Calls.quiet_of (same_q _ _ q q _ _ (l.drop k) ((l.drop k).map (sh g.size)) _ _ hq5000 LC'.out LD'.out (RC'.out.dn _) (RD'.out.dn _) SB'.out OB'.out)))
      go_wp2_with fail
      go_ret
      exact ⟨rfl, below_drewN H5.out _⟩
    · have e8 : decide ((8000 : Int) < (s.size : Int) + (g.size : Int)) = true := decide_eq_true (by omega)
      have HJE : Hid (∀ W, Calls Try.prog 10 #[.string S] W fun e w' => e = .returned (.tuple #[.slice none 0 0, .int .i64 2, .int .i64 0]) ∧ Below W.heap.size W w') := Lib.hid fun W => by
        exact lex_e S 2 0 W (by omega) (by unfold lexS; rw [if_pos (by rw [bl_len]; omega)])
      go_upto_region 14 with fail
      all_goals (try (exfalso; omega))
      have sz1 : (s.extract 0 p).size = p := by rw [← bl_len, bl_extract, List.drop_zero, List.length_take, bl_len]; omega
      have sz2 : (s.extract p s.size).size = s.size - p := by rw [← bl_len, bl_extract, List.length_take, List.length_drop, bl_len]; omega
      have mn1 : min p s.size = p := by omega
      have lt1 : ¬ 9223372036854775807 < p + g.size := by omega
      have lt2 : ¬ 9223372036854775807 < p + g.size + (s.size - p) := by omega
      go_region_held3 (fun _ => True) (trivial) (first
        | (go_at_call 10; rw [HS.out]; with_reducible refine (HJE.out _).mono ?_; rintro e w5 ⟨rfl, h5⟩
           have H5 := Lib.hid (bel_step (below_drewN H3.out _) h5)
           clear h5))
      clear sz1 sz2 mn1 lt1 lt2
      go_wp2_with fail
      all_goals (try (exfalso; omega))
      go_ret
      exact ⟨rfl, H5.out⟩
  · have HQ0 : Hid (q = 0) := Lib.hid (by omega)
    obtain ⟨p, hp⟩ : ∃ p, s.size = p := ⟨_, rfl⟩
    have HLX : Hid (s.size + g.size ≤ 8000 → lexS ((bl s).take p ++ bl g ++ (bl s).drop p) = .ok (l.take k ++ (l.drop k).map (sh g.size))) := Lib.hid fun h8 => by
      have q1 := gaps_end HGS.out HL.out (by rw [bl_len, bl_len]; exact h8)
      rw [List.take_of_length_le (by rw [bl_len]; omega), List.drop_eq_nil_of_le (by rw [bl_len]; omega), List.append_nil, q1, List.take_of_length_le (by have := HN.out; have := HQ0.out; omega), List.drop_eq_nil_of_le (by have := HN.out; have := HQ0.out; omega)]
      simp
    go_upto_region 12 with fail
    all_goals (try (exfalso; omega))
    rw [hp]
    have HP := Lib.hid hp
    have hps : p ≤ s.size := by omega
    clear hp hq
    obtain ⟨S, hS⟩ : ∃ S, s.extract 0 p ++ g ++ s.extract p s.size = S := ⟨_, rfl⟩
    have hbs := bl_gap s g p
    rw [hS] at hbs
    have hSz : S.size = s.size + g.size := by rw [← bl_len, hbs]; simp only [List.length_append, List.length_take, List.length_drop, bl_len]; omega
    have HS := Lib.hid hS
    have HBS := Lib.hid hbs
    clear hS hbs
    have i2 : (0 : Int) ≤ (p : Int) := by omega
    have i3 : (p : Int) ≤ (s.size : Int) := by omega
    by_cases h8 : s.size + g.size ≤ 8000
    · have e8 : decide ((8000 : Int) < (s.size : Int) + (g.size : Int)) = false := decide_eq_false (by omega)
      have HJO : Hid (∀ W, Calls Try.prog 10 #[.string S] W fun e w' => ∃ A c, e = .returned (.tuple #[.slice A (k + q) c, .int .i64 0, .int .i64 0]) ∧ (RL w' A (cK (l.take k ++ (l.drop k).map (sh g.size))) ∧ (A = none → k + q = 0 ∧ c = 0) ∧ (k + q ≤ c ∧ c ≤ 9223372036854775807)) ∧ Below W.heap.size W w') := Lib.hid fun W => by
        have q1 := lex_o S (l.take k ++ (l.drop k).map (sh g.size)) W (by omega) (by rw [HBS.out]; exact HLX.out h8)
        have q2 : (l.take k ++ (l.drop k).map (sh g.size)).length = k + q := by have := HN.out; simp only [List.length_append, List.length_take, List.length_map, List.length_drop]; omega
        rw [q2] at q1
        exact q1
      go_upto_region 14 with fail
      all_goals (try (exfalso; omega))
      have sz1 : (s.extract 0 p).size = p := by rw [← bl_len, bl_extract, List.drop_zero, List.length_take, bl_len]; omega
      have sz2 : (s.extract p s.size).size = s.size - p := by rw [← bl_len, bl_extract, List.length_take, List.length_drop, bl_len]; omega
      have mn1 : min p s.size = p := by omega
      have lt1 : ¬ 9223372036854775807 < p + g.size := by omega
      have lt2 : ¬ 9223372036854775807 < p + g.size + (s.size - p) := by omega
      go_region_held3 (fun _ => True) (trivial) (first
        | (go_at_call 10; rw [HS.out]; with_reducible refine (HJO.out _).mono ?_; rintro e w5 ⟨A5, c5, rfl, ⟨r5, n5, k5⟩, h5⟩
           have R5 := Lib.hid r5
           have R25 := Lib.hid ((R2.out.keep (below_drewN (Below.refl _ _) _)).keep h5)
           have H5 := Lib.hid (bel_step (below_drewN H3.out _) h5)
           clear r5 h5))
      clear sz1 sz2 mn1 lt1 lt2
      have hcut := cut_facts HN.out HOL.out (show g.size ≤ 8 by omega) R25.out R5.out
      obtain ⟨RA, RB, RC, RD, LA, LB, LC, LD, SA, SB, OA, OB⟩ := hcut
      have RA' := Lib.hid RA
      have RB' := Lib.hid RB
      have RC' := Lib.hid RC
      have RD' := Lib.hid RD
      have LA' := Lib.hid LA
      have LB' := Lib.hid LB
      have LC' := Lib.hid LC
      have LD' := Lib.hid LD
      have SA' := Lib.hid SA
      have SB' := Lib.hid SB
      have OA' := Lib.hid OA
      have OB' := Lib.hid OB
      clear RA RB RC RD LA LB LC LD SA SB OA OB
      have hq2000 : k + q ≤ 2000 := by omega
      have hk5000 : k ≤ 5000 := by omega
      have hq5000 : q ≤ 5000 := by omega
      go_upto_region 17 with fail
      all_goals (try (exfalso; omega))
      have j0 : (0 : Int) ≤ (k : Int) := by omega
      have j1 : (k : Int) ≤ (c2 : Int) := by omega
      have j2 : (k : Int) ≤ (c5 : Int) := by omega
      have j3 : (k : Int) ≤ (k : Int) + (q : Int) := by omega
      have j4 : k ≤ c2 := by omega
      have j5 : k ≤ c5 := by omega
      by_cases hc2 : c2 = k
      · by_cases hc5 : c5 = k
        · go_quiet (first
            | (go_at_call 12; with_reducible exact Calls.quiet_of (same_q _ _ k k _ _ (l.take k) (l.take k) 0 _ hk5000 LA'.out LA'.out (RA'.out.dn _) (RB'.out.dn _) SA'.out OA'.out))
            | (go_at_call 12; with_reducible exact Calls.quiet_of (same_qn _ _ q _ _ _ _ HQ0.out)))
          go_wp2_with fail
          go_ret
          exact ⟨rfl, below_drewN H5.out _⟩
        · go_quiet (first
            | (go_at_call 12; with_reducible exact Calls.quiet_of (same_q _ _ k k _ _ (l.take k) (l.take k) 0 _ hk5000 LA'.out LA'.out (RA'.out.dn _) (RB'.out.dn _) SA'.out OA'.out))
            | (go_at_call 12; with_reducible exact Calls.quiet_of (same_qn _ _ q _ _ _ _ HQ0.out)))
          go_wp2_with fail
          go_ret
          exact ⟨rfl, below_drewN H5.out _⟩
      · by_cases hc5 : c5 = k
        · go_quiet (first
            | (go_at_call 12; with_reducible exact Calls.quiet_of (same_q _ _ k k _ _ (l.take k) (l.take k) 0 _ hk5000 LA'.out LA'.out (RA'.out.dn _) (RB'.out.dn _) SA'.out OA'.out))
            | (go_at_call 12; with_reducible exact Calls.quiet_of (same_qn _ _ q _ _ _ _ HQ0.out)))
          go_wp2_with fail
          go_ret
          exact ⟨rfl, below_drewN H5.out _⟩
        · go_quiet (first
            | (go_at_call 12; with_reducible exact Calls.quiet_of (same_q _ _ k k _ _ (l.take k) (l.take k) 0 _ hk5000 LA'.out LA'.out (RA'.out.dn _) (RB'.out.dn _) SA'.out OA'.out))
            | (go_at_call 12; with_reducible exact Calls.quiet_of (same_qn _ _ q _ _ _ _ HQ0.out)))
          go_wp2_with fail
          go_ret
          exact ⟨rfl, below_drewN H5.out _⟩
    · have e8 : decide ((8000 : Int) < (s.size : Int) + (g.size : Int)) = true := decide_eq_true (by omega)
      have HJE : Hid (∀ W, Calls Try.prog 10 #[.string S] W fun e w' => e = .returned (.tuple #[.slice none 0 0, .int .i64 2, .int .i64 0]) ∧ Below W.heap.size W w') := Lib.hid fun W => by
        exact lex_e S 2 0 W (by omega) (by unfold lexS; rw [if_pos (by rw [bl_len]; omega)])
      go_upto_region 14 with fail
      all_goals (try (exfalso; omega))
      have sz1 : (s.extract 0 p).size = p := by rw [← bl_len, bl_extract, List.drop_zero, List.length_take, bl_len]; omega
      have sz2 : (s.extract p s.size).size = s.size - p := by rw [← bl_len, bl_extract, List.length_take, List.length_drop, bl_len]; omega
      have mn1 : min p s.size = p := by omega
      have lt1 : ¬ 9223372036854775807 < p + g.size := by omega
      have lt2 : ¬ 9223372036854775807 < p + g.size + (s.size - p) := by omega
      go_region_held3 (fun _ => True) (trivial) (first
        | (go_at_call 10; rw [HS.out]; with_reducible refine (HJE.out _).mono ?_; rintro e w5 ⟨rfl, h5⟩
           have H5 := Lib.hid (bel_step (below_drewN H3.out _) h5)
           clear h5))
      clear sz1 sz2 mn1 lt1 lt2
      go_wp2_with fail
      all_goals (try (exfalso; omega))
      go_ret
      exact ⟨rfl, H5.out⟩
theorem gaps_all (s : ByteArray) (wh K : Nat) (w : World) (hwh : wh ≤ 65535) (hK : K ≤ 255) (hs : s.size ≤ 9223372036854775807) :
    Calls Try.prog 5 #[.string s, .int .u16 wh, .int .u8 K] w fun e w' => e = .returned (.bool true) ∧ Below w.heap.size w w' := by
  by_cases h8 : 8000 < s.size
  · exact gaps_no s wh K w hwh hK h8 hs
  · cases hl : lexS (bl s) with
    | err er p => exact gaps_err s wh K w hwh hK (by omega) er p hl
    | ok l => exact gaps_ok s wh K w hwh hK (by omega) l hl
end Go.Proofs.Ytkmjflkodckflaa
