/-
  THE WALKS over the reference, third part: Lex, Same.
-/
import Derived.Test.YtkmjflkodckflaaRefb
namespace Go.Proofs.Ytkmjflkodckflaa
open Go.RowKit
set_option linter.unusedVariables false
set_option linter.unusedSimpArgs false
attribute [local go_sem ↓] Go.wp_at_zero Go.wp_at_succ

theorem lexB_end {l : List Nat} {k n : Nat} (h : l.length ≤ k) : lexB (l.drop k) k n = .ok [] := by rw [List.drop_eq_nil_of_le h]; rfl
theorem lexB_full {l : List Nat} {k c : Nat} (h : l[k]? = some c) : lexB (l.drop k) k 2000 = .err 2 k := by rw [drop_cons h]; simp [lexB]
theorem lexB_err {l : List Nat} {k c n : Nat} (h : l[k]? = some c) (hn : n ≠ 2000) (he : (tok1 (l.drop k)).2.2 ≠ 0) : lexB (l.drop k) k n = .err (tok1 (l.drop k)).2.2 k := by
  rw [drop_cons h] at he ⊢
  simp only [lexB, if_neg hn, if_neg he]
theorem lexB_tok {l : List Nat} {k c n : Nat} (h : l[k]? = some c) (hn : n ≠ 2000) (he : (tok1 (l.drop k)).2.2 = 0) :
    lexB (l.drop k) k n = (lexB (l.drop (gapE l (k + (tok1 (l.drop k)).2.1))) (gapE l (k + (tok1 (l.drop k)).2.1)) (n + 1)).pre ((tok1 (l.drop k)).1.1, (tok1 (l.drop k)).1.2.1, (tok1 (l.drop k)).1.2.2, k) := by
  have hd := drop_cons h
  have hp := tok1_pos (c := c) (t := l.drop (k + 1)) (by rw [← hd]; exact he)
  rw [← hd] at hp
  have e1 : lexB (l.drop k) k n = (lexA (l.drop (k + (tok1 (l.drop k)).2.1)) (k + (tok1 (l.drop k)).2.1) (n + 1)).pre ((tok1 (l.drop k)).1.1, (tok1 (l.drop k)).1.2.1, (tok1 (l.drop k)).1.2.2, k) := by
    rw [hd] at he hp ⊢
    simp only [lexB, if_neg hn, if_pos he]
    congr 2
    rw [List.drop_drop]
    congr 1
    omega
  rw [e1, lexA_eq, List.drop_drop]
  rfl
theorem lexA_start (l : List Nat) : lexA l 0 0 = lexB (l.drop (gapE l 0)) (gapE l 0) 0 := by
  rw [lexA_eq]
  simp [gapE]
theorem tok1_zero {c : Nat} {t : List Nat} (h : (tok1 (c :: t)).2.1 = 0) : tok1 (c :: t) = ((0, [], 0), 0, 7) := by
  simp only [tok1] at h ⊢
  by_cases hl : lowB c = true
  · have hn : namB c = true := by simp [namB, hl]
    rw [if_pos hl] at h
    split at h <;> simp [hn] at h
  · rw [if_neg hl] at h ⊢
    by_cases hd : digB c = true
    · rw [if_pos hd] at h
      split at h <;> simp [hd] at h
    · rw [if_neg hd] at h ⊢
      by_cases hp : punB c = true
      · rw [if_pos hp] at h; simp at h
      · rw [if_neg hp]
theorem bl_text (s : ByteArray) (p : Nat → Bool) (a : Nat) : bl (s.extract a (a + (((bl s).drop a).takeWhile p).length)) = ((bl s).drop a).takeWhile p := by
  rw [bl_extract, show a + (((bl s).drop a).takeWhile p).length - a = (((bl s).drop a).takeWhile p).length by omega, take_while]
/-- the reference's Token at an offset -/
theorem rtok_at (s : ByteArray) (k c m : Nat) (K1 n1 er : Int) (t1 : List Nat) (w : World) (hs : s.size ≤ 20000) (hc : (bl s)[k]? = some c) (ht : tok1 ((bl s).drop k) = ((K1, t1, n1), m, er)) (hm : m ≠ 0) :
    Calls Try.prog 23 #[.string (s.extract k (k + m))] w fun e w' => e = (if er = 0 then .returned (.tuple #[.agg #[.int .i64 K1, .string (ba t1), .int .i64 n1, .int .i64 0], .int .i64 0]) else .returned (.tuple #[.agg #[.int .i64 0, .string (ba []), .int .i64 0, .int .i64 0], .int .i64 er])) ∧ Below w.heap.size w w' := by
  have hd := drop_cons hc
  have hsz : (s.extract k (k + m)).size ≤ 20000 := by rw [← bl_len, bl_extract]; simp; have := bl_len s; omega
  cases hl : lowB c
  · cases hg : digB c
    · cases hp : punB c
      · rw [hd] at ht
        simp [tok1, hl, hg, hp] at ht
        exact absurd ht.2.1.symm hm
      · rw [hd] at ht
        simp [tok1, hl, hg, hp] at ht
        obtain ⟨⟨rfl, rfl, rfl⟩, rfl, rfl⟩ := ht
        have hx := text_one hc
        have hb : bl (s.extract k (k + 1)) = [c] := by rw [bl_extract, hd, show k + 1 - k = 1 by omega]; rfl
        refine (rtok_pun (s.extract k (k + 1)) c w hsz (by rw [hb]; rfl) hl hg).mono ?_
        rintro e w' ⟨rfl, hw⟩
        exact ⟨by rw [if_pos rfl, hx], hw⟩
    · have e1 : tok1 ((bl s).drop k) = (if (valD (((bl s).drop k).takeWhile digB)).2 = 0 then ((2, [], (valD (((bl s).drop k).takeWhile digB)).1), (((bl s).drop k).takeWhile digB).length, 0) else ((0, [], 0), (((bl s).drop k).takeWhile digB).length, (valD (((bl s).drop k).takeWhile digB)).2)) := by
        rw [hd]; simp only [tok1, hl, hg, Bool.false_eq_true, if_false, if_true]
      have hm2 : m = (((bl s).drop k).takeWhile digB).length := by
        rw [e1] at ht
        split at ht <;> (injection ht with _ q; injection q with q _; exact q.symm)
      have hb : bl (s.extract k (k + m)) = ((bl s).drop k).takeWhile digB := by rw [hm2]; exact bl_text s digB k
      refine (rtok_dig (s.extract k (k + m)) c w hsz (by rw [hb, hd, List.takeWhile_cons, if_pos hg]; rfl) hl (by rw [hb]; exact fun q hq => List.all_eq_true.1 List.all_takeWhile q hq)).mono ?_
      rintro e w' ⟨rfl, hw⟩
      refine ⟨?_, hw⟩
      unfold RDig
      rw [hb]
      rw [e1] at ht
      split at ht
      · rename_i h0
        rw [if_pos h0]
        injection ht with q1 q2
        injection q1 with a1 a2
        injection a2 with a2 a3
        injection q2 with b1 b2
        subst a1 a2 a3 b2
        rw [if_pos rfl]
      · rename_i h0
        rw [if_neg h0]
        injection ht with q1 q2
        injection q2 with b1 b2
        subst b2
        rw [if_neg h0]
  · have e1 : tok1 ((bl s).drop k) = (if 12 < (((bl s).drop k).takeWhile namB).length then ((0, [], 0), (((bl s).drop k).takeWhile namB).length, 3) else ((1, ((bl s).drop k).takeWhile namB, 0), (((bl s).drop k).takeWhile namB).length, 0)) := by
      rw [hd]; simp only [tok1, hl, if_true]
    have hm2 : m = (((bl s).drop k).takeWhile namB).length := by
      rw [e1] at ht
      split at ht <;> (injection ht with _ q; injection q with q _; exact q.symm)
    have hb : bl (s.extract k (k + m)) = ((bl s).drop k).takeWhile namB := by rw [hm2]; exact bl_text s namB k
    have hn : namB c = true := by simp [namB, hl]
    have hsz2 : (s.extract k (k + m)).size = m := by rw [← bl_len, hb, hm2]
    have hba : s.extract k (k + m) = ba (((bl s).drop k).takeWhile namB) := by rw [← hb, ba_bl]
    refine (rtok_low (s.extract k (k + m)) c w hsz (by rw [hb, hd, List.takeWhile_cons, if_pos hn]; rfl) hl).mono ?_
    rintro e w' ⟨rfl, hw⟩
    refine ⟨?_, hw⟩
    rw [hsz2]
    rw [e1, ← hm2] at ht
    split at ht
    · rename_i h0
      rw [if_pos h0]
      injection ht with q1 q2
      injection q2 with b1 b2
      subst b2
      rw [if_neg (by decide)]
    · rename_i h0
      rw [if_neg h0]
      injection ht with q1 q2
      injection q1 with a1 a2
      injection a2 with a2 a3
      injection q2 with b1 b2
      subst a1 a2 a3 b2
      rw [if_pos rfl, hba]
theorem own_off {W : World} {B : Nat} {t : TypeId} {s n : Nat} {v : Value} {xs : List Value} (h : W.ownsRow B t s v n xs) {b : Nat} (hb : v.ownBlock ≠ some b) (j : Nat) (z : Value) : (W.setCell ⟨b, j, none⟩ z).ownsRow B t s v n xs := by
  refine ⟨h.1, ?_⟩
  rcases h.2 with h' | ⟨g, cap, cur, h1, h2, h3, h4⟩
  · exact .inl h'
  · refine .inr ⟨g, cap, cur, h1, h2, (Below.heap_setCell W ⟨b, j, none⟩ z g (fun e => hb ?_)).trans h3, h4⟩
    rw [h1]
    simp at e
    simp [Value.ownBlock, e]
set_option maxRecDepth 100000 in
set_option maxHeartbeats 4000000 in
theorem rlex_any (s : ByteArray) (w : World) (hs : s.size ≤ 20000) :
    Calls Try.prog 11 #[.string s] w fun e w' => LexR w' e (lexS (bl s)) ∧ Below w.heap.size w w' := by
  have HL := Lib.hid (bl_len s)
  by_cases hbig : 8000 < s.size
  · have hr : Hid (lexS (bl s) = .err 2 0) := Lib.hid (by unfold lexS; rw [if_pos (by have := HL.out; omega)])
    go_enter Try.func11, Try.ntmps11
    go_wp2_with fail
    all_goals (try (exfalso; omega))
    go_returns
    rw [hr.out]
    exact ⟨rfl, Below.refl _ _⟩
  · have HR : Hid (lexS (bl s) = lexA (bl s) 0 0) := Lib.hid (by unfold lexS; rw [if_neg (by have := HL.out; omega)])
    obtain ⟨i0, hi, hz0, hz1, hz2⟩ := info_parts infoTok
    have HI := Lib.hid hi
    have HZ0 := Lib.hid hz0
    have HZ1 := Lib.hid hz1
    have HZ2 := Lib.hid hz2
    clear hi hz0 hz1 hz2
    have hg0 := gapE_le (l := bl s) (a := 0) (Nat.zero_le _)
    rw [HL.out] at hg0
    have HST := Lib.hid (lexA_start (bl s))
    obtain ⟨g0, eg0⟩ : ∃ g0, gapE (bl s) 0 = g0 := ⟨_, rfl⟩
    rw [eg0] at hg0 HST
    have HG0 := Lib.hid eg0
    clear eg0
    have hgc : Calls Try.prog 14 #[.string s, .int .i64 0] w fun e w' => e = .returned (.int .i64 (gapE (bl s) 0 : Nat)) ∧ w = w' := rgap_any s 0 w hs (Nat.zero_le _)
    rw [HG0.out] at hgc
    have HGC := Lib.hid hgc
    clear hgc
    go_enter Try.func11, Try.ntmps11
    go_wp2_with (first
      | (go_at_call 14; with_reducible refine HGC.out.mono ?_; rintro e w1 ⟨rfl, rfl⟩))
    all_goals (try (exfalso; omega))
    go_loopw [5, 6] (fun v i wr => ∃ (k : Nat) (acc : List Tok), k ≤ s.size ∧ i = .int .i64 k ∧ acc.length ≤ 2000 ∧ (lexB ((bl s).drop k) k acc.length).app acc = lexA (bl s) 0 0 ∧ wr.ownsRow w.heap.size 30 4 v acc.length (cK acc) ∧ Below w.heap.size w wr) (fun _ i _ => s.size - (intOf i).toNat)
    case atStart => exact ⟨g0, [], hg0, rfl, by simp, by rw [HST.out, List.length_nil]; cases lexB (List.drop g0 (bl s)) g0 0 <;> rfl, World.ownsRow_nil _ _ _ _, Below.refl _ _⟩
    case round =>
      obtain ⟨k, acc, hk, rfl, hlen, hlex, how, hbw⟩ := hrel
      obtain ⟨A9, c9, hv9, hc9, hn9⟩ := own_form how
      obtain ⟨q, hq⟩ : ∃ q, acc.length = q := ⟨_, rfl⟩
      have HQ := Lib.hid hq
      have HOW := Lib.hid how
      have HBW := Lib.hid hbw
      have HLEX := Lib.hid hlex
      have hbs := hbw.size
      rw [hq] at hv9 hc9 hn9 hlen HOW HLEX
      subst hv9
      clear how hbw hlex hq
      by_cases hlt : k < s.size
      · have j0 : (0 : Int) ≤ (k : Int) := by omega
        have j1 : (k : Int) < (s.size : Int) := by omega
        obtain ⟨c, hc⟩ : ∃ c, s[k].toNat = c := ⟨_, rfl⟩
        have HC : Hid ((bl s)[k]? = some c) := Lib.hid (by rw [bl_get hlt, hc])
        clear hc
        by_cases hfull : q = 2000
        · subst hfull
          have hres : Hid (lexS (bl s) = .err 2 k) := Lib.hid (by rw [HR.out, ← HLEX.out, lexB_full HC.out]; rfl)
          go_wp2_with fail
          go_returns
          rw [hres.out]
          exact ⟨rfl, HBW.out⟩
        · have e20 : ((q : Int) == 2000) = false := by simp; omega
          obtain ⟨⟨⟨K1, t1, n1⟩, m, er⟩, ht⟩ : ∃ x, tok1 ((bl s).drop k) = x := ⟨_, rfl⟩
          have hml : k + m ≤ s.size := by
            have := tok1_le ((bl s).drop k)
            rw [ht] at this
            simp only [List.length_drop] at this
            have := HL.out
            omega
          have HT := Lib.hid ht
          have hec := fun W => rend_any s k c W hs HC.out
          rw [ht] at hec
          have HEC := Lib.hid hec
          clear hec
          by_cases hm0 : m = 0
          · subst hm0
            have hz := tok1_zero (c := c) (t := (bl s).drop (k + 1)) (by rw [← drop_cons HC.out, ht])
            rw [← drop_cons HC.out, ht] at hz
            have he7 : er = 7 := by injection hz with _ q2; injection q2
            subst he7
            have hres : Hid (lexS (bl s) = .err 7 k) := Lib.hid (by
              have q1 := lexB_err HC.out hfull (by rw [ht]; show (7 : Int) ≠ 0; decide)
              rw [ht] at q1
              rw [HR.out, ← HLEX.out, q1]
              rfl)
            clear ht hz
            go_wp2_with (first
              | (go_at_call 16; refine (HEC.out _).mono ?_; rintro e w1 ⟨rfl, hw1⟩; obtain rfl := hw1))
            all_goals (try (exfalso; omega))
            go_returns
            rw [hres.out]
            exact ⟨rfl, HBW.out⟩
          · have eme : ((k + m : Nat) : Int) = (k : Int) + m := by omega
            have eqk : (((k : Int) + (m : Int)) == (k : Int)) = false := by simp; omega
            have HTC := Lib.hid (fun W => rtok_at s k c m K1 n1 er t1 W hs HC.out ht hm0)
            by_cases he : er = 0
            · subst he
              have HN : Hid ((lexB ((bl s).drop (gapE (bl s) (k + m))) (gapE (bl s) (k + m)) (q + 1)).app (acc ++ [(K1, t1, n1, k)]) = lexA (bl s) 0 0) := Lib.hid (by
                have q1 := lexB_tok HC.out hfull (by rw [ht])
                rw [ht] at q1
                rw [← HLEX.out, q1, app_pre])
              have hg1 := gapE_le (l := bl s) (a := k + m) (by have := HL.out; omega)
              rw [HL.out] at hg1
              have hg2 : k + m ≤ gapE (bl s) (k + m) := by unfold gapE; omega
              obtain ⟨g1, eg1⟩ : ∃ g1, gapE (bl s) (k + m) = g1 := ⟨_, rfl⟩
              rw [eg1] at hg1 hg2 HN
              have HGC2 := Lib.hid (fun W => rgap_any s (k + m) W hs hml)
              rw [eg1] at HGC2
              rw [if_pos rfl] at HTC
              clear ht eg1
              go_upto_region 12 with (first
                | (go_at_call 16; refine (HEC.out _).mono ?_; rintro e w1 ⟨rfl, hw1⟩; obtain rfl := hw1)
                | (go_at_call 23; refine (HTC.out _).mono ?_; rintro e wa ⟨rfl, hw⟩))
              all_goals (try (exfalso; omega))
              have HB1 := Lib.hid (bel_alloc (bel_step HBW.out hw) (.cells #[.int .i64 K1, .string (ba t1), .int .i64 n1, .int .i64 0] 30))
              have HOW1 := Lib.hid ((own_below HOW.out hw).alloc (.cells #[.int .i64 K1, .string (ba t1), .int .i64 n1, .int .i64 0] 30))
              have HN1 := Lib.hid (OW.new wa 30 [.int .i64 K1, .string (ba t1), .int .i64 n1, .int .i64 0])
              obtain ⟨wx, ewx⟩ : ∃ wx, wa.alloc (.cells #[.int .i64 K1, .string (ba t1), .int .i64 n1, .int .i64 0] 30) = wx := ⟨_, rfl⟩
              rw [ewx] at HB1 HOW1 HN1 ⊢
              have hbx : w.heap.size ≤ wa.heap.size := (bel_step HBW.out hw).size
              clear ewx
              obtain ⟨bx, eB⟩ : ∃ b, wa.heap.size = b := ⟨_, rfl⟩
              rw [eB] at HN1 hbx ⊢
              have HOWO := Lib.hid (own_below HOW.out hw).lt
              rw [eB] at HOWO
              clear eB hw
              obtain ⟨x0, x1, x2, x3⟩ := cell4 HN1.out
              have z3 := HN1.out.thaw 3
              go_upto_region 15 with (fail)
              have HB2 := Lib.hid (HB1.out.setCell (p := ⟨bx, 3, none⟩) hbx (.int .i64 (k : Int)))
              have HN2 := Lib.hid (HN1.out.set 3 (.int .i64 (k : Int)))
              have HOW2 := Lib.hid (own_off HOW1.out (fun e => Nat.lt_irrefl _ (HOWO.out bx e).2) 3 (.int .i64 (k : Int)))
              obtain ⟨wy, ewy⟩ : ∃ wy, wx.setCell ⟨bx, 3, none⟩ (.int .i64 (k : Int)) = wy := ⟨_, rfl⟩
              rw [ewy] at HB2 HN2 HOW2 ⊢
              clear ewy x0 x1 x2 x3 z3
              obtain ⟨x0, x1, x2, x3⟩ := cell4 HN2.out
              have hbs1 := HB2.out.size
              go_wp2_with (first
                | (go_at_call 14; refine (HGC2.out _).mono ?_; rintro e w5 ⟨rfl, hw5⟩; obtain rfl := hw5)
                | (at_builtin; refine wpList_append_lies _ rfl (.tmp 44) (.tmp 46) 23 rfl w.heap.size 30 i0 _ 4 40 Try.underlying23 HI.out HZ0.out HZ1.out HZ2.out rfl (by omega) (.slice A9 q c9) q _ rfl (HOW2.out.alloc _) ⟨_, 0, none⟩ 1 1 (ck1 (K1, t1, n1, k)) rfl rfl (World.news_of_block (heap_alloc_new _ _)) (ck1_one _) (by omega) (by unfold maxLen; omega) (by omega) (by simp; omega) _ rfl ?_; intro gg cap1 wB hown1 hgrow1 hat1 hlt1; rw [cK_snoc] at hown1
                   have hbB : Below w.heap.size w wB := (bel_alloc HB2.out _).grown hgrow1 (bel_alloc HB2.out _).size (own_ge HOW2.out)))
              go_roundw
              case rel => exact ⟨g1, acc ++ [(K1, t1, n1, k)], by omega, rfl, by rw [List.length_append, HQ.out]; simp; omega, by rw [List.length_append, HQ.out]; exact HN.out, by rw [List.length_append, HQ.out]; exact hown1, hbB⟩
              case measure => simp [intOf] <;> omega
            · have hres : Hid (lexS (bl s) = .err er k) := Lib.hid (by
                have q1 := lexB_err HC.out hfull (by rw [ht]; exact he)
                rw [ht] at q1
                rw [HR.out, ← HLEX.out, q1]
                rfl)
              have e5 : (er != 0) = true := by simpa using he
              rw [if_neg he] at HTC
              clear ht he
              go_wp2_with (first
                | (go_at_call 16; refine (HEC.out _).mono ?_; rintro e w1 ⟨rfl, hw1⟩; obtain rfl := hw1)
                | (go_at_call 23; refine (HTC.out _).mono ?_; rintro e wa ⟨rfl, hw⟩
                   have HB1 := Lib.hid (fun o => bel_alloc (bel_step HBW.out hw) o)))
              all_goals (try (exfalso; omega))
              go_returns
              rw [hres.out]
              exact ⟨rfl, HB1.out _⟩
      · have hres : Hid (lexS (bl s) = .ok acc) := Lib.hid (by rw [HR.out, ← HLEX.out, lexB_end (by have := HL.out; omega)]; simp [Res.app])
        go_wp2_with fail
        all_goals (try (exfalso; omega))
        go_returns
        rw [hres.out]
        exact ⟨⟨A9, c9, by rw [HQ.out]; rfl, own_rl HOW.out, by rw [HQ.out]; exact hn9, by rw [HQ.out]; exact hc9⟩, HBW.out⟩
end Go.Proofs.Ytkmjflkodckflaa
