/-
  THE WALKS over package lexer, third part: Lex.
-/
import Derived.Test.YtkmjflkodckflaaToken
import Derived.WalkMore
namespace Go.Proofs.Ytkmjflkodckflaa
open Go.RowKit
set_option linter.unusedVariables false
set_option linter.unusedSimpArgs false
attribute [local go_sem ↓] Go.wp_at_zero Go.wp_at_succ

/-- what Lex answers -/
def LexR (W : World) (e : Ending) : Res → Prop
  | .ok ts => ∃ A c, e = .returned (.tuple #[.slice A ts.length c, .int .i64 0, .int .i64 0]) ∧ RL W A (cK ts) ∧ (A = none → ts.length = 0 ∧ c = 0) ∧ (ts.length ≤ c ∧ c ≤ 9223372036854775807)
  | .err er p => e = .returned (.tuple #[.slice none 0 0, .int .i64 er, .int .i64 (p : Int)])
theorem tok1_le (r : List Nat) : (tok1 r).2.1 ≤ r.length := by
  cases r with
  | nil => simp [tok1]
  | cons c t =>
    have h1 := (List.takeWhile_prefix namB (l := c :: t)).length_le
    have h2 := (List.takeWhile_prefix digB (l := c :: t)).length_le
    simp only [tok1]
    split
    · split <;> exact h1
    · split
      · split <;> exact h2
      · split <;> simp
theorem kind1 {c : Nat} (h : gapB c = true) : kindB c = 1 := by unfold kindB; rw [if_pos h]
theorem kind2 : kindB 35 = 2 := by decide
theorem kindOf_35 (w : World) : Calls Try.prog 19 #[.int .u8 35] w fun e w' => e = .returned (.int .i64 2) ∧ w' = w := by
  have h := kindOf_any 35 w
  rw [kind2] at h
  exact h
theorem kind_ne {c : Nat} (h : gapB c = false) (hc : c ≠ 35) : (kindB c == 1) = false ∧ (kindB c == 2) = false := by
  unfold kindB
  rw [if_neg (by rw [h]; exact Bool.false_ne_true), if_neg hc]
  constructor
  · split
    · decide
    · split
      · decide
      · split <;> decide
  · split
    · decide
    · split
      · decide
      · split <;> decide
set_option maxRecDepth 100000 in
set_option maxHeartbeats 4000000 in
theorem lex_any (s : ByteArray) (w : World) (hs : s.size ≤ 20000) :
    Calls Try.prog 10 #[.string s] w fun e w' => LexR w' e (lexS (bl s)) ∧ Below w.heap.size w w' := by
  have HL := Lib.hid (bl_len s)
  by_cases hbig : 8000 < s.size
  · have hr : Hid (lexS (bl s) = .err 2 0) := Lib.hid (by unfold lexS; rw [if_pos (by have := HL.out; omega)])
    go_enter Try.func10, Try.ntmps10
    go_wp2_with fail
    go_step3
    go_wp2_with fail
    all_goals (try (exfalso; omega))
    (try rw [Exit.noGoto_ret])
    go_returns
    rw [hr.out]
    exact ⟨rfl, Below.refl _ _⟩
  · have HR : Hid (lexS (bl s) = lexA (bl s) 0 0) := Lib.hid (by unfold lexS; rw [if_neg (by have := HL.out; omega)])
    obtain ⟨i0, hi, hz0, hz1, hz2⟩ := info_parts infoTok
    have HI := Lib.hid hi
    have HZ0 := Lib.hid hz0
    have HZ1 := Lib.hid hz1
    have HZ2 := Lib.hid hz2
    clear hi hz0 hz1 hz2
    go_enter Try.func10, Try.ntmps10
    go_wp2_with fail
    go_step3
    go_wp2_with fail
    all_goals (try (exfalso; omega))
    go_step3
    go_wp2_with fail
    go_loopw [5, 7] (fun v i wr => ∃ (k : Nat) (acc : List Tok), k ≤ s.size ∧ i = .int .i64 k ∧ acc.length ≤ 2000 ∧ (lexA ((bl s).drop k) k acc.length).app acc = lexA (bl s) 0 0 ∧ wr.ownsRow w.heap.size 30 4 v acc.length (cK acc) ∧ Below w.heap.size w wr) (fun _ i _ => s.size - (intOf i).toNat)
    case atStart => exact ⟨0, [], Nat.zero_le _, rfl, by simp, by rw [List.drop_zero, List.length_nil]; cases lexA (bl s) 0 0 <;> rfl, World.ownsRow_nil _ _ _ _, Below.refl _ _⟩
    case round =>
      obtain ⟨k, acc, hk, rfl, hlen, hlex, how, hbw⟩ := hrel
      obtain ⟨A9, c9, hv9, hc9, hn9⟩ := own_form how
      obtain ⟨q, hq⟩ : ∃ q, acc.length = q := ⟨_, rfl⟩
      have HQ := Lib.hid hq
      have HOW := Lib.hid how
      have HBW := Lib.hid hbw
      have HLEX := Lib.hid hlex
      have hbs := hbw.size
      rw [hq] at hv9 hc9 hn9 hlen HOW HLEX
      subst hv9
      clear how hbw hlex hq
      by_cases hlt : k < s.size
      · have j0 : (0 : Int) ≤ (k : Int) := by omega
        have j1 : (k : Int) < (s.size : Int) := by omega
        obtain ⟨c, hc⟩ : ∃ c, s[k].toNat = c := ⟨_, rfl⟩
        have HC : Hid ((bl s)[k]? = some c) := Lib.hid (by rw [bl_get hlt, hc])
        cases hg : gapB c
        · by_cases h35 : c = 35
          · subst h35
            have hsl := spn_le (p := nlB) (l := bl s) (a := k) (by have := HL.out; omega)
            rw [HL.out] at hsl
            have hsg := spn_ge nlB (bl s) k
            have hst : k < spn nlB (bl s) k := by rw [spn_on HC.out (by decide)]; exact Nat.lt_of_lt_of_le (Nat.lt_succ_self k) (spn_ge _ _ _)
            have HN : Hid ((lexA ((bl s).drop (spn nlB (bl s) k)) (spn nlB (bl s) k) q).app acc = lexA (bl s) 0 0) := Lib.hid (by rw [← HLEX.out, lexA_com HC.out])
            obtain ⟨e0, he0⟩ : ∃ e0, spn nlB (bl s) k = e0 := ⟨_, rfl⟩
            rw [he0] at hsl hsg hst HN
            have HE0 := Lib.hid he0
            clear he0 hg
            go_wp2_with (first
              | (go_at_call 19; with_reducible refine (kindOf_35 _).mono ?_; rintro e w1 ⟨rfl, rfl⟩)
              | (go_at_call 20; refine (span_nl s k _ hs (by omega)).mono ?_; rintro e w1 ⟨rfl, rfl⟩; rw [HE0.out]))
            go_roundw
            case rel => exact ⟨e0, acc, by omega, rfl, by have := HQ.out; omega, by rw [HQ.out]; exact HN.out, by rw [HQ.out]; exact HOW.out, HBW.out⟩
            case measure => simp [intOf] <;> omega
          · have hk1 := kind_ne hg h35
            have ek1 := hk1.1
            have ek2 := hk1.2
            have HG := Lib.hid hg
            have H35 := Lib.hid h35
            clear hk1
            by_cases hfull : q = 2000
            · subst hfull
              have hres : Hid (lexS (bl s) = .err 2 k) := Lib.hid (by rw [HR.out, ← HLEX.out, lexA_full HC.out hg h35]; rfl)
              clear hg h35
              go_wp2_with (first
                | (go_at_call 19; with_reducible refine (kindOf_any c _).mono ?_; rintro e w1 ⟨rfl, rfl⟩))
              (try rw [Exit.noGoto_ret])
              go_returns
              rw [hres.out]
              exact ⟨rfl, HBW.out⟩
            · have e20 : ((q : Int) == 2000) = false := by simp; omega
              obtain ⟨⟨⟨K1, t1, n1⟩, m, er⟩, ht⟩ : ∃ x, tok1 ((bl s).drop k) = x := ⟨_, rfl⟩
              have hml : k + m ≤ s.size := by
                have := tok1_le ((bl s).drop k)
                rw [ht] at this
                simp only [List.length_drop] at this
                have := HL.out
                omega
              have HT := Lib.hid ht
              have HTE := Lib.hid (tokE_of ht)
              by_cases he : er = 0
              · subst he
                have hm1 : 1 ≤ m := by
                  have q1 := drop_cons HC.out
                  have q2 := tok1_pos (c := c) (t := (bl s).drop (k + 1)) (by rw [← q1, ht])
                  rw [← q1, ht] at q2
                  exact q2
                have HN : Hid ((lexA ((bl s).drop (k + m)) (k + m) (q + 1)).app (acc ++ [(K1, t1, n1, k)]) = lexA (bl s) 0 0) := Lib.hid (by
                  have q1 := lexA_tok HC.out hg h35 hfull (by rw [ht])
                  rw [ht] at q1
                  rw [← HLEX.out, q1, app_pre])
                clear hg h35 ht
                rw [if_pos rfl] at HTE
                go_upto_region 16 with (first
                  | (go_at_call 19; with_reducible refine (kindOf_any c _).mono ?_; rintro e w1 ⟨rfl, rfl⟩)
                  | (go_at_call 22; with_reducible refine (token_any s k c _ hs HC.out HG.out H35.out).mono ?_; rintro e wa ⟨rfl, hw⟩; rw [HTE.out]))
                have HB1 := Lib.hid (bel_alloc (bel_step HBW.out hw) (.cells #[.int .i64 K1, .string (ba t1), .int .i64 n1, .int .i64 (k : Int)] 30))
                have HOW1 := Lib.hid ((own_below HOW.out hw).alloc (.cells #[.int .i64 K1, .string (ba t1), .int .i64 n1, .int .i64 (k : Int)] 30))
                have HN1 := Lib.hid (OW.new wa 30 [.int .i64 K1, .string (ba t1), .int .i64 n1, .int .i64 (k : Int)])
                obtain ⟨wx, ewx⟩ : ∃ wx, wa.alloc (.cells #[.int .i64 K1, .string (ba t1), .int .i64 n1, .int .i64 (k : Int)] 30) = wx := ⟨_, rfl⟩
                rw [ewx] at HB1 HOW1 HN1 ⊢
                clear ewx hw
                obtain ⟨bx, eB⟩ : ∃ b, wa.heap.size = b := ⟨_, rfl⟩
                rw [eB] at HN1 ⊢
                clear eB
                obtain ⟨x0, x1, x2, x3⟩ := cell4 HN1.out
                have hbs1 := HB1.out.size
                go_wp2_with (at_builtin; refine wpList_append_lies _ rfl (.tmp 51) (.tmp 53) 23 rfl w.heap.size 30 i0 _ 4 40 Try.underlying23 HI.out HZ0.out HZ1.out HZ2.out rfl (by omega) (.slice A9 q c9) q _ rfl (HOW1.out.alloc _) ⟨_, 0, none⟩ 1 1 (ck1 (K1, t1, n1, k)) rfl rfl (World.news_of_block (heap_alloc_new _ _)) (ck1_one _) (by omega) (by unfold maxLen; omega) (by omega) (by simp; omega) _ rfl ?_; intro gg cap1 wB hown1 hgrow1 hat1 hlt1; rw [cK_snoc] at hown1)
                have hbB : Below w.heap.size w wB := (bel_alloc HB1.out _).grown hgrow1 (bel_alloc HB1.out _).size (own_ge HOW1.out)
                go_roundw
                case rel => exact ⟨k + m, acc ++ [(K1, t1, n1, k)], by omega, by go_num, by rw [List.length_append, HQ.out]; simp; omega, by rw [List.length_append, HQ.out]; exact HN.out, by rw [List.length_append, HQ.out]; exact hown1, hbB⟩
                case measure => simp [intOf] <;> omega
              · have hres : Hid (lexS (bl s) = .err er k) := Lib.hid (by
                  have q1 := lexA_err HC.out hg h35 hfull (by rw [ht]; exact he)
                  rw [ht] at q1
                  rw [HR.out, ← HLEX.out, q1]
                  rfl)
                have e5 : (er != 0) = true := by simpa using he
                rw [if_neg he] at HTE
                clear hg h35 ht he
                go_upto_region 16 with (first
                  | (go_at_call 19; with_reducible refine (kindOf_any c _).mono ?_; rintro e w1 ⟨rfl, rfl⟩)
                  | (go_at_call 22; with_reducible refine (token_any s k c _ hs HC.out HG.out H35.out).mono ?_; rintro e wa ⟨rfl, hw⟩; rw [HTE.out]))
                have HB1 := Lib.hid (fun o => bel_alloc (bel_step HBW.out hw) o)
                go_wp2_with fail
                (try rw [Exit.noGoto_ret])
                go_returns
                rw [hres.out]
                exact ⟨rfl, HB1.out _⟩
        · have hsl := spn_le (p := gapB) (l := bl s) (a := k) (by have := HL.out; omega)
          rw [HL.out] at hsl
          have hsg := spn_ge gapB (bl s) k
          have hst : k < spn gapB (bl s) k := by rw [spn_on HC.out hg]; exact Nat.lt_of_lt_of_le (Nat.lt_succ_self k) (spn_ge _ _ _)
          have HN : Hid ((lexA ((bl s).drop (spn gapB (bl s) k)) (spn gapB (bl s) k) q).app acc = lexA (bl s) 0 0) := Lib.hid (by rw [← HLEX.out]; exact congrArg (Res.app acc) (lexA_gap (bl s) k q).symm)
          have HK := Lib.hid (kind1 hg)
          obtain ⟨e0, he0⟩ : ∃ e0, spn gapB (bl s) k = e0 := ⟨_, rfl⟩
          rw [he0] at hsl hsg hst HN
          have HE0 := Lib.hid he0
          clear he0 hg
          go_wp2_with (first
            | (go_at_call 19; with_reducible refine (kindOf_any c _).mono ?_; rintro e w1 ⟨rfl, rfl⟩; rw [HK.out])
            | (go_at_call 20; refine (span_gap s k _ hs (by omega)).mono ?_; rintro e w1 ⟨rfl, rfl⟩; rw [HE0.out]))
          go_roundw
          case rel => exact ⟨e0, acc, by omega, rfl, by have := HQ.out; omega, by rw [HQ.out]; exact HN.out, by rw [HQ.out]; exact HOW.out, HBW.out⟩
          case measure => simp [intOf] <;> omega
      · have hres : Hid (lexS (bl s) = .ok acc) := Lib.hid (by rw [HR.out, ← HLEX.out, lexA_end (by have := HL.out; omega)]; simp [Res.app])
        go_wp2_with fail
        all_goals (try (exfalso; omega))
        (try rw [Exit.noGoto_ret])
        go_returns
        rw [hres.out]
        exact ⟨⟨A9, c9, by rw [HQ.out]; rfl, own_rl HOW.out, by rw [HQ.out]; exact hn9, by rw [HQ.out]; exact hc9⟩, HBW.out⟩
end Go.Proofs.Ytkmjflkodckflaa
