/-
  THE REFERENCE's Acked.
-/
import Derived.Test.YteeohndgkfilaaaRefv
import Derived.Test.YteeohndgkfilaaaRrecv
namespace Go.Proofs.Yteeohndgkfilaaa
open Go.RowKit
set_option linter.unusedVariables false
attribute [local go_sem ↓] Go.wp_at_zero Go.wp_at_succ

set_option maxRecDepth 100000 in
set_option maxHeartbeats 4000000 in
theorem rack_b1 (h nx : Int) (A : Option Addr) (n c : Nat) (B : Option Addr) (m d : Nat) (O : List (Int × Int)) (I : List Int) (x : Int) (w : World) (hn : n ≤ 9223372036854775807) (hm : m ≤ 9223372036854775807) (hlO : O.length = n) (hlI : I.length = m) (hRO : RL w A (cT O)) (hRI : RL w B (cI I)) (hv : vB h nx O I = false) :
    Calls Try.prog 16 #[.agg #[.int .i64 h, .int .i64 nx, .slice A n c, .slice B m d], .int .i64 x] w fun e w' => e = .returned (.tuple #[zS, .int .i64 1]) ∧ Below w.heap.size w w' := by
  have HV := Lib.hid hv
  have HRO := Lib.hid hRO
  have HRI := Lib.hid hRI
  have HLO := Lib.hid hlO
  have HLI := Lib.hid hlI

  clear hv hRO hRI hlO hlI
  go_enter Try.func16, Try.ntmps16
  go_wp2_with (first
    | (go_at_call 19; with_reducible refine (rval_any h nx A n c B m d O I _ hn hm HLO.out HLI.out (HRO.out.keep (bel_alloc (bel_a w _) _)) (HRI.out.keep (bel_alloc (bel_a w _) _))).mono ?_; rintro e w1 ⟨rfl, h1⟩; rw [HV.out]
       have H1 := Lib.hid (bel_step (bel_alloc (bel_a w (.cells #[.int .i64 h, .int .i64 nx, .slice A n c, .slice B m d] 25)) (.cells #[.int .i64 0, .int .i64 0, .slice none 0 0, .slice none 0 0] 25)) h1)
       have P0 := Lib.hid (((OW.new w 25 [.int .i64 h, .int .i64 nx, .slice A n c, .slice B m d]).alloc (.cells #[.int .i64 0, .int .i64 0, .slice none 0 0, .slice none 0 0] 25)).keep h1)
       have P1 := Lib.hid ((OW.new1 w (.cells #[.int .i64 h, .int .i64 nx, .slice A n c, .slice B m d] 25) 25 [.int .i64 0, .int .i64 0, .slice none 0 0, .slice none 0 0]).keep h1)
       obtain ⟨c00, c01, c02, c03⟩ := cell4 P0.out
       obtain ⟨c10, c11, c12, c13⟩ := cell4 P1.out
       have cf0 := P1.out.thaw 0
       have cf1 := P1.out.thaw 1
       have cf2 := P1.out.thaw 2
       have cf3 := P1.out.thaw 3
       clear h1))
  have f1 := P1.out.set4 (.int .i64 0) (.int .i64 0) (.slice none 0 0) (.slice none 0 0)
  have fb := bel_set4 H1.out (b := w.heap.size + 1) (by omega) 0 1 2 3 (.int .i64 0) (.int .i64 0) (.slice none 0 0) (.slice none 0 0)
  obtain ⟨wF, hwF⟩ : ∃ wF, (((w1.setCell ⟨w.heap.size + 1, 0, none⟩ (.int .i64 0)).setCell ⟨w.heap.size + 1, 1, none⟩ (.int .i64 0)).setCell ⟨w.heap.size + 1, 2, none⟩ (.slice none 0 0)).setCell ⟨w.heap.size + 1, 3, none⟩ (.slice none 0 0) = wF := ⟨_, rfl⟩
  rw [hwF] at f1 fb ⊢
  obtain ⟨d0, d1, d2, d3⟩ := cell4 f1
  (try simp only [Exit.inBlock, Exit.then])
  refine bodyPost_ret (by simp [results, Try.results16, go_sem, d0, d1, d2, d3]; try rfl) rfl ?_
  exact ⟨rfl, fb⟩

set_option maxRecDepth 100000 in
set_option maxHeartbeats 4000000 in
theorem rack_v (h nx : Int) (A : Option Addr) (n c : Nat) (B : Option Addr) (m d : Nat) (O : List (Int × Int)) (I : List Int) (x : Int) (w : World) (hn : n ≤ 9223372036854775807) (hm : m ≤ 9223372036854775807) (hlO : O.length = n) (hlI : I.length = m) (hRO : RL w A (cT O)) (hRI : RL w B (cI I)) (hAn : A = none → n = 0 ∧ c = 0) (hBn : B = none → m = 0 ∧ d = 0) (hv : vB h nx O I = true) (hd : m ≤ d ∧ d ≤ 9223372036854775807) :
    Calls Try.prog 16 #[.agg #[.int .i64 h, .int .i64 nx, .slice A n c, .slice B m d], .int .i64 x] w fun e w' => (∃ v er, e = .returned (.tuple #[v, .int .i64 er]) ∧ ((hasT x O ∧ er = 0 ∧ SV w' v h nx (wo x O) I) ∨ (¬ hasT x O ∧ er = 4 ∧ v = zS))) ∧ Below w.heap.size w w' := by
  have HV := Lib.hid hv
  have HRO := Lib.hid hRO
  have HRI := Lib.hid hRI
  have HLO := Lib.hid hlO
  have HLI := Lib.hid hlI
  have hvs := vB_iff.1 hv
  have hm64 : m ≤ 64 := by have := hvs.2.1; omega
  have hn64 : n ≤ 64 := by have := hvs.2.1; omega
  clear hvs
  have HAN := Lib.hid hAn
  have HBN := Lib.hid hBn
  have HD := Lib.hid hd
  obtain ⟨i0, hi, hz0, hz1, hz2⟩ := info_parts infoTr
  have HI := Lib.hid hi
  have HZ0 := Lib.hid hz0
  have HZ1 := Lib.hid hz1
  have HZ2 := Lib.hid hz2
  clear hAn hBn hi hz0 hz1 hz2 hd
  clear hv hRO hRI hlO hlI
  go_enter Try.func16, Try.ntmps16
  go_upto_region 3 with (first
    | (go_at_call 19; with_reducible refine (rval_any h nx A n c B m d O I _ hn hm HLO.out HLI.out (HRO.out.keep (bel_alloc (bel_a w _) _)) (HRI.out.keep (bel_alloc (bel_a w _) _))).mono ?_; rintro e w1 ⟨rfl, h1⟩; rw [HV.out]
       have H1 := Lib.hid (bel_step (bel_alloc (bel_a w (.cells #[.int .i64 h, .int .i64 nx, .slice A n c, .slice B m d] 25)) (.cells #[.int .i64 0, .int .i64 0, .slice none 0 0, .slice none 0 0] 25)) h1)
       have P0 := Lib.hid (((OW.new w 25 [.int .i64 h, .int .i64 nx, .slice A n c, .slice B m d]).alloc (.cells #[.int .i64 0, .int .i64 0, .slice none 0 0, .slice none 0 0] 25)).keep h1)
       have P1 := Lib.hid ((OW.new1 w (.cells #[.int .i64 h, .int .i64 nx, .slice A n c, .slice B m d] 25) 25 [.int .i64 0, .int .i64 0, .slice none 0 0, .slice none 0 0]).keep h1)
       obtain ⟨c00, c01, c02, c03⟩ := cell4 P0.out
       obtain ⟨c10, c11, c12, c13⟩ := cell4 P1.out
       have cf0 := P1.out.thaw 0
       have cf1 := P1.out.thaw 1
       have cf2 := P1.out.thaw 2
       have cf3 := P1.out.thaw 3
       clear h1))
  clear c00 c01 c02 c03 c10 c11 c12 c13 cf0 cf1 cf2 cf3
  obtain ⟨b1, hB1⟩ : ∃ b, w.heap.size + 1 = b := ⟨_, rfl⟩
  obtain ⟨b0, hB0⟩ : ∃ b, w.heap.size = b := ⟨_, rfl⟩
  have o1 : b0 < b1 ∧ w.heap.size ≤ b0 := by omega
  rw [hB1] at P1 ⊢
  rw [hB0] at P0
  first | rw [hB0] | skip
  have l2 := P1.out.lt
  clear hB0 hB1
  obtain ⟨o2, o4⟩ := o1
  go_wp2_with fail
  go_loopw [6, 7] (fun v i wr => ∃ k : Nat, k ≤ n ∧ i = .int .i64 k ∧ wr.ownsRow w1.heap.size 27 2 v (wo x (O.take k)).length (cT (wo x (O.take k))) ∧ Below w1.heap.size w1 wr) (fun _ i _ => n - (intOf i).toNat)
  case atStart => exact ⟨0, Nat.zero_le _, rfl, World.ownsRow_nil _ _ _ _, Below.refl _ _⟩
  case round =>
    obtain ⟨k, hk, rfl, how, hbw⟩ := hrel
    obtain ⟨A9, c9, hv9, hc9, hn9⟩ := own_form how
    have hl9 := wo_len x (O.take k)
    have HOW := Lib.hid how
    have HBW := Lib.hid hbw
    have hbs := hbw.size
    have hk9 : (O.take k).length ≤ k := by simp; omega
    obtain ⟨s, hs9⟩ : ∃ s, (wo x (O.take k)).length = s := ⟨_, rfl⟩
    rw [hs9] at hv9 hc9 HOW hl9 hn9
    subst hv9
    have HS9 := Lib.hid hs9
    clear how hbw hs9
    obtain ⟨y00, y01, y02, y03⟩ := cell4 (P0.out.keep HBW.out)
    by_cases hlt : k < n
    · obtain ⟨b, o, rfl, hb, x0, x1⟩ := (HRO.out.keep (bel_step H1.out HBW.out)).t (i := k) (by have := HLO.out; omega)
      have j0 : (0 : Int) ≤ (k : Int) := by omega
      have j1 : (k : Int) < (n : Int) := by omega
      have HT := Lib.hid (take_snoc2 (l := O) (k := k) (by have := HLO.out; omega))
      have HE : Hid ((at2 O k) = ((at2 O k).1, (at2 O k).2)) := Lib.hid rfl
      generalize hp1 : (at2 O k).1 = p1 at *
      generalize hp2 : (at2 O k).2 = p2 at *
      clear hp1 hp2
      by_cases he : p1 = x
      · have e3 : (p1 != x) = false := by simpa using he
        have HW : Hid (wo x (O.take (k + 1)) = wo x (O.take k)) := Lib.hid (by rw [HT.out, wo_app, HE.out, he]; simp [wo])
        clear he
        go_wp2_with fail
        go_roundw
        case rel => exact ⟨k + 1, by omega, by go_num, by rw [HW.out, HS9.out]; exact HOW.out, HBW.out⟩
        case measure => simp [intOf] <;> omega
      · have e3 : (p1 != x) = true := by simpa using he
        have HW : Hid (wo x (O.take (k + 1)) = wo x (O.take k) ++ [(p1, p2)]) := Lib.hid (by rw [HT.out, wo_app, HE.out]; simp [wo, he])
        clear he
        go_wp2_with (at_builtin; refine wpList_append_lies _ rfl (.tmp 27) (.tmp 33) 22 rfl w1.heap.size 27 i0 _ 2 16 Try.underlying22 HI.out HZ0.out HZ1.out HZ2.out rfl (by omega) (.slice A9 s c9) s _ rfl (HOW.out.alloc _) ⟨_, 0, none⟩ 1 1 [.int .i64 p1, .int .i64 p2] rfl rfl (World.news_of_block (heap_alloc_new _ _)) (one2 _ _) (by omega) (by unfold maxLen; omega) (by omega) (by simp; omega) _ rfl ?_; intro gg cap1 wB hown1 hgrow1 hat1 hlt1; rw [cT_snoc, ← HW.out] at hown1)
        have hbB : Below w1.heap.size w1 wB := (bel_alloc HBW.out _).grown hgrow1 (bel_alloc HBW.out _).size (own_ge HOW.out)
        go_roundw
        case rel => exact ⟨k + 1, by omega, by go_num, by rw [HW.out, List.length_append, HS9.out, ← HW.out]; exact hown1, hbB⟩
        case measure => simp [intOf] <;> omega
    · obtain rfl : k = n := by omega
      have HTK : Hid (O.take k = O) := Lib.hid (by rw [← HLO.out]; exact List.take_length)
      have HLW : Hid ((wo x O).length = s) := Lib.hid (by have e := HS9.out; rw [HTK.out] at e; exact e)
      have HOW2 : Hid (wr.ownsRow w1.heap.size 27 2 (.slice A9 s c9) s (cT (wo x O))) := Lib.hid (by have e := HOW.out; rw [HTK.out] at e; exact e)
      have Q0 := Lib.hid (P0.out.keep HBW.out)
      have Q1 := Lib.hid (P1.out.keep HBW.out)
      have HB2 := Lib.hid (bel_step H1.out HBW.out)
      obtain ⟨y10, y11, y12, y13⟩ := cell4 Q1.out
      have z2 := Q0.out.thaw 2
      have z10 := Q1.out.thaw 0
      have z11 := Q1.out.thaw 1
      have z12 := Q1.out.thaw 2
      have z13 := Q1.out.thaw 3
      have v3 : ¬ b0 = b1 := by omega
      have v4 : ¬ b1 = b0 := by omega
      by_cases hin : hasT x O
      · have hsn : s < k := by
          have := wo_less hin
          have e := HLW.out
          have := HLO.out
          omega
        have e9 : ((s : Int) == (k : Int)) = false := by simp; omega
        go_upto_region 12 with (fail)
        clear y00 y01 y02 y03 y10 y11 y12 y13 z2 z10 z11 z12 z13
        have T0 : Hid (OW (wr.setCell ⟨b0, 2, none⟩ (.slice A9 s c9)) b0 25 [.int .i64 h, .int .i64 nx, (.slice A9 s c9), .slice B m d]) := Lib.hid (Q0.out.set 2 (.slice A9 s c9))
        have T2 := Lib.hid (Q1.out.far (b := b0) (by omega) 2 (.slice A9 s c9))
        have TO := Lib.hid (own_set HOW2.out (b := b0) (by omega) 2 (.slice A9 s c9))
        have TB := Lib.hid (HB2.out.setCell (p := ⟨b0, 2, none⟩) o4 (.slice A9 s c9))
        obtain ⟨w4, hw4⟩ : ∃ w4, wr.setCell ⟨b0, 2, none⟩ (.slice A9 s c9) = w4 := ⟨_, rfl⟩
        rw [hw4] at T0 T2 TO TB ⊢
        clear hw4
        obtain ⟨y00, y01, y02, y03⟩ := cell4 T0.out
        obtain ⟨y20, y21, y22, y23⟩ := cell4 T2.out
        have z0 := T2.out.thaw 0
        have z1 := T2.out.thaw 1
        have z2 := T2.out.thaw 2
        have z3 := T2.out.thaw 3
        go_wp2_with fail
        have f1 := T2.out.set4 (.int .i64 h) (.int .i64 nx) (.slice A9 s c9) (.slice B m d)
        have fO := own_set (own_set (own_set (own_set TO.out (b := b1) (by omega) 0 (.int .i64 h)) (b := b1) (by omega) 1 (.int .i64 nx)) (b := b1) (by omega) 2 (.slice A9 s c9)) (b := b1) (by omega) 3 (.slice B m d)
        have fb := bel_set4 TB.out (b := b1) (by omega) 0 1 2 3 (.int .i64 h) (.int .i64 nx) (.slice A9 s c9) (.slice B m d)
        obtain ⟨wF, hwF⟩ : ∃ wF, (((w4.setCell ⟨b1, 0, none⟩ (.int .i64 h)).setCell ⟨b1, 1, none⟩ (.int .i64 nx)).setCell ⟨b1, 2, none⟩ (.slice A9 s c9)).setCell ⟨b1, 3, none⟩ (.slice B m d) = wF := ⟨_, rfl⟩
        rw [hwF] at f1 fO fb ⊢
        obtain ⟨d0, d1, d2, d3⟩ := cell4 f1
        (try simp only [Exit.inBlock, Exit.then])
        refine bodyPost_ret (by simp [results, Try.results16, go_sem, d0, d1, d2, d3]; try rfl) rfl ?_
        refine ⟨⟨_, _, rfl, .inl ⟨hin, rfl, A9, c9, B, d, ?_, own_rl fO, HRI.out.keep fb, ?_, ?_, ?_, ?_⟩⟩, fb⟩
        · rw [HLI.out, HLW.out]
        · rw [HLW.out]; exact hn9
        · rw [HLI.out]; exact HBN.out
        · rw [HLW.out]; exact hc9
        · rw [HLI.out]; exact HD.out
      · have hsn : s = k := by
          have e := HLW.out
          rw [wo_full hin] at e
          have := HLO.out
          omega
        have e9 : ((s : Int) == (k : Int)) = true := by simp; omega
        clear hsn
        go_wp2_with fail
        have f1 := Q1.out.set4 (.int .i64 0) (.int .i64 0) (.slice none 0 0) (.slice none 0 0)
        have fb := bel_set4 HB2.out (b := b1) (by omega) 0 1 2 3 (.int .i64 0) (.int .i64 0) (.slice none 0 0) (.slice none 0 0)
        obtain ⟨wF, hwF⟩ : ∃ wF, (((wr.setCell ⟨b1, 0, none⟩ (.int .i64 0)).setCell ⟨b1, 1, none⟩ (.int .i64 0)).setCell ⟨b1, 2, none⟩ (.slice none 0 0)).setCell ⟨b1, 3, none⟩ (.slice none 0 0) = wF := ⟨_, rfl⟩
        rw [hwF] at f1 fb ⊢
        obtain ⟨d0, d1, d2, d3⟩ := cell4 f1
        (try simp only [Exit.inBlock, Exit.then])
        refine bodyPost_ret (by simp [results, Try.results16, go_sem, d0, d1, d2, d3]; try rfl) rfl ?_
        exact ⟨⟨_, _, rfl, .inr ⟨hin, rfl, rfl⟩⟩, fb⟩

def RAckR (W : World) (v : Value) (er : Int) (h nx : Int) (O : List (Int × Int)) (I : List Int) (x : Int) : Prop :=
  er = aE h nx O I x ∧ ((er = 0 ∧ SV W v h nx (wo x O) I) ∨ (er ≠ 0 ∧ v = zS))
/-- the reference's Acked, whatever it is given -/
theorem rack_all (v : Value) (h nx : Int) (O : List (Int × Int)) (I : List Int) (x : Int) (w : World) (hs : SV w v h nx O I) :
    Calls Try.prog 16 #[v, .int .i64 x] w fun e w' => (∃ v' er, e = .returned (.tuple #[v', .int .i64 er]) ∧ RAckR w' v' er h nx O I x) ∧ Below w.heap.size w w' := by
  obtain ⟨A, c, B, d, rfl, hRO, hRI, hAn, hBn, hc, hd⟩ := hs
  cases hv : vB h nx O I
  · refine (rack_b1 h nx A _ c B _ d O I x w (by omega) (by omega) rfl rfl hRO hRI hv).mono ?_
    rintro e w' ⟨rfl, hb⟩
    exact ⟨⟨_, _, rfl, by unfold aE; rw [if_neg (by rw [hv]; decide)], .inr ⟨by decide, rfl⟩⟩, hb⟩
  · refine (rack_v h nx A _ c B _ d O I x w (by omega) (by omega) rfl rfl hRO hRI hAn hBn hv hd).mono ?_
    rintro e w' ⟨⟨v', er, rfl, h1⟩, hb⟩
    rcases h1 with ⟨h1, rfl, h2⟩ | ⟨h1, rfl, rfl⟩
    · exact ⟨⟨_, _, rfl, by unfold aE; rw [if_pos hv, if_pos h1], .inl ⟨rfl, h2⟩⟩, hb⟩
    · exact ⟨⟨_, _, rfl, by unfold aE; rw [if_pos hv, if_neg h1], .inr ⟨by decide, rfl⟩⟩, hb⟩
end Go.Proofs.Yteeohndgkfilaaa
