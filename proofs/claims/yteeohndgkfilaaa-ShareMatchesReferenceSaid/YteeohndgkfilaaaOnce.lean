/-
  THE LAW ShareOnce, walked: where nothing is received.
-/
import Derived.Test.YteeohndgkfilaaaHead
import Derived.Test.YteeohndgkfilaaaRefv
import Derived.Test.YteeohndgkfilaaaPlain
namespace Go.Proofs.Yteeohndgkfilaaa
open Go.RowKit
set_option linter.unusedVariables false
attribute [local go_sem ↓] Go.wp_at_zero Go.wp_at_succ

theorem rval_sv (v : Value) (h nx : Int) (O : List (Int × Int)) (I : List Int) (w : World) (hs : SV w v h nx O I) (b : Bool) (hb : vB h nx O I = b) :
    Calls Try.prog 19 #[v] w fun e w' => e = .returned (.bool b) ∧ Below w.heap.size w w' := by
  obtain ⟨A, c, B, d, rfl, hRO, hRI, _, _, hc, hd⟩ := hs
  rw [← hb]
  exact rval_any h nx A _ c B _ d O I w (by omega) (by omega) rfl rfl hRO hRI
theorem few_sv (v : Value) (h nx : Int) (O : List (Int × Int)) (I : List Int) (w : World) (hs : SV w v h nx O I) (b : Bool) (hb : fewB O I = b) :
    Calls Try.prog 10 #[v] w fun e w' => e = .returned (.bool b) ∧ Below w.heap.size w w' := by
  rw [← hb]
  exact few_any v h nx O I w hs

set_option maxRecDepth 100000 in
set_option maxHeartbeats 4000000 in
theorem once_no (v : Value) (h nx : Int) (O : List (Int × Int)) (I : List Int) (x y a q x2 y2 : Int) (w : World) (hs : SV w v h nx O I) (hno : fewB O I = false ∨ vB h nx O I = false) :
    Calls Try.prog 5 #[v, .agg #[.int .i64 x, .int .i64 y], .int .i64 a, .int .i64 q, .agg #[.int .i64 x2, .int .i64 y2]] w fun e w' => e = .returned (.bool true) ∧ Below w.heap.size w w' := by
  have HS := Lib.hid hs
  obtain ⟨A, c, B, d, rfl, _⟩ := hs
  generalize hn : O.length = n at *
  generalize hm : I.length = m at *
  have HB3 : Hid (∀ o1 o2 o3 : Obj, Below w.heap.size w (((w.alloc o1).alloc o2).alloc o3)) := Lib.hid fun o1 o2 o3 => bel_alloc (bel_alloc (bel_a w o1) o2) o3
  have HP : Hid (∀ o2 o3 : Obj, OW (((w.alloc (.cells #[.int .i64 h, .int .i64 nx, .slice A n c, .slice B m d] 25)).alloc o2).alloc o3) w.heap.size 25 [.int .i64 h, .int .i64 nx, .slice A n c, .slice B m d]) := Lib.hid fun o2 o3 => ((OW.new w 25 [.int .i64 h, .int .i64 nx, .slice A n c, .slice B m d]).alloc o2).alloc o3
  cases hf : fewB O I
  · have HF := Lib.hid hf
    clear hno hf
    go_enter Try.func5, Try.ntmps5
    go_wp2_with (first
      | (go_at_call 9; with_reducible refine (head_any _).mono ?_; rintro e w1 ⟨rfl, h1⟩
         have H1 := Lib.hid (bel_step (HB3.out _ _ _) h1)
         obtain ⟨c0, c1, c2, c3⟩ := cell4 ((HP.out _ _).keep h1))
      | (go_at_call 10; with_reducible refine (few_sv _ h nx O I _ (HS.out.keep H1.out) false HF.out).mono ?_; rintro e w2 ⟨rfl, h2⟩))
    go_ret
    exact ⟨rfl, bel_step H1.out h2⟩
  · have HF := Lib.hid hf
    have hv : vB h nx O I = false := by
      rcases hno with e | e
      · rw [hf] at e; cases e
      · exact e
    have HV := Lib.hid hv
    clear hno hf hv
    go_enter Try.func5, Try.ntmps5
    go_wp2_with (first
      | (go_at_call 9; with_reducible refine (head_any _).mono ?_; rintro e w1 ⟨rfl, h1⟩
         have H1 := Lib.hid (bel_step (HB3.out _ _ _) h1)
         have P1 := Lib.hid ((HP.out _ _).keep h1)
         obtain ⟨c0, c1, c2, c3⟩ := cell4 P1.out)
      | (go_at_call 10; with_reducible refine (few_sv _ h nx O I _ (HS.out.keep H1.out) true HF.out).mono ?_; rintro e w2 ⟨rfl, h2⟩
         have H2 := Lib.hid (bel_step H1.out h2)
         obtain ⟨d0, d1, d2, d3⟩ := cell4 (P1.out.keep h2))
      | (go_at_call 19; with_reducible refine (rval_sv _ h nx O I _ (HS.out.keep H2.out) false HV.out).mono ?_; rintro e w3 ⟨rfl, h3⟩))
    go_ret
    exact ⟨rfl, bel_step H2.out h3⟩
set_option maxRecDepth 100000 in
set_option maxHeartbeats 4000000 in
theorem once_ref (v : Value) (h nx : Int) (O : List (Int × Int)) (I : List Int) (x y a q x2 y2 : Int) (w : World) (hs : SV w v h nx O I) (hf : fewB O I = true) (hv : vB h nx O I = true) (hr : rE h nx O I x y ≠ 0) :
    Calls Try.prog 5 #[v, .agg #[.int .i64 x, .int .i64 y], .int .i64 a, .int .i64 q, .agg #[.int .i64 x2, .int .i64 y2]] w fun e w' => e = .returned (.bool true) ∧ Below w.heap.size w w' := by
  have HS := Lib.hid hs
  obtain ⟨A, c, B, d, rfl, _⟩ := hs
  generalize hn : O.length = n at *
  generalize hm : I.length = m at *
  have HB3 : Hid (∀ o1 o2 o3 : Obj, Below w.heap.size w (((w.alloc o1).alloc o2).alloc o3)) := Lib.hid fun o1 o2 o3 => bel_alloc (bel_alloc (bel_a w o1) o2) o3
  have HP : Hid (∀ o2 o3 : Obj, OW (((w.alloc (.cells #[.int .i64 h, .int .i64 nx, .slice A n c, .slice B m d] 25)).alloc o2).alloc o3) w.heap.size 25 [.int .i64 h, .int .i64 nx, .slice A n c, .slice B m d]) := Lib.hid fun o2 o3 => ((OW.new w 25 [.int .i64 h, .int .i64 nx, .slice A n c, .slice B m d]).alloc o2).alloc o3
  have HP6 : Hid (∀ o1 o3 : Obj, OW (((w.alloc o1).alloc (.cells #[.int .i64 x, .int .i64 y] 27)).alloc o3) (w.heap.size + 1) 27 [.int .i64 x, .int .i64 y]) := Lib.hid fun o1 o3 => (OW.new1 w o1 27 [.int .i64 x, .int .i64 y]).alloc o3
  have HF := Lib.hid hf
  have HV := Lib.hid hv
  obtain ⟨er, her⟩ : ∃ er, rE h nx O I x y = er := ⟨_, rfl⟩
  rw [her] at hr
  have HER := Lib.hid her
  have e0 : (er != 0) = true := by simpa using hr
  have HR0 := Lib.hid hr
  clear hf hv her hr
  go_enter Try.func5, Try.ntmps5
  go_wp2_with (first
    | (go_at_call 9; with_reducible refine (head_any _).mono ?_; rintro e w1 ⟨rfl, h1⟩
       have H1 := Lib.hid (bel_step (HB3.out _ _ _) h1)
       have P1 := Lib.hid ((HP.out _ _).keep h1)
       have P6 := Lib.hid ((HP6.out _ _).keep h1)
       obtain ⟨c0, c1, c2, c3⟩ := cell4 P1.out)
    | (go_at_call 10; with_reducible refine (few_sv _ h nx O I _ (HS.out.keep H1.out) true HF.out).mono ?_; rintro e w2 ⟨rfl, h2⟩
       have H2 := Lib.hid (bel_step H1.out h2)
       have P2 := Lib.hid (P1.out.keep h2)
       have Q6 := Lib.hid (P6.out.keep h2)
       obtain ⟨d0, d1, d2, d3⟩ := cell4 P2.out)
    | (go_at_call 19; with_reducible refine (rval_sv _ h nx O I _ (HS.out.keep H2.out) true HV.out).mono ?_; rintro e w3 ⟨rfl, h3⟩
       have H3 := Lib.hid (bel_step H2.out h3)
       obtain ⟨g0, g1, g2, g3⟩ := cell4 (P2.out.keep h3)
       obtain ⟨f0, f1⟩ := cell2 (Q6.out.keep h3))
    | (go_at_call 13; with_reducible refine (recv_x _ h nx O I x y _ er (HS.out.keep H3.out) HER.out HR0.out).mono ?_; rintro e w4 ⟨rfl, h4⟩
       have H4 := Lib.hid (bel_step H3.out h4))
    | (go_at_call 17; with_reducible refine (same_yes _ _ 0 0 [] [] _ (sv_lit _ _ _) (sv_lit _ _ _) (by simp) (by simp)).mono ?_; rintro e w5 ⟨rfl, h5⟩))
  go_ret
  exact ⟨rfl, bel_step (bel_alloc H4.out _) h5⟩
end Go.Proofs.Yteeohndgkfilaaa
