/-
  package limits: Rows. (Printed by gen_lrw.py.)
-/
import Derived.Test.YtkhmlbkkdflnoaaLro
import Derived.Test.YtkhmlbkkdflnoaaRngB
import Derived.Test.YtkhmlbkkdflnoaaRgn
import Derived.Sort.CutIn
import Derived.Maps.AppendAt
namespace Go.Proofs.Ytkhmlbkkdflnoaa.Nm
open Go.RowKit Go.Shelf Go.Proofs.Ytkhmlbkkdflnoaa Go
attribute [local go_sem ↓] Go.wp_at_zero Go.wp_at_succ
attribute [local go_sem] Oper.semAt_some
set_option linter.unusedVariables false
set_option linter.unusedSimpArgs false

theorem RW.kept {W W' : World} {row : Option Nat} {A : Option Addr} {L : List (Int × List Nat)} (h : RW W A L) (hg : W.grownBy W' row) (hr : ∀ r, row = some r → ∃ o : Obj, W.heap[r]? = some o ∧ o.isCells = false) : RW W' A L := fun i hi => by
  obtain ⟨b, o, e, hl, h0, MA, mc, h1, h2, h3⟩ := h i hi
  refine ⟨b, o, e, Nat.lt_of_lt_of_le hl hg.size, cell_kept h0 hg hr, MA, mc, cell_kept h1 hg hr, h2, fun j hj => ?_⟩
  obtain ⟨b', o', e', hl', hc⟩ := h3 j hj
  exact ⟨b', o', e', Nat.lt_of_lt_of_le hl' hg.size, cell_kept hc hg hr⟩
/-- append, kept folded for the walk -/
def appK (ats : Array TypeId) (ty : TypeId) (args : Array Value) : Sem Value := Builtin.append_ ats ty args
theorem app_fold (ats : Array TypeId) (ty : TypeId) (args : Array Value) : Builtin.append_ ats ty args = appK ats ty args := rfl
attribute [local go_sem ↓] app_fold
theorem infoRow : (Try.prog.info? 167).map (fun i => (i.zero, i.size, i.bytes)) = some (some (.agg #[.int .i64 0, .slice none 0 0]), 2, 32) := by kernel_rfl
def siteV (S : Sit) : Value := .agg #[.slice (S.A 0) (S.n 0) (S.c 0), .slice (S.A 1) (S.n 1) (S.c 1), .slice (S.A 2) (S.n 2) (S.c 2), .slice (S.A 3) (S.n 3) (S.c 3), .slice (S.A 4) (S.n 4) (S.c 4)]
/-- rows, and no error -/
def OkR (L : List (Int × List Nat)) (e : Ending) (w : World) : Prop := ∃ A c, e = .returned (.tuple #[.slice A L.length c, .int .i64 0]) ∧ RW w A L
set_option maxRecDepth 100000 in
set_option maxHeartbeats 16000000 in
theorem rows_any (S : Sit) (w : World) (hM : SM5 w S) (hP : SitP S) :
    Calls Try.prog 29 #[.agg #[.slice (S.A 0) (S.n 0) (S.c 0), .slice (S.A 1) (S.n 1) (S.c 1), .slice (S.A 2) (S.n 2) (S.c 2), .slice (S.A 3) (S.n 3) (S.c 3), .slice (S.A 4) (S.n 4) (S.c 4)]] w fun e w' => OkR (rowsL S) e w' ∧ Below w.heap.size w w' := by
  obtain ⟨r0, hr, hr0, hr1, hr2⟩ := info_parts infoRow
  have HJ := Lib.hid hr
  have HY0 := Lib.hid hr0
  have HY1 := Lib.hid hr1
  have HY2 := Lib.hid hr2
  clear hr hr0 hr1 hr2
  have HM := Lib.hid hM
  have HP := Lib.hid hP
  obtain ⟨⟨p0, p1⟩, p2, p3, p4, p5⟩ := hP.sizes
  have HV : Hid (∀ W, SM5 W S → Calls Try.prog 73 #[.agg #[.slice (S.A 0) (S.n 0) (S.c 0), .slice (S.A 1) (S.n 1) (S.c 1), .slice (S.A 2) (S.n 2) (S.c 2), .slice (S.A 3) (S.n 3) (S.c 3), .slice (S.A 4) (S.n 4) (S.c 4)]] W fun e w' => e = .returned (.bool true) ∧ Below W.heap.size W w') := Lib.hid fun W hW => vsite_yes S W hW hP
  have hmf : ∀ (fn : Fn) (first cap : Array Value) (w : World), (Instr.makeFunc fn first cap).run Try.prog w = .ok (.func fn first cap) w := fun _ _ _ _ => rfl
  clear hM hP
  refine (callsIn_wide (n := 9)).1 ?_
  refine callsIn_of_wp_marks Try.func29 rfl trivial ?_ rfl
  simp only [Try.ntmps29, List.size_toArray, List.length_cons, List.length_nil, Nat.reduceAdd, Nat.reduceSub, Array.replicate_succ, Array.replicate_zero, List.push_toArray, List.append_toArray, List.nil_append, List.cons_append]
  refine wpIn_wide.2 ?_
  go_upto_region 1 with fail
  refine nameW ?_
  intro W0 hW0
  have HB0 : Hid (Below w.heap.size w W0) := Lib.hid (by rw [← hW0]; exact bel_alloc (Below.refl _ _) _)
  have HC0 : Hid (W0.cell? ⟨w.heap.size, 0, none⟩ = some (.slice (S.A 0) (S.n 0) (S.c 0)) ∧ W0.cell? ⟨w.heap.size, 1, none⟩ = some (.slice (S.A 1) (S.n 1) (S.c 1)) ∧ W0.cell? ⟨w.heap.size, 2, none⟩ = some (.slice (S.A 2) (S.n 2) (S.c 2)) ∧ W0.cell? ⟨w.heap.size, 3, none⟩ = some (.slice (S.A 3) (S.n 3) (S.c 3)) ∧ W0.cell? ⟨w.heap.size, 4, none⟩ = some (.slice (S.A 4) (S.n 4) (S.c 4))) := Lib.hid (by
    refine ⟨?_, ?_, ?_, ?_, ?_⟩ <;> (rw [← hW0]; simp))
  clear hW0
  obtain ⟨d0, d1, d2, d3, d4⟩ := HC0.out
  go_upto_region 3 with (go_at_call 73; with_reducible refine (HV.out _ (HM.out.keep HB0.out)).mono ?_; rintro e W1 ⟨rfl, hb1⟩)
  all_goals (try (exfalso; omega))
  have HB1 := Lib.hid hb1
  clear d0 d1 d2 d3 d4
  obtain ⟨Br, hBr⟩ : ∃ x, W1.heap.size = x := ⟨_, rfl⟩
  have HBR := Lib.hid hBr
  have HD : Hid (∀ W, Below Br W1 W → W.cell? ⟨w.heap.size, 0, none⟩ = some (.slice (S.A 0) (S.n 0) (S.c 0)) ∧ W.cell? ⟨w.heap.size, 1, none⟩ = some (.slice (S.A 1) (S.n 1) (S.c 1)) ∧ W.cell? ⟨w.heap.size, 2, none⟩ = some (.slice (S.A 2) (S.n 2) (S.c 2)) ∧ W.cell? ⟨w.heap.size, 3, none⟩ = some (.slice (S.A 3) (S.n 3) (S.c 3)) ∧ W.cell? ⟨w.heap.size, 4, none⟩ = some (.slice (S.A 4) (S.n 4) (S.c 4))) := Lib.hid fun W hW => by
    obtain ⟨g0, g1, g2, g3, g4⟩ := HC0.out
    rw [← hBr] at hW
    have h := HB1.out
    exact ⟨old_at (old_at g0 h) hW, old_at (old_at g1 h) hW, old_at (old_at g2 h) hW, old_at (old_at g3 h) hW, old_at (old_at g4 h) hW⟩
  have HG : Hid (∀ W, Below Br W1 W → Below w.heap.size w W) := Lib.hid fun W h => by
    have h1 : Below w.heap.size w W1 := HB0.out.trans (HB1.out.mono HB0.out.size)
    exact h1.trans (h.mono (by rw [← hBr]; exact h1.size))
  have HE : Hid (∀ W, Below Br W1 W → SM5 W S) := Lib.hid fun W h => HM.out.keep (HG.out W h)
  clear hb1 HC0 HB0 HB1 HM HV
  have HST1 : Hid (∀ W2, (W1.alloc (.cells #[.slice none 0 0] 86)).alloc (.cells #[.slice none 0 0] 46) = W2 → Boxed W2 Br 86 (.slice none 0 0) ∧ Boxed W2 (Br + 1) 46 (.slice none 0 0) ∧ Below Br W1 W2 ∧ W2.heap.size = Br + 2) := Lib.hid fun W2 h => by
    rw [← h]
    refine ⟨?_, ?_, ?_, by simp [hBr]⟩
    · have := (Boxed.new W1 86 (.slice none 0 0)).alloc (.cells #[.slice none 0 0] 46)
      rwa [hBr] at this
    · have := Boxed.new (W1.alloc (.cells #[.slice none 0 0] 86)) 46 (.slice none 0 0)
      rwa [World.size_alloc, hBr] at this
    · rw [← hBr]
      exact bel_alloc (bel_alloc (Below.refl _ _) _) _
  obtain ⟨d0, d1, d2, d3, d4⟩ := HD.out W1 (Below.refl _ _)
  go_upto_region 5 with fail
  refine nameW ?_
  intro W2 hW2
  obtain ⟨hx0, hx1, hbw2, hsz2⟩ := HST1.out W2 hW2
  have HX0 := Lib.hid hx0
  have HX1 := Lib.hid hx1
  have HBW2 := Lib.hid hbw2
  have HSZ2 := Lib.hid hsz2
  clear d0 d1 d2 d3 d4 hW2 hx0 hx1 hbw2 HST1 hBr
  obtain ⟨d0, d1, d2, d3, d4⟩ := HD.out W2 HBW2.out
  go_wp2_with (first | (go_at_call 74; with_reducible refine (places_any S _).mono ?_; rintro e w2 ⟨rfl, rfl⟩))
  refine nameW ?_
  intro W3 hW3
  have hb23 : Below W2.heap.size W2 W3 := by rw [← hW3]; exact bel_alloc (Below.refl _ _) _
  have hsite : W3.cell? ⟨Br + 2, 0, none⟩ = some (.slice (S.A 0) (S.n 0) (S.c 0)) := by rw [← hW3, ← hsz2]; simp
  have hsz3 : W3.heap.size = Br + 3 := by rw [← hW3, World.size_alloc, hsz2]
  have hB3 : Below Br W1 W3 := HBW2.out.trans (hb23.mono (by omega))
  have hI0 : OI S Br W1 [] W3 := ⟨.slice none 0 0, ⟨[], (hb23.block _ (by omega)).trans HX0.out, World.ownsRow_nil _ _ _ _, rfl, fun y hy => by simp at hy⟩, ⟨none, 0, (hb23.block _ (by omega)).trans HX1.out, ⟨by simp [sts], by omega⟩, fun i hi => by simp [sts] at hi, fun b o e => by cases e⟩, hB3, by omega⟩
  try rw [hsz2]
  clear hW3 d0 d1 d2 d3 d4 hb23
  refine (wpIn_wide (n := 9)).1 ?_
  refine wpIn_rangeB 6 rfl (by omega) (gf := 114) (lb := #[.pointer (some ⟨Br + 2, 0, none⟩)]) rfl trivial (enters_of Try.func114 (by kernel_rfl) rfl)
    (places_seq 8 (by omega) (Br + 2) (S.A 0) (S.n 0) (S.c 0) p1 W3 hsite)
    (fun _ _ => trivial) (fun W l o o' hl hW h1 h2 => trivial) (Below.refl _ _) (fun _ => rfl)
    (OI S Br W1) (OA S Br W1) (fun _ _ _ => False) (OI.own S Br W1 _ (by omega)) (fun x B => OA.own S Br W1 x B _ (by omega)) (fun c s A B row h _ _ => h) hI0 ?assign ?body ?done ?stop
  case assign =>
    intro l pre x W hI hlen
    unfold encP
    gi_wp2
    obtain ⟨v, x0, x1, x2, x3⟩ := hI
    refine ⟨KeepsOthers.alloc _ _, trivial, W.heap.size, by first | (go_simp; done) | (simp; done), World.alloc_heap_new W _, ⟨v, x0.keep (bel_alloc (Below.refl _ _) _), x1.keep (bel_alloc (Below.refl _ _) _), x2.alloc (by omega) _, by rw [World.size_alloc]; omega⟩, x3⟩
  case body =>
    rintro l pre x B8 W ⟨h8, ⟨v, x0, x1, x2, x3⟩, hB8⟩ hlen
    unfold encP
    have hsn := sts_snoc S pre x
    have hasb := (sts_asb S (pre ++ [x])).1
    rw [hsn] at hasb
    unfold stp at hsn hasb
    obtain ⟨⟨L, lb0⟩, hst⟩ : ∃ st, sts S pre = st := ⟨_, rfl⟩
    have hL48 : L.length ≤ pre.length := by have := sts_len S pre; rwa [hst] at this
    rw [hst] at x0 x1 hsn hasb
    obtain ⟨k, hk⟩ : ∃ k, clP (S.n 0) x = k := ⟨_, rfl⟩
    have hck : k < 3 * S.n 0 := by rw [← hk]; unfold clP; split <;> omega
    rw [hk] at h8 hsn hasb ⊢
    simp only at hasb
    obtain ⟨lb', hlb⟩ : ∃ lb', nb S lb0 k = lb' := ⟨_, rfl⟩
    have hlb2 : (k % 3 = 0 → bl S (k / 3) = lb') ∧ (¬ k % 3 = 0 → lb0 = lb') := by
      rw [← hlb]
      unfold nb
      exact ⟨fun h => by rw [if_pos h], fun h => by rw [if_neg h]⟩
    simp only [hlb] at hsn hasb
    obtain ⟨c, hc⟩ : ∃ c, k / 3 = c := ⟨_, rfl⟩
    obtain ⟨p, hp⟩ : ∃ p, k % 3 = p := ⟨_, rfl⟩
    have hc0 : c < S.n 0 := by omega
    have hp3 : p < 3 := by omega
    rw [hc, hp] at h8 hsn hlb2 ⊢
    obtain ⟨ml, hml⟩ : ∃ ml, mb S lb' p = ml := ⟨_, rfl⟩
    rw [hml] at hsn
    have hmlen : ml.length ≤ lb'.length := by rw [← hml]; exact List.length_filter_le _ _
    have HML : Hid (lb'.filter (fun i => onPh (S.Z 3 i 2) p) = ml) := Lib.hid hml
    have HSN := Lib.hid hsn
    have HAS := Lib.hid hasb
    have HLB := Lib.hid hlb2
    clear hst hk hck hlb hc hp hml hsn hasb hlb2
    have e0 : W.cell? ⟨B8, 0, none⟩ = some (.int .i64 (c : Int)) := by simp [World.cell?, h8]
    have e1 : W.cell? ⟨B8, 1, none⟩ = some (.int .i64 (p : Int)) := by simp [World.cell?, h8]
    have HX0 := Lib.hid x0
    have HX1 := Lib.hid x1
    have HX2 := Lib.hid x2
    have hlb16 : lb'.length ≤ 16 := Nat.le_trans HAS.out.2.2 p4
    obtain ⟨d0, d1, d2, d3, d4⟩ := HD.out W x2
    have H8 := Lib.hid h8
    clear x0 x1 x2 h8
    gi_upto_if 16 with fail
    gi_cut [] from 7 (fun wc => ST Br v L wc ∧ BT Br v lb' wc ∧ KeepsOthers W wc ∧ Below Br W1 wc ∧ wc.cell? ⟨B8, 0, none⟩ = some (.int .i64 (c : Int)) ∧ wc.cell? ⟨B8, 1, none⟩ = some (.int .i64 (p : Int)) ∧ Br + 3 ≤ wc.heap.size ∧ wc.heap[B8]? = some (.cells #[.int .i64 (c : Int), .int .i64 (p : Int)] 162 (0, 0)))
    case first =>
      by_cases hp0 : p = 0
      · subst hp0
        have hbl := HLB.out.1 rfl
        have HBL : Hid (Calls Try.prog 75 #[.agg #[.slice (S.A 0) (S.n 0) (S.c 0), .slice (S.A 1) (S.n 1) (S.c 1), .slice (S.A 2) (S.n 2) (S.c 2), .slice (S.A 3) (S.n 3) (S.c 3), .slice (S.A 4) (S.n 4) (S.c 4)], .int .i64 (c : Int)] W fun e w' => OkL W.heap.size lb' e w' ∧ Below W.heap.size W w') := Lib.hid (by
          have := below_any S (S.A 3) rfl c W (HE.out W HX2.out) HP.out hc0
          rwa [hbl] at this)
        obtain ⟨A0, c0, hb0, hla0⟩ := HX1.out
        have HBX := Lib.hid hb0
        clear hbl hb0 hla0
        gi_wp2_with (refine ⟨trivial, ?_⟩; gi_at_call 75; refine (CallsIn.inRound l (callsIn_wide.2 (HBL.out))).mono ?_; rintro e w2 ⟨hok, hb2⟩; obtain ⟨Ab, cb, rfl, hcb, hrz, hab⟩ := okL_open hok; have k1 := Boxed.cell ((hb2.block _ HBX.out.lt).trans HBX.out); have f1 := Boxed.frozen ((hb2.block _ HBX.out.lt).trans HBX.out))
        gi_meet
        obtain ⟨Wb, hWb⟩ : ∃ Wb, w2.setCell ⟨Br + 1, 0, none⟩ (.slice Ab lb'.length cb) = Wb := ⟨_, rfl⟩
        have hbx2 : Boxed w2 (Br + 1) 46 (.slice A0 lb0.length c0) := (hb2.block _ HBX.out.lt).trans HBX.out
        have hex : Exc (fun k => k = Br + 1) W Wb := by rw [← hWb]; exact Exc.set (P := fun k => k = Br + 1) (Exc.of_below hb2) (p := ⟨Br + 1, 0, none⟩) rfl _
        have hstb : ST Br v L Wb := HX0.out.exc hex
        have hbtb : BT Br v lb' Wb := by
          refine ⟨Ab, cb, by rw [← hWb]; exact hbx2.set _, hcb, ?_, fun b o e hn => ?_⟩
          · have h9 : Exc (fun k => k = Br + 1) w2 Wb := by rw [← hWb]; exact Exc.set (P := fun k => k = Br + 1) (Exc.refl _) (p := ⟨Br + 1, 0, none⟩) rfl _
            exact h9.rz hrz fun b o e => by have := hab b o e; omega
          · have h7 := hab b o e
            obtain ⟨ys, _, h6, _⟩ := HX0.out
            exact ⟨by omega, fun e2 => by have := (h6.lt b e2).2; omega⟩
        have hko : KeepsOthers W Wb := by
          rw [← hWb]
          exact KeepsOthers.trans ⟨hb2.size, fun k o hk _ => (hb2.block k (Array.getElem?_eq_some_iff.1 hk).1).trans hk⟩ (KeepsOthers.setCell _ _ _)
        have hbb : Below Br W1 Wb := hex.to_below HX2.out (by omega) (fun k e => by omega)
        have hfin : ST Br v L Wb ∧ BT Br v lb' Wb ∧ KeepsOthers W Wb ∧ Below Br W1 Wb ∧ Wb.cell? ⟨B8, 0, none⟩ = some (.int .i64 (c : Int)) ∧ Wb.cell? ⟨B8, 1, none⟩ = some (.int .i64 ((0 : Nat) : Int)) ∧ Br + 3 ≤ Wb.heap.size ∧ Wb.heap[B8]? = some (.cells #[.int .i64 (c : Int), .int .i64 ((0 : Nat) : Int)] 162 (0, 0)) :=
          ⟨hstb, hbtb, hko, hbb, hex.cell e0 (by simp; omega), hex.cell e1 (by simp; omega), Nat.le_trans x3 hex.size, (hex.block B8 (Array.getElem?_eq_some_iff.1 H8.out).1 (by omega)).trans H8.out⟩
        rw [← hWb] at hfin
        exact hfin
      · have hbl := HLB.out.2 hp0
        gi_wp2
        gi_meet
        exact ⟨HX0.out, by rw [← hbl]; exact HX1.out, KeepsOthers.refl _, HX2.out, e0, e1, x3, H8.out⟩
    case rest =>
      clear e0 e1 d0 d1 d2 d3 d4 HX0 HX1 HX2 HLB
      obtain ⟨Wb, hWb⟩ : ∃ Wb, Wb = wc := ⟨_, rfl⟩
      subst hWb
      obtain ⟨hstb, hbtb, hko, hbb, z0, z1, hszb, h8b⟩ := hcut
      have H8b := Lib.hid h8b
      clear h8b H8
      have HKO := Lib.hid hko
      clear hko
      obtain ⟨Ab', cb', hbx, hla⟩ := hbtb
      have k1 := hbx.cell
      have HLA := Lib.hid hla
      have HST := Lib.hid hstb
      have HBX := Lib.hid hbx
      have HBB := Lib.hid hbb
      obtain ⟨d0, d1, d2, d3, d4⟩ := HD.out Wb hbb
      have HCH : Hid (Calls Try.prog 76 #[.slice Ab' lb'.length cb', .func (.func 77) #[] #[.pointer (some ⟨w.heap.size, 0, none⟩), .pointer (some ⟨B8, 0, none⟩)]] Wb fun e w' => OkS Wb.heap.size ml e w' ∧ Below Wb.heap.size Wb w') := Lib.hid (by
        have h3 := d3
        have := choose_any lb' Ab' cb' (fun i => onPh (S.Z 3 i 2) p) w.heap.size B8 Wb (by omega) HLA.out.2.1 (fun W' i hW hi => rows1_any S w.heap.size B8 c p i W' (HE.out W' (HBB.out.trans (hW.mono (by omega)))) HP.out (HAS.out.2.1 i hi) (by omega) (old_at h3 hW) (old_at z1 hW))
        rwa [HML.out] at this)
      clear hstb hbx hla hbb
      by_cases hm0 : ml.length = 0
      · gi_wp2_with (refine ⟨trivial, ?_⟩; gi_at_call 76; refine (CallsIn.inRound l (callsIn_wide.2 (HCH.out))).mono ?_; rintro e w4 ⟨hok, hb4⟩; obtain ⟨Am, cm, rfl, hcm, hrzm, ham⟩ := okS_open hok; rw [hm0])
        have hsn := HSN.out
        rw [if_pos hm0] at hsn
        refine ⟨KeepsOthers.trans HKO.out ⟨hb4.size, fun k o hk _ => (hb4.block k (Array.getElem?_eq_some_iff.1 hk).1).trans hk⟩, trivial, v, ?_, ?_, HBB.out.trans (hb4.mono (by omega)), Nat.le_trans hszb hb4.size⟩
        · rw [hsn]; exact HST.out.keep hb4
        · rw [hsn]; exact BT.keep ⟨Ab', cb', HBX.out, HLA.out⟩ hb4
      · gi_upto_region 11 with (refine ⟨trivial, ?_⟩; gi_at_call 76; refine (CallsIn.inRound l (callsIn_wide.2 (HCH.out))).mono ?_; rintro e w4 ⟨hok, hb4⟩; obtain ⟨Am, cm, rfl, hcm, hrzm, ham⟩ := okS_open hok)
        all_goals (try (exfalso; omega))
        obtain ⟨b, o, hA, hl, hs, hz⟩ := (HE.out Wb HBB.out).rows 0 (by decide) c hc0
        have h4 : ∀ q u, Wb.cell? q = some u → w4.cell? q = some u := fun q u h => old_at h hb4
        have g0 : w4.cell? ⟨w.heap.size, 0, none⟩ = some (.slice (some ⟨b, o, none⟩) (S.n 0) (S.c 0)) := by rw [← hA]; exact h4 _ _ d0
        have y0 := h4 _ _ z0
        have q0 : w4.cell? ⟨b, o + c * 11, none⟩ = some (.string (S.N 0 c)) := h4 _ _ hs
        have q1 : w4.cell? ⟨b, o + c * 11 + 1, none⟩ = some (.int .i64 (S.Z 0 c 1)) := h4 _ _ (hz 1 (by decide) (by decide))
        have q2 : w4.cell? ⟨b, o + c * 11 + 2, none⟩ = some (.int .i64 (S.Z 0 c 2)) := h4 _ _ (hz 2 (by decide) (by decide))
        have q3 : w4.cell? ⟨b, o + c * 11 + 3, none⟩ = some (.int .i64 (S.Z 0 c 3)) := h4 _ _ (hz 3 (by decide) (by decide))
        have q4 : w4.cell? ⟨b, o + c * 11 + 4, none⟩ = some (.int .i64 (S.Z 0 c 4)) := h4 _ _ (hz 4 (by decide) (by decide))
        have q5 : w4.cell? ⟨b, o + c * 11 + 5, none⟩ = some (.int .i64 (S.Z 0 c 5)) := h4 _ _ (hz 5 (by decide) (by decide))
        have q6 : w4.cell? ⟨b, o + c * 11 + 6, none⟩ = some (.int .i64 (S.Z 0 c 6)) := h4 _ _ (hz 6 (by decide) (by decide))
        have q7 : w4.cell? ⟨b, o + c * 11 + 7, none⟩ = some (.int .i64 (S.Z 0 c 7)) := h4 _ _ (hz 7 (by decide) (by decide))
        have q8 : w4.cell? ⟨b, o + c * 11 + 8, none⟩ = some (.int .i64 (S.Z 0 c 8)) := h4 _ _ (hz 8 (by decide) (by decide))
        have q9 : w4.cell? ⟨b, o + c * 11 + 9, none⟩ = some (.int .i64 (S.Z 0 c 9)) := h4 _ _ (hz 9 (by decide) (by decide))
        have q10 : w4.cell? ⟨b, o + c * 11 + 10, none⟩ = some (.int .i64 (S.Z 0 c 10)) := h4 _ _ (hz 10 (by decide) (by decide))
        have HST4 := Lib.hid (HST.out.keep hb4)
        have HBT4 := Lib.hid (BT.keep ⟨Ab', cb', HBX.out, HLA.out⟩ hb4)
        have HLM : Hid (LA w4 (Br + 3) v.ownBlock Am cm ml) := Lib.hid ⟨hcm, hrzm, fun b o e hn => by
          have h7 := ham b o e
          obtain ⟨ys, _, h6, _⟩ := HST.out
          exact ⟨by omega, fun e2 => by have := (h6.lt b e2).2; omega⟩⟩
        obtain ⟨ys, hv4, hown4, hmap4, hmem4⟩ := HST4.out
        have yv := hv4.cell
        have HLI : Hid (∀ W', Calls Try.prog 78 #[.agg #[.string (S.N 0 c), .int .i64 (S.Z 0 c 1), .int .i64 (S.Z 0 c 2), .int .i64 (S.Z 0 c 3), .int .i64 (S.Z 0 c 4), .int .i64 (S.Z 0 c 5), .int .i64 (S.Z 0 c 6), .int .i64 (S.Z 0 c 7), .int .i64 (S.Z 0 c 8), .int .i64 (S.Z 0 c 9), .int .i64 (S.Z 0 c 10)]] W'
            fun e w' => e = .returned (.int .i64 (capZ (S.Z 0 c))) ∧ (0 ≤ capZ (S.Z 0 c) ∧ capZ (S.Z 0 c) ≤ 1000) ∧ Below W'.heap.size W' w') := Lib.hid fun W' => limit_any _ _ _ W' (HP.out.con c hc0)
        have hu : ys.length ≤ 48 := by have h1 : ys.length = L.length := by rw [← hmap4]; simp
                                       omega
        have HV4 := Lib.hid hv4
        have HOWN4 := Lib.hid hown4
        have HMAP4 := Lib.hid hmap4
        have HMEM4 := Lib.hid hmem4
        have HB4 := Lib.hid hb4
        have HA0 := Lib.hid hA
        clear hA hl hs hz h4 d0 d1 d2 d3 d4 z0 z1 k1 hv4 hown4 hmap4 hmem4 hok hrzm ham hcm hb4
        have HAp : Hid (∀ w5, Below w4.heap.size w4 w5 → ∃ g6 c6 w6, Sem.run Try.prog (appK #[86, 86] 86 #[v, .slice (some ⟨w5.heap.size, 0, none⟩) 1 1]) (w5.alloc (.cells #[.int .i64 (capZ (S.Z 0 c)), .slice Am ml.length cm] 167)) = .ok (.slice (some ⟨g6, 0, none⟩) (ys.length + 1) c6) w6 ∧
            w6.ownsRow (Br + 3) 167 2 (.slice (some ⟨g6, 0, none⟩) (ys.length + 1) c6) (ys.length + 1) (flatR ys ++ [.int .i64 (capZ (S.Z 0 c)), .slice Am ml.length cm]) ∧ (w5.alloc (.cells #[.int .i64 (capZ (S.Z 0 c)), .slice Am ml.length cm] 167)).grownBy w6 v.ownBlock ∧ ((Value.slice (some ⟨g6, 0, none⟩) (ys.length + 1) c6).ownBlock = v.ownBlock ∨ (Value.slice (some ⟨g6, 0, none⟩) (ys.length + 1) c6).ownBlock = some (w5.alloc (.cells #[.int .i64 (capZ (S.Z 0 c)), .slice Am ml.length cm] 167)).heap.size) ∧ Boxed w6 Br 86 v) := Lib.hid fun w5 hb5 => by
          obtain ⟨v', w6, hr6, hown6, hgrow6, _, hat6⟩ := run_append_own_at (P := Try.prog) (w5.alloc (.cells #[.int .i64 (capZ (S.Z 0 c)), .slice Am ml.length cm] 167)) (Br + 3) 86 86 167 r0 _ 2 32 Try.underlying86 HJ.out HY0.out HY1.out HY2.out rfl (by decide) v ys.length (flatR ys) ((own_below HOWN4.out hb5).alloc _) ⟨w5.heap.size, 0, none⟩ 1 1 [.int .i64 (capZ (S.Z 0 c)), .slice Am ml.length cm] rfl (World.news_of_block (heap_alloc_new w5 _)) (by simp [Value.oneCell']) (by unfold maxLen; omega) (by omega) (by have h1 := hb5.size; have h2 := HB4.out.size; simp; omega)
          obtain ⟨g6, c6, rfl, _, _⟩ := hown6.form (by omega)
          exact ⟨g6, c6, w6, hr6, hown6, hgrow6, hat6, (Boxed.alloc (show Boxed w5 Br 86 v from (hb5.block _ HV4.out.lt).trans HV4.out) _).kept hgrow6 (HV4.out.not_row (by decide) HOWN4.out)⟩
        have HAPP : Hid (∀ w5, Below w4.heap.size w4 w5 → ∃ g6 c6 w6, Sem.run Try.prog (appK #[86, 86] 86 #[v, .slice (some ⟨w5.heap.size, 0, none⟩) 1 1]) (w5.alloc (.cells #[.int .i64 (capZ (S.Z 0 c)), .slice Am ml.length cm] 167)) = .ok (.slice (some ⟨g6, 0, none⟩) (ys.length + 1) c6) w6 ∧
            w6.ownsRow (Br + 3) 167 2 (.slice (some ⟨g6, 0, none⟩) (ys.length + 1) c6) (ys.length + 1) (flatR ys ++ [.int .i64 (capZ (S.Z 0 c)), .slice Am ml.length cm]) ∧ (w5.alloc (.cells #[.int .i64 (capZ (S.Z 0 c)), .slice Am ml.length cm] 167)).grownBy w6 v.ownBlock ∧ ((Value.slice (some ⟨g6, 0, none⟩) (ys.length + 1) c6).ownBlock = v.ownBlock ∨ (Value.slice (some ⟨g6, 0, none⟩) (ys.length + 1) c6).ownBlock = some (w5.alloc (.cells #[.int .i64 (capZ (S.Z 0 c)), .slice Am ml.length cm] 167)).heap.size) ∧ Boxed w6 Br 86 v) := Lib.hid fun w5 hb5 => by
          obtain ⟨v', w6, hr6, hown6, hgrow6, _, hat6⟩ := run_append_own_at (P := Try.prog) (w5.alloc (.cells #[.int .i64 (capZ (S.Z 0 c)), .slice Am ml.length cm] 167)) (Br + 3) 86 86 167 r0 _ 2 32 Try.underlying86 HJ.out HY0.out HY1.out HY2.out rfl (by decide) v ys.length (flatR ys) ((own_below HOWN4.out hb5).alloc _) ⟨w5.heap.size, 0, none⟩ 1 1 [.int .i64 (capZ (S.Z 0 c)), .slice Am ml.length cm] rfl (World.news_of_block (heap_alloc_new w5 _)) (by simp [Value.oneCell']) (by unfold maxLen; omega) (by omega) (by have h1 := hb5.size; have h2 := HB4.out.size; simp; omega)
          obtain ⟨g6, c6, rfl, _, _⟩ := hown6.form (by omega)
          exact ⟨g6, c6, w6, hr6, hown6, hgrow6, hat6, (Boxed.alloc (show Boxed w5 Br 86 v from (hb5.block _ HV4.out.lt).trans HV4.out) _).kept hgrow6 (HV4.out.not_row (by decide) HOWN4.out)⟩
        have HFIN : Hid (∀ w5 g6 c6 w6, Below w4.heap.size w4 w5 → w6.ownsRow (Br + 3) 167 2 (.slice (some ⟨g6, 0, none⟩) (ys.length + 1) c6) (ys.length + 1) (flatR ys ++ [.int .i64 (capZ (S.Z 0 c)), .slice Am ml.length cm]) → (w5.alloc (.cells #[.int .i64 (capZ (S.Z 0 c)), .slice Am ml.length cm] 167)).grownBy w6 v.ownBlock → ((Value.slice (some ⟨g6, 0, none⟩) (ys.length + 1) c6).ownBlock = v.ownBlock ∨ (Value.slice (some ⟨g6, 0, none⟩) (ys.length + 1) c6).ownBlock = some (w5.alloc (.cells #[.int .i64 (capZ (S.Z 0 c)), .slice Am ml.length cm] 167)).heap.size) →
            KeepsOthers W (w6.setCell ⟨Br, 0, none⟩ (.slice (some ⟨g6, 0, none⟩) (ys.length + 1) c6)) ∧ OI S Br W1 (pre ++ [x]) (w6.setCell ⟨Br, 0, none⟩ (.slice (some ⟨g6, 0, none⟩) (ys.length + 1) c6))) := Lib.hid fun w5 g6 c6 w6 hb5 hown hgr hat => by
          have hsn := HSN.out
          rw [if_neg hm0] at hsn
          have hv5 : Boxed w5 Br 86 v := (hb5.block _ HV4.out.lt).trans HV4.out
          have hown5 := own_below HOWN4.out hb5
          have hbm : Below (Br + 3) w5 w6 := ((Below.refl (Br + 3) w5).alloc (by have h1 := hb5.size; have h2 := HB4.out.size; omega) _).grown hgr (by have h1 := hb5.size; have h2 := HB4.out.size; simp; omega) (fun k e => (hown5.lt k e).1)
          refine ⟨?_, .slice (some ⟨g6, 0, none⟩) (ys.length + 1) c6, ?_, ?_, ?_, ?_⟩
          · have hk : ∀ {a b : World}, Below a.heap.size a b → KeepsOthers a b := fun h => ⟨h.size, fun k o hk _ => (h.block k (Array.getElem?_eq_some_iff.1 hk).1).trans hk⟩
            refine KeepsOthers.trans (KeepsOthers.trans (KeepsOthers.trans HKO.out (hk HB4.out)) (hk hb5)) ?_
            refine ((KeepsOthers.alloc w5 _).trans (KeepsOthers.of_grownBy hgr fun j o ej hj => ?_)).trans (KeepsOthers.setCell _ _ _)
            rcases (hown5.alloc (.cells #[.int .i64 (capZ (S.Z 0 c)), .slice Am ml.length cm] 167)).2 with ⟨rfl, _⟩ | ⟨g, cap, cur, rfl, _, hgb, _⟩
            · simp [Value.ownBlock] at ej
            · obtain rfl : g = j := by simpa [Value.ownBlock] using ej
              rw [hgb] at hj; cases hj; rfl
          · rw [hsn]
            exact ST.app (r := (capZ (S.Z 0 c), ml)) hv5 hown5 HMAP4.out (fun y hy => (HMEM4.out y hy).keep hb5) (HLM.out.keep hb5) hown hgr hat
          · rw [hsn]
            exact BT.app (HBT4.out.keep hb5) (fun g e => (hown5.lt g e).1) hgr hat
          · exact (HBB.out.trans ((HB4.out.mono (by omega)).trans ((hb5.mono (by have h2 := HB4.out.size; omega)).trans (hbm.mono (by omega))))).setCell (p := ⟨Br, 0, none⟩) (by simp) _
          · have h1 := hb5.size
            have h2 := HB4.out.size
            have h3 := hbm.size
            simp [World.setCell]
            omega
        have HE2 := HE
        have HC0c := Lib.hid hc0
        have HB8 := Lib.hid hB8
        have HWB : Hid (w.heap.size < Br) := Lib.hid (by have h1 : w.heap.size < W1.heap.size := World.block_lt_of_cell? W1 ⟨w.heap.size, 0, none⟩ (HD.out W1 (Below.refl _ _)).1; have h2 := HBR.out; omega)
        clear hsz2 hsite hsz3 hB3 hI0 hB8 hmlen hlb16 hszb HBX HLA HST HBB HCH HML HAS HSN HE HD HG HST4 HBT4 HLM HMAP4 HMEM4 HKO
        have hz4 : Br < w4.heap.size := HV4.out.lt
        clear hmf HJ HY0 HY1 HY2 HP p0 p1 p2 p3 p4 p5 hp3 hu
        refine wpIn_mono (Q := fun e _ wc => e = .normal ∧ KeepsOthers W wc ∧ OI S Br W1 (pre ++ [x]) wc) ?first ?rest
        case rest =>
          rintro e a9 w9 ⟨rfl, hf1, hf2⟩
          gi_wp2
          exact ⟨hf1, trivial, hf2⟩
        case first =>
          have hbBr : b < Br := by
            obtain ⟨b2, o2, hA2, hl2, _, _⟩ := (HE2.out W1 (Below.refl _ _)).rows 0 (by decide) c HC0c.out
            rw [HA0.out] at hA2
            cases hA2
            rw [HBR.out] at hl2
            exact hl2
          have hwBr : w.heap.size < Br := HWB.out
          have hown : ∀ k, v.ownBlock = some k → Br + 3 ≤ k ∧ k ≠ B8 := fun k e => by
            refine ⟨(HOWN4.out.lt k e).1, fun e2 => ?_⟩
            subst e2
            rcases HOWN4.out.2 with ⟨rfl, _⟩ | ⟨g, cap, cur, rfl, _, hgb, _⟩
            · simp [Value.ownBlock] at e
            · have e3 : g = k := by simpa [Value.ownBlock] using e
              subst e3
              have h9 := (HB4.out.block g (Array.getElem?_eq_some_iff.1 H8b.out).1).trans H8b.out
              rw [hgb] at h9
              cases h9
          have hB83 : Br + 3 ≤ B8 := HB8.out
          have HSK : Hid (∀ W : World, (∀ k, k < w4.heap.size → some k ≠ v.ownBlock → k ≠ Br → W.heap[k]? = w4.heap[k]?) → W.cell? ⟨w.heap.size, 0, none⟩ = some (.slice (some ⟨b, o, none⟩) (S.n 0) (S.c 0)) ∧ W.cell? ⟨B8, 0, none⟩ = some (.int .i64 (c : Int)) ∧ W.cell? ⟨b, o + c * 11, none⟩ = some (.string (S.N 0 c)) ∧ W.cell? ⟨b, o + c * 11 + 1, none⟩ = some (.int .i64 (S.Z 0 c 1)) ∧ W.cell? ⟨b, o + c * 11 + 2, none⟩ = some (.int .i64 (S.Z 0 c 2)) ∧ W.cell? ⟨b, o + c * 11 + 3, none⟩ = some (.int .i64 (S.Z 0 c 3)) ∧ W.cell? ⟨b, o + c * 11 + 4, none⟩ = some (.int .i64 (S.Z 0 c 4)) ∧ W.cell? ⟨b, o + c * 11 + 5, none⟩ = some (.int .i64 (S.Z 0 c 5)) ∧ W.cell? ⟨b, o + c * 11 + 6, none⟩ = some (.int .i64 (S.Z 0 c 6)) ∧ W.cell? ⟨b, o + c * 11 + 7, none⟩ = some (.int .i64 (S.Z 0 c 7)) ∧ W.cell? ⟨b, o + c * 11 + 8, none⟩ = some (.int .i64 (S.Z 0 c 8)) ∧ W.cell? ⟨b, o + c * 11 + 9, none⟩ = some (.int .i64 (S.Z 0 c 9)) ∧ W.cell? ⟨b, o + c * 11 + 10, none⟩ = some (.int .i64 (S.Z 0 c 10))) := Lib.hid fun W hW => by
            have h1 : ∀ q u, w4.cell? q = some u → some q.block ≠ v.ownBlock → q.block ≠ Br → W.cell? q = some u := fun q u h h2 h3 => (World.cell?_of_block (w := w4) (hW q.block (World.block_lt_of_cell? w4 q h) h2 h3)).trans h
            have nb : ∀ q u, w4.cell? ⟨b, q, none⟩ = some u → W.cell? ⟨b, q, none⟩ = some u := fun q u h => h1 _ _ h (fun e => by have := (hown _ e.symm).1; simp only at this; omega) (by simp only; omega)
            refine ⟨h1 _ _ g0 (fun e => by have := (hown _ e.symm).1; simp only at this; omega) (by simp only; omega), h1 _ _ y0 (fun e => (hown _ e.symm).2 rfl) (by simp only; omega), nb _ _ q0, nb _ _ q1, nb _ _ q2, nb _ _ q3, nb _ _ q4, nb _ _ q5, nb _ _ q6, nb _ _ q7, nb _ _ q8, nb _ _ q9, nb _ _ q10⟩
          clear hown hB83 hbBr hwBr g0 y0 q0 q1 q2 q3 q4 q5 q6 q7 q8 q9 q10 HB4 HOWN4 HV4
          refine region_in (S := fun (W : World) => W.cell? ⟨w.heap.size, 0, none⟩ = some (.slice (some ⟨b, o, none⟩) (S.n 0) (S.c 0)) ∧ W.cell? ⟨B8, 0, none⟩ = some (.int .i64 (c : Int)) ∧ W.cell? ⟨b, o + c * 11, none⟩ = some (.string (S.N 0 c)) ∧ W.cell? ⟨b, o + c * 11 + 1, none⟩ = some (.int .i64 (S.Z 0 c 1)) ∧ W.cell? ⟨b, o + c * 11 + 2, none⟩ = some (.int .i64 (S.Z 0 c 2)) ∧ W.cell? ⟨b, o + c * 11 + 3, none⟩ = some (.int .i64 (S.Z 0 c 3)) ∧ W.cell? ⟨b, o + c * 11 + 4, none⟩ = some (.int .i64 (S.Z 0 c 4)) ∧ W.cell? ⟨b, o + c * 11 + 5, none⟩ = some (.int .i64 (S.Z 0 c 5)) ∧ W.cell? ⟨b, o + c * 11 + 6, none⟩ = some (.int .i64 (S.Z 0 c 6)) ∧ W.cell? ⟨b, o + c * 11 + 7, none⟩ = some (.int .i64 (S.Z 0 c 7)) ∧ W.cell? ⟨b, o + c * 11 + 8, none⟩ = some (.int .i64 (S.Z 0 c 8)) ∧ W.cell? ⟨b, o + c * 11 + 9, none⟩ = some (.int .i64 (S.Z 0 c 9)) ∧ W.cell? ⟨b, o + c * 11 + 10, none⟩ = some (.int .i64 (S.Z 0 c 10))) (by kernel_rfl) (by rintro ⟨_, _, h, _⟩; cases h) (by kernel_rfl) (HSK.out _ (fun k _ _ _ => rfl)) (fun hHeld => ?_)
          refine wpAnyH_take (i := 1) (v := ?_) rfl (by kernel_rfl) (by kernel_rfl) (by kernel_rfl) (fun _ _ _ h => h) (Or.inl ⟨by rfl, ?_⟩) (by assumption) ?_
          rotate_left
          · intro w hSw; (try dsimp only at hSw); go_simp; (try with_reducible rfl)
          try simp only [Act.put, List.getElem_toArray, List.getElem_cons_zero, List.getElem_cons_succ, List.setIfInBounds_toArray, List.set_cons_zero, List.set_cons_succ]
          refine wpAnyH_take (i := 2) (v := ?_) rfl (by kernel_rfl) (by kernel_rfl) (by kernel_rfl) (fun _ _ _ h => h) (Or.inl ⟨by rfl, ?_⟩) (by assumption) ?_
          rotate_left
          · intro w hSw; (try dsimp only at hSw); go_simp; (try with_reducible rfl)
          try simp only [Act.put, List.getElem_toArray, List.getElem_cons_zero, List.getElem_cons_succ, List.setIfInBounds_toArray, List.set_cons_zero, List.set_cons_succ]
          refine wpAnyH_take (i := 3) (v := ?_) rfl (by kernel_rfl) (by kernel_rfl) (by kernel_rfl) (fun _ _ _ h => h) (Or.inl ⟨by rfl, ?_⟩) (by assumption) ?_
          rotate_left
          · intro w hSw; (try dsimp only at hSw); go_simp; (try with_reducible rfl)
          try simp only [Act.put, List.getElem_toArray, List.getElem_cons_zero, List.getElem_cons_succ, List.setIfInBounds_toArray, List.set_cons_zero, List.set_cons_succ]
          refine wpAnyH_take (i := 4) (v := ?_) rfl (by kernel_rfl) (by kernel_rfl) (by kernel_rfl) (fun _ _ _ h => h) (Or.inl ⟨by rfl, ?_⟩) (by assumption) ?_
          rotate_left
          · intro w hSw; (try dsimp only at hSw); go_simp; (try with_reducible rfl)
          try simp only [Act.put, List.getElem_toArray, List.getElem_cons_zero, List.getElem_cons_succ, List.setIfInBounds_toArray, List.set_cons_zero, List.set_cons_succ]
          refine wpAnyH_take (i := 5) (v := ?_) rfl (by kernel_rfl) (by kernel_rfl) (by kernel_rfl) (fun _ _ _ h => h) (Or.inl ⟨by rfl, ?_⟩) (by assumption) ?_
          rotate_left
          · intro w hSw; (try dsimp only at hSw); go_simp; (try with_reducible rfl)
          try simp only [Act.put, List.getElem_toArray, List.getElem_cons_zero, List.getElem_cons_succ, List.setIfInBounds_toArray, List.set_cons_zero, List.set_cons_succ]
          refine wpAnyH_take (i := 6) (v := ?_) rfl (by kernel_rfl) (by kernel_rfl) (by kernel_rfl) (fun _ _ _ h => h) (Or.inl ⟨by rfl, ?_⟩) (by assumption) ?_
          rotate_left
          · intro w hSw; (try dsimp only at hSw); go_simp; (try with_reducible rfl)
          try simp only [Act.put, List.getElem_toArray, List.getElem_cons_zero, List.getElem_cons_succ, List.setIfInBounds_toArray, List.set_cons_zero, List.set_cons_succ]
          refine wpAnyH_take (i := 8) (v := ?_) rfl (by kernel_rfl) (by kernel_rfl) (by kernel_rfl) (fun _ _ _ h => h) (Or.inl ⟨by rfl, ?_⟩) (by assumption) ?_
          rotate_left
          · intro w hSw; (try dsimp only at hSw); go_simp; (try with_reducible rfl)
          try simp only [Act.put, List.getElem_toArray, List.getElem_cons_zero, List.getElem_cons_succ, List.setIfInBounds_toArray, List.set_cons_zero, List.set_cons_succ]
          refine wpAnyH_ready (rs := [0, 7]) (by kernel_rfl) (by simp) ?_
          refine AllReadyH.cons rfl (fun K hK => ?_) ?_
          · go_simp
            refine hK.out _ _ (by assumption) (fun hHeld => ?_)
            clear hK K
            try simp only [Act.put, List.getElem_toArray, List.getElem_cons_zero, List.getElem_cons_succ, List.setIfInBounds_toArray, List.set_cons_zero, List.set_cons_succ]
            refine wpAnyH_ready (rs := [7]) (by kernel_rfl) (by simp) ?_
            refine AllReadyH.cons rfl (fun K hK => ?_) ?_
            · go_simp
              refine (HLI.out _).mono ?_
              rintro e w5 ⟨rfl, hcap, hb5⟩
              have hb5' : Below w4.heap.size w4 w5 := ⟨hb5.os, hb5.tape, hb5.output, hb5.size, hb5.block⟩
              have yv5 := old_at yv hb5'
              have hz5 : Br < w5.heap.size := Nat.lt_of_lt_of_le hz4 hb5'.size
              have HB5 := Lib.hid hb5'
              obtain ⟨g6, c6, w6, hr7, hown6, hgrow6, hat6, hv6⟩ := HAPP.out w5 hb5'
              have yv6 := hv6.cell
              have fv6 := hv6.frozen
              have HOWN6 := Lib.hid hown6
              have HGR6 := Lib.hid hgrow6
              have HAT6 := Lib.hid hat6
              clear hown6 hgrow6 hat6 hv6 hb5 hb5'
              (try dsimp only)
              refine hK.out _ _ (HSK.out _ (fun k h1 _ _ => HB5.out.block k h1)) (fun hHeld => ?_)
              clear hK K
              try simp only [Act.put, List.getElem_toArray, List.getElem_cons_zero, List.getElem_cons_succ, List.setIfInBounds_toArray, List.set_cons_zero, List.set_cons_succ]
              refine wpAnyH_take (i := 9) (v := ?_) rfl (by kernel_rfl) (by kernel_rfl) (by kernel_rfl) (fun _ _ _ h => h) (Or.inl ⟨by rfl, ?_⟩) (by assumption) ?_
              rotate_left
              · intro w hSw; (try dsimp only at hSw); go_simp; (try with_reducible rfl)
              try simp only [Act.put, List.getElem_toArray, List.getElem_cons_zero, List.getElem_cons_succ, List.setIfInBounds_toArray, List.set_cons_zero, List.set_cons_succ]
              refine wpAnyH_ready (rs := [10]) (by kernel_rfl) (by simp) ?_
              refine AllReadyH.cons rfl (fun K hK => ?_) ?_
              · go_simp
                refine hK.out _ _ (HSK.out _ (fun k h1 _ _ => (Below.heap_alloc _ _ _ (Nat.lt_of_lt_of_le h1 HB5.out.size)).trans (HB5.out.block k h1))) (fun hHeld => ?_)
                clear hK K
                try simp only [Act.put, List.getElem_toArray, List.getElem_cons_zero, List.getElem_cons_succ, List.setIfInBounds_toArray, List.set_cons_zero, List.set_cons_succ]
                refine wpAnyH_ready (rs := [11]) (by kernel_rfl) (by simp) ?_
                refine AllReadyH.cons rfl (fun K hK => ?_) ?_
                · go_simp
                  refine hK.out _ _ (HSK.out _ (fun k h1 h2 _ => (HGR6.out.block k (by rw [World.size_alloc]; exact Nat.lt_succ_of_lt (Nat.lt_of_lt_of_le h1 HB5.out.size)) h2).trans ((Below.heap_alloc _ _ _ (Nat.lt_of_lt_of_le h1 HB5.out.size)).trans (HB5.out.block k h1)))) (fun hHeld => ?_)
                  clear hK K
                  try simp only [Act.put, List.getElem_toArray, List.getElem_cons_zero, List.getElem_cons_succ, List.setIfInBounds_toArray, List.set_cons_zero, List.set_cons_succ]
                  refine wpAnyH_ready (rs := [12]) (by kernel_rfl) (by simp) ?_
                  refine AllReadyH.cons rfl (fun K hK => ?_) ?_
                  · go_simp
                    refine hK.out _ _ (HSK.out _ (fun k h1 h2 h3 => (Below.heap_setCell _ ⟨Br, 0, none⟩ _ k h3).trans ((HGR6.out.block k (by rw [World.size_alloc]; exact Nat.lt_succ_of_lt (Nat.lt_of_lt_of_le h1 HB5.out.size)) h2).trans ((Below.heap_alloc _ _ _ (Nat.lt_of_lt_of_le h1 HB5.out.size)).trans (HB5.out.block k h1))))) (fun hHeld => ?_)
                    clear hK K
                    try simp only [Act.put, List.getElem_toArray, List.getElem_cons_zero, List.getElem_cons_succ, List.setIfInBounds_toArray, List.set_cons_zero, List.set_cons_succ]
                    exact ⟨by kernel_rfl, rfl, HFIN.out w5 g6 c6 w6 HB5.out HOWN6.out HGR6.out HAT6.out⟩
                  exact AllReadyH.nil
                exact AllReadyH.nil
              exact AllReadyH.nil
            exact AllReadyH.nil
          refine AllReadyH.cons rfl (fun K hK => ?_) ?_
          · go_simp
            refine (HLI.out _).mono ?_
            rintro e w5 ⟨rfl, hcap, hb5⟩
            have hb5' : Below w4.heap.size w4 w5 := ⟨hb5.os, hb5.tape, hb5.output, hb5.size, hb5.block⟩
            have yv5 := old_at yv hb5'
            have hz5 : Br < w5.heap.size := Nat.lt_of_lt_of_le hz4 hb5'.size
            have HB5 := Lib.hid hb5'
            obtain ⟨g6, c6, w6, hr7, hown6, hgrow6, hat6, hv6⟩ := HAPP.out w5 hb5'
            have yv6 := hv6.cell
            have fv6 := hv6.frozen
            have HOWN6 := Lib.hid hown6
            have HGR6 := Lib.hid hgrow6
            have HAT6 := Lib.hid hat6
            clear hown6 hgrow6 hat6 hv6 hb5 hb5'
            (try dsimp only)
            refine hK.out _ _ (HSK.out _ (fun k h1 _ _ => HB5.out.block k h1)) (fun hHeld => ?_)
            clear hK K
            try simp only [Act.put, List.getElem_toArray, List.getElem_cons_zero, List.getElem_cons_succ, List.setIfInBounds_toArray, List.set_cons_zero, List.set_cons_succ]
            refine wpAnyH_take (i := 9) (v := ?_) rfl (by kernel_rfl) (by kernel_rfl) (by kernel_rfl) (fun _ _ _ h => h) (Or.inl ⟨by rfl, ?_⟩) (by assumption) ?_
            rotate_left
            · intro w hSw; (try dsimp only at hSw); go_simp; (try with_reducible rfl)
            try simp only [Act.put, List.getElem_toArray, List.getElem_cons_zero, List.getElem_cons_succ, List.setIfInBounds_toArray, List.set_cons_zero, List.set_cons_succ]
            refine wpAnyH_ready (rs := [0, 10]) (by kernel_rfl) (by simp) ?_
            refine AllReadyH.cons rfl (fun K hK => ?_) ?_
            · go_simp
              refine hK.out _ _ (by assumption) (fun hHeld => ?_)
              clear hK K
              try simp only [Act.put, List.getElem_toArray, List.getElem_cons_zero, List.getElem_cons_succ, List.setIfInBounds_toArray, List.set_cons_zero, List.set_cons_succ]
              refine wpAnyH_ready (rs := [10]) (by kernel_rfl) (by simp) ?_
              refine AllReadyH.cons rfl (fun K hK => ?_) ?_
              · go_simp
                refine hK.out _ _ (HSK.out _ (fun k h1 _ _ => (Below.heap_alloc _ _ _ (Nat.lt_of_lt_of_le h1 HB5.out.size)).trans (HB5.out.block k h1))) (fun hHeld => ?_)
                clear hK K
                try simp only [Act.put, List.getElem_toArray, List.getElem_cons_zero, List.getElem_cons_succ, List.setIfInBounds_toArray, List.set_cons_zero, List.set_cons_succ]
                refine wpAnyH_ready (rs := [11]) (by kernel_rfl) (by simp) ?_
                refine AllReadyH.cons rfl (fun K hK => ?_) ?_
                · go_simp
                  refine hK.out _ _ (HSK.out _ (fun k h1 h2 _ => (HGR6.out.block k (by rw [World.size_alloc]; exact Nat.lt_succ_of_lt (Nat.lt_of_lt_of_le h1 HB5.out.size)) h2).trans ((Below.heap_alloc _ _ _ (Nat.lt_of_lt_of_le h1 HB5.out.size)).trans (HB5.out.block k h1)))) (fun hHeld => ?_)
                  clear hK K
                  try simp only [Act.put, List.getElem_toArray, List.getElem_cons_zero, List.getElem_cons_succ, List.setIfInBounds_toArray, List.set_cons_zero, List.set_cons_succ]
                  refine wpAnyH_ready (rs := [12]) (by kernel_rfl) (by simp) ?_
                  refine AllReadyH.cons rfl (fun K hK => ?_) ?_
                  · go_simp
                    refine hK.out _ _ (HSK.out _ (fun k h1 h2 h3 => (Below.heap_setCell _ ⟨Br, 0, none⟩ _ k h3).trans ((HGR6.out.block k (by rw [World.size_alloc]; exact Nat.lt_succ_of_lt (Nat.lt_of_lt_of_le h1 HB5.out.size)) h2).trans ((Below.heap_alloc _ _ _ (Nat.lt_of_lt_of_le h1 HB5.out.size)).trans (HB5.out.block k h1))))) (fun hHeld => ?_)
                    clear hK K
                    try simp only [Act.put, List.getElem_toArray, List.getElem_cons_zero, List.getElem_cons_succ, List.setIfInBounds_toArray, List.set_cons_zero, List.set_cons_succ]
                    exact ⟨by kernel_rfl, rfl, HFIN.out w5 g6 c6 w6 HB5.out HOWN6.out HGR6.out HAT6.out⟩
                  exact AllReadyH.nil
                exact AllReadyH.nil
              exact AllReadyH.nil
            refine AllReadyH.cons rfl (fun K hK => ?_) ?_
            · go_simp
              refine hK.out _ _ (HSK.out _ (fun k h1 _ _ => (Below.heap_alloc _ _ _ (Nat.lt_of_lt_of_le h1 HB5.out.size)).trans (HB5.out.block k h1))) (fun hHeld => ?_)
              clear hK K
              try simp only [Act.put, List.getElem_toArray, List.getElem_cons_zero, List.getElem_cons_succ, List.setIfInBounds_toArray, List.set_cons_zero, List.set_cons_succ]
              refine wpAnyH_ready (rs := [0]) (by kernel_rfl) (by simp) ?_
              refine AllReadyH.cons rfl (fun K hK => ?_) ?_
              · go_simp
                refine hK.out _ _ (by assumption) (fun hHeld => ?_)
                clear hK K
                try simp only [Act.put, List.getElem_toArray, List.getElem_cons_zero, List.getElem_cons_succ, List.setIfInBounds_toArray, List.set_cons_zero, List.set_cons_succ]
                refine wpAnyH_ready (rs := [11]) (by kernel_rfl) (by simp) ?_
                refine AllReadyH.cons rfl (fun K hK => ?_) ?_
                · go_simp
                  refine hK.out _ _ (HSK.out _ (fun k h1 h2 _ => (HGR6.out.block k (by rw [World.size_alloc]; exact Nat.lt_succ_of_lt (Nat.lt_of_lt_of_le h1 HB5.out.size)) h2).trans ((Below.heap_alloc _ _ _ (Nat.lt_of_lt_of_le h1 HB5.out.size)).trans (HB5.out.block k h1)))) (fun hHeld => ?_)
                  clear hK K
                  try simp only [Act.put, List.getElem_toArray, List.getElem_cons_zero, List.getElem_cons_succ, List.setIfInBounds_toArray, List.set_cons_zero, List.set_cons_succ]
                  refine wpAnyH_ready (rs := [12]) (by kernel_rfl) (by simp) ?_
                  refine AllReadyH.cons rfl (fun K hK => ?_) ?_
                  · go_simp
                    refine hK.out _ _ (HSK.out _ (fun k h1 h2 h3 => (Below.heap_setCell _ ⟨Br, 0, none⟩ _ k h3).trans ((HGR6.out.block k (by rw [World.size_alloc]; exact Nat.lt_succ_of_lt (Nat.lt_of_lt_of_le h1 HB5.out.size)) h2).trans ((Below.heap_alloc _ _ _ (Nat.lt_of_lt_of_le h1 HB5.out.size)).trans (HB5.out.block k h1))))) (fun hHeld => ?_)
                    clear hK K
                    try simp only [Act.put, List.getElem_toArray, List.getElem_cons_zero, List.getElem_cons_succ, List.setIfInBounds_toArray, List.set_cons_zero, List.set_cons_succ]
                    exact ⟨by kernel_rfl, rfl, HFIN.out w5 g6 c6 w6 HB5.out HOWN6.out HGR6.out HAT6.out⟩
                  exact AllReadyH.nil
                exact AllReadyH.nil
              exact AllReadyH.nil
            exact AllReadyH.nil
          exact AllReadyH.nil
  case done =>
    rintro D ys W hD rfl ⟨v, x0, x1, x2, x3⟩ hK
    obtain ⟨bs, y0, y1, y2, y3⟩ := x0
    have hvc := y0.cell
    obtain ⟨A, cc, rfl, hRW⟩ := ST.rw ⟨bs, y0, y1, y2, y3⟩
    have HRW := Lib.hid hRW
    have HX2 := Lib.hid x2
    have HX0 := Lib.hid y0
    have HK := Lib.hid hK
    have HDD := Lib.hid hD
    clear y0 y1 y2 y3 x1 x2 hRW hK hD
    go_wp2
    refine ⟨by simp, .inl ⟨_, _, rfl, run_takeDeferred HK.out, ?_⟩⟩
    refine ⟨_, by simp [results, Try.f29, go_sem]; rfl, ?_⟩
    have hbl : Below Br W (W.putObj D (.deferred none)) := belowK_b (w := W3) (by omega) W D _ _ (by have := HDD.out; omega) HK.out rfl rfl
    refine ⟨⟨A, cc, rfl, ?_⟩, ?_⟩
    · exact RW.kept HRW.out (grownBy_putObj' _ D (.deferred none)) (fun r e => by cases e; exact ⟨_, HK.out, rfl⟩)
    · exact HG.out _ (HX2.out.trans hbl)
  case stop =>
    rintro D c pre W hD hpre h hK
    exact h.elim
end Go.Proofs.Ytkhmlbkkdflnoaa.Nm
