/-
  fair.Share.
-/
import Derived.Test.YtkhmlbkkdflnoaaFpl
import Derived.Deep.LoopGhost
namespace Go.Proofs.Ytkhmlbkkdflnoaa.Nm
open Go.RowKit Go.Proofs.Ytkhmlbkkdflnoaa Go
set_option linter.unusedVariables false
set_option linter.unusedSimpArgs false
attribute [local go_sem ↓] Go.wp_at_zero Go.wp_at_succ
attribute [local go_sem ↓] appF_fold cpyF_fold

/-- the row that is filtered in place: the first of st.kept, the rest of rs -/
def GR (gr n : Nat) (kept rs : List Nat) (j : Nat) (w : World) : Prop := ∃ f, w.rowIs gr 3 n f ∧ (∀ i, i < kept.length → f i = .int .i64 ((kept.getD i 0 : Nat) : Int)) ∧ ∀ i, j ≤ i → i < rs.length → f i = .int .i64 ((rs.getD i 0 : Nat) : Int)
theorem GR.start {gr n : Nat} {rs : List Nat} {w : World} (h : GR gr n rs rs rs.length w) : GR gr n [] rs 0 w := by
  obtain ⟨f, h1, h2, _⟩ := h
  exact ⟨f, h1, fun i hi => by simp at hi, fun i _ hi => h2 i hi⟩
theorem GR.next {gr n j : Nat} {kept rs : List Nat} {w : World} (h : GR gr n kept rs j w) : GR gr n kept rs (j + 1) w := by
  obtain ⟨f, h1, h2, h3⟩ := h
  exact ⟨f, h1, h2, fun i hi => h3 i (by omega)⟩
theorem GR.stop {gr n j : Nat} {kept rs : List Nat} {w : World} (h : GR gr n kept rs j w) : GR gr n kept kept kept.length w := by
  obtain ⟨f, h1, h2, _⟩ := h
  exact ⟨f, h1, h2, fun i hi hj => by omega⟩
theorem GR.block {gr n j : Nat} {kept rs : List Nat} {w w' : World} (h : GR gr n kept rs j w) (e : w'.heap[gr]? = w.heap[gr]?) : GR gr n kept rs j w' := by
  obtain ⟨f, h1, h2, h3⟩ := h
  exact ⟨f, h1.of_block e, h2, h3⟩
theorem FamR.lw {B1 n gi m : Nat} {P : List (Nat × Nat)} {W : Nat → Prop} {w : World} (h : FamR B1 n gi P w) (hm : m < n) (hW : ∀ b, B1 ≤ b → b < w.heap.size → ¬ W b) : LW w W ⟨gi, m, none⟩ (inL P m) := by
  obtain ⟨V, h1, h2⟩ := h
  obtain ⟨A, c, e, hc, hz, _⟩ := h1.rz hm
  refine ⟨A, c, by rw [h2.cell hm, e], hc, hz, fun b o eA => ?_⟩
  have := (h1.1 m hm).lt b (by rw [e, eA]; rfl)
  exact hW b this.1 this.2
/-- what order is, as numbers -/
def natL (z : Nat → Int) (n : Nat) : List Nat := (List.range n).map fun i => (z i).toNat
theorem natL_len (z : Nat → Int) (n : Nat) : (natL z n).length = n := by simp [natL]
theorem natL_get (z : Nat → Int) (n i : Nat) (h : i < n) : (natL z n).getD i 0 = (z i).toNat := by simp [natL, List.getD, h]
/-- the last numbers -/
def fairX (L : List (Int × List Nat)) (n : Nat) (top z : Nat → Int) : Nat → Int := frun (prs L L.length) top (pot n top (fun _ => 0) + 1) (natL z n) (fun i => (L.getD i (0, [])).1) (fun _ => 0)
/-- between two levels -/
def LV (p : FP) (X : Nat → Int) (w0 : World) (g : Nat) (rs : List Nat) (lf x : Nat → Int) (w : World) : Prop :=
  GR p.gr p.n rs rs rs.length w ∧ FLx p lf x w ∧ Gd p.R p.n p.top lf x ∧ ((∀ m ∈ rs, m < p.n) ∧ rs.length ≤ p.n) ∧ pot p.n p.top x + 1 ≤ g ∧ frun p.P p.top g rs lf x = X ∧ Below w0.heap.size w0 w
/-- within a level -/
def LI (p : FP) (w0 : World) (rs : List Nat) (lf x : Nat → Int) (j : Nat) (w : World) : Prop :=
  GR p.gr p.n (fpass p.P p.top (rs.take j) lf x).kept rs j w ∧ FLx p (fpass p.P p.top (rs.take j) lf x).lf (fpass p.P p.top (rs.take j) lf x).x w ∧ Below w0.heap.size w0 w
theorem take_step (P : List (Nat × Nat)) (top lf x : Nat → Int) (rs : List Nat) (j : Nat) (hj : j < rs.length) : fpass P top (rs.take (j + 1)) lf x = frise P top (fpass P top (rs.take j) lf x) (rs.getD j 0) := by rw [take_one rs j hj, fpass_snoc]
theorem LI.no {p : FP} {w0 w w' : World} {rs : List Nat} {lf x : Nat → Int} {j : Nat} (hs : p.Sep) (h : LI p w0 rs lf x j w) (hj : j < rs.length)
    (hy : mayB p.top (fpass p.P p.top (rs.take j) lf x).x (fpass p.P p.top (rs.take j) lf x).lf (inL p.P (rs.getD j 0)) (rs.getD j 0) = false) (hb : Below w.heap.size w w') :
    (fpass p.P p.top (rs.take (j + 1)) lf x).kept.length = (fpass p.P p.top (rs.take j) lf x).kept.length ∧ LI p w0 rs lf x (j + 1) w' := by
  have e : fpass p.P p.top (rs.take (j + 1)) lf x = fpass p.P p.top (rs.take j) lf x := by rw [take_step _ _ _ _ _ _ hj]; unfold frise; rw [hy]; simp
  obtain ⟨h1, h2, h3⟩ := h
  refine ⟨by rw [e], ?_⟩
  unfold LI
  rw [e]
  obtain ⟨f, f1, f2, f3⟩ := h1
  exact ⟨GR.next ⟨f, rowIs_below f1 hb, f2, f3⟩, h2.keep hs hb, h3.trans (hb.mono h3.size)⟩
theorem LI.yes {p : FP} {w0 w w2 : World} {rs : List Nat} {lf x : Nat → Int} {j : Nat} (ty : TypeId) (hs : p.Sep) (h : LI p w0 rs lf x j w) (hj : j < rs.length) (hjn : rs.length ≤ p.n) (hw0 : w0.heap.size ≤ p.gr ∧ w0.heap.size ≤ p.gx ∧ w0.heap.size ≤ p.gl)
    (hN : ∀ m, m < p.n → (inL p.P m).Nodup ∧ ∀ i ∈ inL p.P m, i < p.R) (hall : ∀ m ∈ rs, m < p.n) (hg : Gd p.R p.n p.top lf x)
    (hy : mayB p.top (fpass p.P p.top (rs.take j) lf x).x (fpass p.P p.top (rs.take j) lf x).lf (inL p.P (rs.getD j 0)) (rs.getD j 0) = true) (hE : Exc p.V w w2)
    (hF : FLx p (dec (inL p.P (rs.getD j 0)) (fpass p.P p.top (rs.take j) lf x).lf) (fun k => if k = rs.getD j 0 then (fpass p.P p.top (rs.take j) lf x).x (rs.getD j 0) + 1 else (fpass p.P p.top (rs.take j) lf x).x k) w2) :
    (fpass p.P p.top (rs.take (j + 1)) lf x).kept.length = (fpass p.P p.top (rs.take j) lf x).kept.length + 1 ∧
    ∃ w3, Sem.run Try.prog (appF #[46, 46] ty #[.slice (some ⟨p.gr, 0, none⟩) (fpass p.P p.top (rs.take j) lf x).kept.length p.n, .slice (some ⟨w2.heap.size, 0, none⟩) 1 1]) (w2.alloc (.cells #[.int .i64 ((rs.getD j 0 : Nat) : Int)] 3)) = .ok (.slice (some ⟨p.gr, 0, none⟩) ((fpass p.P p.top (rs.take j) lf x).kept.length + 1) p.n) w3 ∧
      LI p w0 rs lf x (j + 1) w3 := by
  have hk := (fpass_ok (P := p.P) (top := p.top) (fun m hm => (hN m hm).1) (fun m hm => (hN m hm).2) (rs.take j) lf x (fun m hm => hall m (List.mem_of_mem_take hm)) hg).2.2.1
  have hkj : (fpass p.P p.top (rs.take j) lf x).kept.length ≤ j := Nat.le_trans hk (List.length_take_le j rs)
  have e := take_step p.P p.top lf x rs j hj
  unfold frise at e
  rw [if_pos hy] at e
  obtain ⟨⟨f, f1, f2, f3⟩, h2, h3⟩ := h
  obtain ⟨st, hst⟩ : ∃ st, fpass p.P p.top (rs.take j) lf x = st := ⟨_, rfl⟩
  rw [hst] at e hkj hF f2 h2 ⊢
  have f1' : w2.rowIs p.gr 3 p.n f := hE.row f1 (fun hv => hv.elim (fun e => hs.xr e.symm) (fun e => hs.lr e.symm))
  obtain ⟨w3, hr, hi3, hx3⟩ := room_run ty p.gr st.kept.length p.n (rs.getD j 0) f w2 f1' (by omega)
  refine ⟨by rw [e]; simp, w3, hr, ?_⟩
  have hx3' : Exc p.W w2 w3 := hx3.mono fun k hk => .inr (.inr hk)
  unfold LI
  rw [e]
  refine ⟨⟨_, hi3, fun i hi => ?_, fun i hi hi2 => ?_⟩, hF.exc hs hx3' (hx3.row hF.rl hs.lr) (hx3.row hF.rx hs.xr), ?_⟩
  · simp only [List.length_append, List.length_cons, List.length_nil] at hi
    by_cases h9 : i = st.kept.length
    · subst h9; simp
    · rw [if_neg h9, f2 i (by omega)]
      simp [List.getD, List.getElem?_append_left (show i < st.kept.length by omega)]
  · rw [if_neg (by omega)]
    exact f3 i (by omega) hi2
  · have h4 : Below w0.heap.size w0 w2 := hE.to_below h3 h3.size (fun k hk => hk.elim (fun e => e ▸ hw0.2.1) (fun e => e ▸ hw0.2.2))
    exact hx3.to_below h4 h4.size (fun k hk => by rw [hk]; exact hw0.1)
/-- numbers, and no error -/
def OkN (n : Nat) (x : Nat → Int) (e : Ending) (w : World) : Prop := ∃ g, e = .returned (.tuple #[.slice (some ⟨g, 0, none⟩) n n, .int .i64 0]) ∧ w.rowIs g 3 n (fun i => .int .i64 (x i))
set_option maxRecDepth 100000 in
set_option maxHeartbeats 16000000 in
theorem fair_any (n : Nat) (A : Option Addr) (c : Nat) (L : List (Int × List Nat)) (B : Option Addr) (d : Nat) (top : Nat → Int) (C : Option Addr) (e : Nat) (z : Nat → Int) (w : World) (hn : n ≤ 16) (hL : L.length ≤ 48) (hP : ∀ i, i < L.length → RowP n (L.getD i (0, []))) (hR : RW w A L)
    (hz : RZ w B n top) (hb : ∀ i, i < n → 0 ≤ top i ∧ top i ≤ 80) (hd : n ≤ d ∧ d ≤ 9223372036854775807) (ho : RZ w C n z) (hO : OrP n n z) (hN : ∀ m, m < n → (inL (prs L L.length) m).Nodup) (hRR : ∀ m, m < n → ∀ i ∈ inL (prs L L.length) m, i < L.length) :
    Calls Try.prog 30 #[.slice A L.length c, .slice B n d, .slice C n e] w fun e w' => OkN n (fairX L n top z) e w' ∧ Below w.heap.size w w' := by
  have HV : Hid (∀ W, Below w.heap.size w W → Calls Try.prog 79 #[.slice A L.length c, .slice B n d] W fun e w' => e = .returned (.bool true) ∧ Below W.heap.size W w') := Lib.hid fun W hW => vlimits_yes n A c L B d top W hn hL hP (hR.keep hW) (hz.keep hW) hb
  have HO : Hid (∀ W, Below w.heap.size w W → Calls Try.prog 80 #[.slice C n e, .int .i64 (n : Int)] W fun e w' => e = .returned (.bool true) ∧ Below W.heap.size W w') := Lib.hid fun W hW => ford_yes C n e z W hn (ho.keep hW) hO
  have HRO : Hid (∀ W, Below w.heap.size w W → Calls Try.prog 81 #[.slice A L.length c, .int .i64 (n : Int)] W fun e w' => e = .returned (.slice (some ⟨W.heap.size, 0, none⟩) n n) ∧ FamR (W.heap.size + 1) n W.heap.size (prs L L.length) w' ∧ Below W.heap.size W w') := Lib.hid fun W hW => rowsOf_any n A c L W hn hL hP (hR.keep hW)
  have HR := Lib.hid hR
  have HZ := Lib.hid hz
  have HC := Lib.hid ho
  have HOO := Lib.hid hO
  have HP := Lib.hid hP
  have HBD := Lib.hid hb
  have HNN := Lib.hid hN
  have HRR := Lib.hid hRR
  obtain ⟨R, hR0⟩ : ∃ R, L.length = R := ⟨_, rfl⟩
  have HRL := Lib.hid hR0
  have hmk1 := run_make_row' (P := Try.prog) 46 3 (.int .i64 0) 8 Try.underlying46 infoInt rfl .i64 .i64 R (by omega) (by omega)
  have hmk2 := run_make_row' (P := Try.prog) 46 3 (.int .i64 0) 8 Try.underlying46 infoInt rfl .i64 .i64 n (by omega) (by omega)
  have hmf : ∀ (fn : Fn) (first cap : Array Value) (w : World), (Instr.makeFunc fn first cap).run Try.prog w = .ok (.func fn first cap) w := fun _ _ _ _ => rfl
  rw [hR0] at hL HV HRO HP HNN HRR ⊢
  clear hR hz hb ho hO hP hN hRR hR0
  go_enter Try.func30, Try.ntmps30
  go_upto_region 1 with fail
  refine nameW ?_
  intro W0 hW0
  obtain ⟨bm, hbm⟩ : ∃ x, w.heap.size = x := ⟨_, rfl⟩
  have hb0 : Below w.heap.size w W0 := by rw [← hW0]; exact bel_alloc (Below.refl _ _) _
  have HB0 := Lib.hid hb0
  have cm : W0.cell? ⟨bm, 0, none⟩ = some (.slice B n d) := by rw [← hW0, ← hbm]; simp
  have HBM := Lib.hid hbm
  have HS0 : Hid (W0.heap.size = bm + 1) := Lib.hid (by rw [← hW0, World.size_alloc, hbm])
  have HT : Hid (∀ {a b c : World}, Below a.heap.size a b → Below b.heap.size b c → Below a.heap.size a c) := Lib.hid fun h k => h.trans (k.mono h.size)
  try rw [hbm]
  clear hW0 hb0
  have HCM : Hid (∀ W, Below W0.heap.size W0 W → W.cell? ⟨bm, 0, none⟩ = some (.slice B n d)) := Lib.hid fun W hW => old_at cm hW
  have HB00 : Hid (Below W0.heap.size W0 W0) := Lib.hid (Below.refl _ _)
  go_step3
  go_upto_region 3 with (first
    | (go_at_call 79; with_reducible refine (HV.out _ HB0.out).mono ?_; rintro e w3 ⟨rfl, hb1⟩; have cm1 := HCM.out w3 hb1; have HB1 := Lib.hid hb1; clear hb1)
    | (go_at_call 80; with_reducible refine (HO.out _ (HT.out HB0.out HB1.out)).mono ?_; rintro e w4 ⟨rfl, hb2⟩; have HB2 := Lib.hid hb2; clear hb2))
  all_goals (try (exfalso; omega))
  have HB4 : Hid (Below w.heap.size w w4) := Lib.hid (HT.out (HT.out HB0.out HB1.out) HB2.out)
  have HM4 : Hid (Below W0.heap.size W0 w4) := Lib.hid (HT.out HB1.out HB2.out)
  obtain ⟨gl, hgl⟩ : ∃ x, w4.heap.size = x := ⟨_, rfl⟩
  have HGL := Lib.hid hgl
  have hlt1 : bm < gl := by have h1 := HM4.out.size; have h5 := HS0.out; omega
  clear cm cm1
  go_upto_region 4 with fail
  refine nameW ?_
  intro W5 hW5
  have hb5 : Below w4.heap.size w4 W5 := by rw [← hW5]; exact bel_alloc (bel_alloc (Below.refl _ _) _) _
  have HI5 : Hid (W5.rowIs gl 3 R (fun i => .int .i64 (if i < 0 then (L.getD i (0, [])).1 else 0))) := Lib.hid (by
    rw [← hW5, ← hgl]
    exact ((World.rowIs_made w4 (.int .i64 0) R 3).alloc _).congr (fun i _ => by simp))
  have HL5 : Hid (W5.cell? ⟨gl + 1, 0, none⟩ = some (.slice (some ⟨gl, 0, none⟩) R R)) := Lib.hid (by rw [← hW5, ← hgl]; simp)
  have HS5 : Hid (W5.heap.size = gl + 2) := Lib.hid (by rw [← hW5, ← hgl]; simp)
  have HB5 : Hid (Below w.heap.size w W5) := Lib.hid (HT.out HB4.out hb5)
  have HM5 : Hid (Below W0.heap.size W0 W5) := Lib.hid (HT.out HM4.out hb5)
  try simp only [hgl]
  clear hW5 hb5 hgl hmk1
  go_wp2_with fail
  go_loopw [34] (fun i wr => ∃ k : Nat, k ≤ R ∧ i = .int .i64 k ∧ wr.rowIs gl 3 R (fun i => .int .i64 (if i < k then (L.getD i (0, [])).1 else 0)) ∧ Exc (fun k => k = gl) W5 wr) (fun i _ => R - (intOf i).toNat)
  case atStart => exact ⟨0, by omega, rfl, HI5.out, Exc.refl _⟩
  case round =>
    obtain ⟨k, hk, rfl, hrow, hex⟩ := hrel
    obtain ⟨wa, hwa⟩ : ∃ x, x = wr := ⟨_, rfl⟩
    subst hwa
    have HRow := Lib.hid hrow
    have HEx := Lib.hid hex
    have HBa : Hid (Below w.heap.size w wa) := Lib.hid (hex.to_below HB5.out HB5.out.size (fun k e => by have h1 := HB4.out.size; have h2 := HGL.out; omega))
    have cl := hex.cell HL5.out (show ¬ ((fun k => k = gl) (⟨gl + 1, 0, none⟩ : Addr).block) by simp)
    clear hrow hex
    by_cases hlt : k < R
    · obtain ⟨b, o, rfl, hl, h0, MA, mc, h1, ⟨h2, h3⟩, h4⟩ := (HR.out.keep HBa.out) k (by rw [HRL.out]; exact hlt)
      have hst : Hid (∀ W, Below wa.heap.size wa W → (W.setCell ⟨gl, k, none⟩ (.int .i64 (L.getD k (0, [])).1)).rowIs gl 3 R (fun i => .int .i64 (if i < k + 1 then (L.getD i (0, [])).1 else 0)) ∧ Exc (fun k => k = gl) W5 (W.setCell ⟨gl, k, none⟩ (.int .i64 (L.getD k (0, [])).1))) := Lib.hid fun W hW => by
        refine ⟨((rowIs_below HRow.out hW).set k _).congr fun i hi => ?_, Exc.set (P := fun k => k = gl) (HEx.out.below hW) (p := ⟨gl, k, none⟩) rfl _⟩
        by_cases e : i = k
        · subst e; simp
        · by_cases e2 : i < k
          · simp [e, e2, show i < k + 1 by omega]
          · simp [e, e2, show ¬ i < k + 1 by omega]
      have hcg : Hid (∀ W, Below wa.heap.size wa W → (∃ u, W.cell? ⟨gl, k, none⟩ = some (.int .i64 u)) ∧ W.frozen? ⟨gl, k, none⟩ = false) := Lib.hid fun W hW => ⟨⟨_, (rowIs_below HRow.out hW).cell hlt⟩, (rowIs_below HRow.out hW).frozen k⟩
      obtain ⟨r, hr⟩ : ∃ x, L.getD k (0, []) = x := ⟨_, rfl⟩
      rw [hr] at h0 h1 h2 hst
      clear hr h4
      obtain ⟨cp, ml⟩ := r
      simp only at h0 h1 h2 hst
      obtain ⟨n1, hn1⟩ : ∃ x, ml.length = x := ⟨_, rfl⟩
      rw [hn1] at h1 h2
      clear hn1
      go_upto_region 7 with fail
      all_goals (try (exfalso; omega))
      refine nameW ?_
      intro wc hwc
      have hbc : Below wa.heap.size wa wc := by rw [← hwc]; exact bel_alloc (Below.refl _ _) _
      have e0 : wc.cell? ⟨wa.heap.size, 0, none⟩ = some (.int .i64 cp) := by rw [← hwc]; simp
      obtain ⟨⟨u, cg⟩, fg⟩ := hcg.out wc hbc
      obtain ⟨hf1, hf2⟩ := hst.out wc hbc
      have HF1 := Lib.hid hf1
      have HF2 := Lib.hid hf2
      have cl' := old_at cl hbc
      clear hwc hbc h0 h1 hf1 hf2 cl
      go_wp2_with fail
      all_goals (try (exfalso; omega))
      go_roundw
      case rel => exact ⟨k + 1, by omega, by go_num, HF1.out, HF2.out⟩
      case measure => simp [intOf] <;> omega
    · obtain rfl : R = k := by omega
      have hs6 := HEx.out.size
      have cm6 := HEx.out.cell (HCM.out W5 HM5.out) (show ¬ ((fun k => k = gl) (⟨bm, 0, none⟩ : Addr).block) by simp; omega)
      go_upto_region 10 with (go_at_call 81; with_reducible refine (HRO.out _ HBa.out).mono ?_; rintro e w7 ⟨rfl, hfam, hb7⟩)
      all_goals (try (exfalso; omega))
      obtain ⟨gi, hgi⟩ : ∃ x, wa.heap.size = x := ⟨_, rfl⟩
      obtain ⟨bi, hbi⟩ : ∃ x, w7.heap.size = x := ⟨_, rfl⟩
      have hq1 : gl + 2 ≤ gi := by have := HS5.out; omega
      have hq2 : gi < bi := by
        obtain ⟨V, _, h2⟩ := hfam
        have := h2.lt
        omega
      have hbx : Below wa.heap.size wa w7 := hb7
      refine nameW ?_
      intro W8 hW8
      have hb8 : Below w7.heap.size w7 W8 := by rw [← hW8]; exact bel_alloc (Below.refl _ _) _
      have hb68 : Below wa.heap.size wa W8 := HT.out hb7 hb8
      have HB8 : Hid (Below w.heap.size w W8) := Lib.hid (HT.out HBa.out hb68)
      have HCI : Hid (W8.cell? ⟨bi, 0, none⟩ = some (.slice (some ⟨gi, 0, none⟩) n n)) := Lib.hid (by rw [← hW8, ← hbi, ← hgi]; simp)
      have HS8 : Hid (W8.heap.size = bi + 1) := Lib.hid (by rw [← hW8, World.size_alloc, hbi])
      have hlw : ∀ m, m < n → LW w7 (fun k => k < gi ∨ bi ≤ k) ⟨gi, m, none⟩ (inL (prs L R) m) := fun m hm => by
        have h9 := hfam
        rw [hgi] at h9
        exact h9.lw hm (fun b h1 h2 h3 => by omega)
      have HLW : Hid (∀ m, m < n → LW W8 (fun k => k < gi ∨ bi ≤ k) ⟨gi, m, none⟩ (inL (prs L R) m)) := Lib.hid fun m hm => (hlw m hm).exc (Exc.of_below hb8) (by simp; omega)
      have HRL8 : Hid (W8.rowIs gl 3 R (fun i => .int .i64 (L.getD i (0, [])).1)) := Lib.hid ((rowIs_below HRow.out hb68).congr fun i hi => by rw [if_pos hi])
      have HCL8 : Hid (W8.cell? ⟨gl + 1, 0, none⟩ = some (.slice (some ⟨gl, 0, none⟩) R R)) := Lib.hid (old_at cl hb68)
      have cm8 := old_at cm6 hb68
      have HCM8 := Lib.hid cm8
      try simp only [hgi, hbi]
      clear hW8 hb8 hb68 hlw hfam hb7 hbx cl cm6 hgi HRow HEx HI5 HL5 HS5 HB5 HM5 HB1 HB2 HB4 HM4 HCM HB00 HRO HV HO
      have hs8 := HS8.out
      go_upto_region 13 with fail
      refine nameW ?_
      intro W9 hW9
      have hb9 : Below W8.heap.size W8 W9 := by rw [← hW9]; exact bel_alloc (bel_alloc (bel_alloc (Below.refl _ _) _) _) _
      have HX9 : Hid (W9.rowIs (bi + 1) 3 n (fun _ => .int .i64 0)) := Lib.hid (by
        have h := ((World.rowIs_made W8 (.int .i64 0) n 3).alloc (.cells #[.slice (some ⟨W8.heap.size, 0, none⟩) n n] 46)).alloc (.cells (madeCells #[.int .i64 0] n) 3)
        rw [HS8.out] at h
        rw [← hW9]
        simpa [HS8.out] using h)
      have HC9 : Hid (W9.cell? ⟨bi + 2, 0, none⟩ = some (.slice (some ⟨bi + 1, 0, none⟩) n n)) := Lib.hid (by
        have h8 := HS8.out
        rw [← hW9, under (by simp [h8]), newest (by simp [h8])]
        simp [h8])
      have HR9 : Hid (W9.rowIs (bi + 3) 3 n (fun _ => .int .i64 0)) := Lib.hid (by
        have h := World.rowIs_made ((W8.alloc (.cells (madeCells #[.int .i64 0] n) 3)).alloc (.cells #[.slice (some ⟨W8.heap.size, 0, none⟩) n n] 46)) (.int .i64 0) n 3
        rw [World.size_alloc, World.size_alloc, HS8.out] at h
        rw [← hW9]
        simpa [HS8.out] using h)
      clear hs8
      have hs9 : W9.heap.size = bi + 4 := by rw [← hW9, World.size_alloc, World.size_alloc, World.size_alloc, HS8.out]
      have HB9 : Hid (Below w.heap.size w W9) := Lib.hid (HT.out HB8.out hb9)
      obtain ⟨W10, hcp, hr10, hx10⟩ := copy_run 3 (bi + 3) n e _ C z W9 HR9.out (HC.out.keep HB9.out)
      obtain ⟨p, hp⟩ : ∃ p : FP, p = { bx := bi + 2, bm := bm, bi := bi, bl := gl + 1, gx := bi + 1, gl := gl, gr := bi + 3, gi := gi, n := n, R := R, B := B, d := d, P := prs L R, top := top } := ⟨_, rfl⟩
      have HSEP : Hid p.Sep := Lib.hid (by
        rw [hp]
        refine ⟨show bi + 1 ≠ gl by omega, show bi + 1 ≠ bi + 3 by omega, show gl ≠ bi + 3 by omega, by simp [FP.W]; omega, by simp [FP.W]; omega, by simp [FP.W]; omega, by simp [FP.W]; omega, by simp [FP.W]; omega, fun h0 b o eB => ?_, fun m hm => ⟨HRR.out m hm, ?_⟩, by exact hn, by exact hL⟩
        · obtain ⟨b', o', e', hl', _⟩ := HZ.out 0 h0
          rw [e'] at eB
          cases eB
          simp [FP.W]
          omega
        · have h1 := inL_len (prs L R) m
          have h2 := prs_len L (fun i hi => (HP.out i (by rw [← HRL.out]; exact hi)).len) R (by rw [HRL.out]; exact Nat.le_refl _)
          simp only
          omega)
      have hE10 : Exc p.W W9 W10 := hx10.mono fun k hk => by rw [hp]; exact .inr (.inr hk)
      have h89 : Exc p.W W8 W10 := (Exc.of_below hb9).trans hE10
      have HFS0 : Hid (FLx p (fun i => (L.getD i (0, [])).1) (fun _ => 0) W10) := Lib.hid (by
        have hE := hE10
        have h8 := h89
        have hz' := HZ.out.keep HB8.out
        have hsep := HSEP.out
        rw [hp] at hE h8 hsep ⊢
        refine ⟨hE.cell HC9.out hsep.bx, h8.cell HCM8.out hsep.bm, h8.cell HCI.out hsep.bi, h8.cell HCL8.out hsep.bl, fun i hi => h8.rz hz' (hsep.b (by exact Nat.lt_of_le_of_lt (Nat.zero_le _) hi)) i hi, fun m hm => ?_, ?_, ?_⟩
        · obtain ⟨A', c', a1, a2, a3, a4⟩ := HLW.out m hm
          have hW' : ∀ b o, A' = some ⟨b, o, none⟩ → ¬ (b = bi + 1 ∨ b = gl ∨ b = bi + 3) := fun b o eA hw => a4 b o eA (by omega)
          exact ⟨A', c', h8.cell a1 hsep.gi, a2, h8.rz a3 hW', hW'⟩
        · exact hx10.row (rowIs_below HRL8.out hb9) (show ¬ gl = bi + 3 by omega)
        · exact hx10.row HX9.out (show ¬ bi + 1 = bi + 3 by omega))
      have HGR0 : Hid (GR p.gr p.n (natL z n) (natL z n) (natL z n).length W10) := Lib.hid (by
        rw [hp]
        refine ⟨_, hr10, fun i hi => ?_, fun i hi hj => by omega⟩
        rw [natL_len] at hi
        rw [natL_get z n i hi]
        have := (HOO.out.2 i hi).1
        simp only [Int.toNat_of_nonneg this.1])
      have HB10 : Hid (Below w.heap.size w W10) := Lib.hid (hx10.to_below HB9.out HB9.out.size (fun k hk => by omega))
      have HGD0 : Hid (Gd p.R p.n p.top (fun i => (L.getD i (0, [])).1) (fun _ => 0)) := Lib.hid (by
        rw [hp]
        exact ⟨fun i hi => (HP.out i hi).cap, fun m hm => ⟨by omega, (HBD.out m hm).1⟩⟩)
      have HALLN : Hid ((∀ m ∈ natL z n, m < p.n) ∧ (natL z n).length ≤ p.n) := Lib.hid (by
        rw [hp, natL_len]
        refine ⟨fun m hm => ?_, Nat.le_refl _⟩
        obtain ⟨i, hi, rfl⟩ := List.mem_map.1 hm
        have hi' := List.mem_range.1 hi
        have := (HOO.out.2 i hi').1
        show _ < n
        omega)
      have HTOP : Hid (∀ m, m < n → 0 ≤ p.top m ∧ p.top m ≤ 80) := Lib.hid (by rw [hp]; exact HBD.out)
      have HNP : Hid (∀ m, m < p.n → (inL p.P m).Nodup ∧ ∀ i ∈ inL p.P m, i < p.R) := Lib.hid (by rw [hp]; exact fun m hm => ⟨HNN.out m hm, HRR.out m hm⟩)
      have HRY : Hid (∀ W lf x m, FLx p lf x W → m < n → Gd p.R p.n p.top lf x → mayB p.top x lf (inL p.P m) m = true → Calls Try.prog 82 #[.int .i64 ((m : Nat) : Int), .pointer (some ⟨bi + 2, 0, none⟩), .pointer (some ⟨bm, 0, none⟩), .pointer (some ⟨bi, 0, none⟩), .pointer (some ⟨gl + 1, 0, none⟩)] W
          fun e w' => e = .returned (.bool true) ∧ Exc p.V W w' ∧ FLx p (dec (inL p.P m) lf) (fun j => if j = m then x m + 1 else x j) w') := Lib.hid fun W lf x m hF hm hG hy => by
        obtain ⟨y1, y2⟩ := mayB_iff.1 hy
        have hmn : m < p.n := by rw [hp]; exact hm
        have := rises_yes p lf x m W HSEP.out hF hmn y1 y2 hG.lf ⟨(hG.x m hmn).1, by have h1 := (hG.x m hmn).2; have h2 := (HTOP.out m hm).2; omega⟩
        rw [hp] at this ⊢
        exact this
      have HRN : Hid (∀ W lf x m, FLx p lf x W → m < n → mayB p.top x lf (inL p.P m) m = false → Calls Try.prog 82 #[.int .i64 ((m : Nat) : Int), .pointer (some ⟨bi + 2, 0, none⟩), .pointer (some ⟨bm, 0, none⟩), .pointer (some ⟨bi, 0, none⟩), .pointer (some ⟨gl + 1, 0, none⟩)] W
          fun e w' => e = .returned (.bool false) ∧ Below W.heap.size W w') := Lib.hid fun W lf x m hF hm hy => by
        have hmn : m < p.n := by rw [hp]; exact hm
        have hy' : ¬ mayB p.top x lf (inL p.P m) m = true := by rw [hy]; simp
        by_cases y1 : x m = p.top m
        · have := rises_no1 p lf x m W HSEP.out hF hmn y1
          rw [hp] at this
          exact this
        · have := rises_no2 p lf x m W HSEP.out hF hmn y1 (fun h => hy' (mayB_iff.2 ⟨y1, h⟩))
          rw [hp] at this
          exact this
      have HPN : Hid (p.n = n ∧ p.gr = bi + 3 ∧ p.gx = bi + 1 ∧ p.bx = bi + 2) := Lib.hid (by rw [hp]; exact ⟨rfl, rfl, rfl, rfl⟩)
      have HPGL : Hid (p.gr ≠ p.gx ∧ p.gr ≠ p.gl ∧ w.heap.size ≤ p.gr ∧ w.heap.size ≤ p.gx ∧ w.heap.size ≤ p.gl) := Lib.hid (by rw [hp]; simp only; omega)
      have HX : Hid (∃ X, fairX L n top z = X ∧ frun p.P p.top (pot p.n p.top (fun _ => 0) + 1) (natL z n) (fun i => (L.getD i (0, [])).1) (fun _ => 0) = X) := Lib.hid ⟨fairX L n top z, rfl, by rw [hp]; unfold fairX; rw [HRL.out]⟩
      clear hp hr10 hx10 hE10 h89 hb9 hW9 cm8 HB8 HCI HS8 HLW HRL8 HCL8 HCM8 HX9 HC9 HR9 hs9 HB9 hmk2
      obtain ⟨X, hX1, hX2⟩ := HX.out
      have HX1 := Lib.hid hX1
      have HX2 := Lib.hid hX2
      clear hX1 hX2
      go_upto_region 14 with fail
      go_step3
      have hpn := HPN.out.1
      have HLV0 : Hid (LV p X w (pot p.n p.top (fun _ => 0) + 1) (natL z n) (fun i => (L.getD i (0, [])).1) (fun _ => 0) W10) := Lib.hid ⟨HGR0.out, HFS0.out, HGD0.out, HALLN.out, Nat.le_refl _, HX2.out, HB10.out⟩
      have hnl : (natL z n).length = n := natL_len z n
      have HNL := Lib.hid hnl
      clear hnl hpn hcp
      go_wp2_with fail
      go_loopg [14] (pot p.n p.top (fun _ => 0) + 1) (fun g v wr => ∃ rs lf x, v = .slice (some ⟨bi + 3, 0, none⟩) rs.length n ∧ LV p X w g rs lf x wr)
      case atStart => exact ⟨natL z n, _, _, by rw [HNL.out], HLV0.out⟩
      case round =>
        obtain ⟨rs, lf, x, rfl, hlv⟩ := hrel
        obtain ⟨wb, hwb⟩ : ∃ x, x = wr := ⟨_, rfl⟩
        subst hwb
        obtain ⟨hgr, hfs, hgd, ⟨hall, hlen⟩, hpot, hrun, hbel⟩ := hlv
        obtain ⟨r, hr⟩ : ∃ r, rs.length = r := ⟨_, rfl⟩
        have HLI0 : Hid (LI p w rs lf x 0 wb) := Lib.hid ⟨by rw [hr] at hgr; rw [← hr] at hgr; exact hgr.start, hfs, hbel⟩
        have HR := Lib.hid hr
        have HFSb := Lib.hid hfs
        have HGDb := Lib.hid hgd
        have HALLb := Lib.hid hall
        have HRUNb := Lib.hid hrun
        rw [hr] at hlen ⊢
        have hrn : r ≤ n := by have := HPN.out.1; omega
        have hnc : ¬ n = 0 ∨ n = 0 := by omega
        clear hr hgr hfs hgd hall hrun hbel hlen HLV0 HFS0 HGR0 HB10 HGD0 HALLN
        go_upto_region 16 with fail
        have hgr3 := HPN.out.2.1
        have hpnn := HPN.out.1
        have HKL : Hid ((fpass p.P p.top (rs.take 0) lf x).kept.length = 0) := Lib.hid (by simp [fpass])
        go_loopw [15, 63] (fun v i wr => ∃ j : Nat, j ≤ r ∧ i = .int .i64 j ∧ v = .slice (some ⟨bi + 3, 0, none⟩) (fpass p.P p.top (rs.take j) lf x).kept.length n ∧ LI p w rs lf x j wr) (fun _ i _ => r - (intOf i).toNat)
        case atStart => exact ⟨0, by omega, rfl, by rw [HKL.out], HLI0.out⟩
        case round =>
          obtain ⟨j, hj, rfl, rfl, hli⟩ := hrel
          obtain ⟨wc, hwc⟩ : ∃ x, x = wr := ⟨_, rfl⟩
          subst hwc
          have HLIc := Lib.hid hli
          obtain ⟨⟨f, f1, f2, f3⟩, g2, g3⟩ := hli
          by_cases hlj : j < r
          · have hjr : j < rs.length := by rw [HR.out]; exact hlj
            have cj := f1.cell (i := j) (by omega)
            rw [f3 j (Nat.le_refl _) hjr] at cj
            rw [hgr3] at cj
            have hmn : rs.getD j 0 < n := by rw [← hpnn]; exact HALLb.out _ (by simp [List.getD, hjr])
            have hkc := fpass_ok (P := p.P) (top := p.top) (fun m hm => (HNP.out m hm).1) (fun m hm => (HNP.out m hm).2) (rs.take j) lf x (fun m hm => HALLb.out m (List.mem_of_mem_take hm)) HGDb.out
            have hkl : (fpass p.P p.top (rs.take j) lf x).kept.length ≤ j := Nat.le_trans hkc.2.2.1 (List.length_take_le j rs)
            have hry := fun hy => HRY.out wc _ _ (rs.getD j 0) g2 hmn hkc.1 hy
            have hrn' := fun hy => HRN.out wc _ _ (rs.getD j 0) g2 hmn hy
            have hno := fun w' hy hb => HLIc.out.no (w' := w') HSEP.out hjr hy hb
            have hyes := fun w2 hy hE hF => HLIc.out.yes (w2 := w2) 46 HSEP.out hjr (by rw [hpnn, HR.out]; exact hrn) ⟨HPGL.out.2.2.1, HPGL.out.2.2.2.1, HPGL.out.2.2.2.2⟩ HNP.out HALLb.out HGDb.out hy hE hF
            obtain ⟨m, hm⟩ : ∃ m, rs.getD j 0 = m := ⟨_, rfl⟩
            obtain ⟨q, hq⟩ : ∃ q, (fpass p.P p.top (rs.take j) lf x).kept.length = q := ⟨_, rfl⟩
            simp only [hm, hq, hgr3, hpnn] at cj hry hrn' hno hyes hkl hmn
            have HRYc := Lib.hid hry
            have HRNc := Lib.hid hrn'
            have HNO := Lib.hid hno
            have HYES := Lib.hid hyes
            rw [hq]
            obtain ⟨b, hb⟩ : ∃ b, mayB p.top (fpass p.P p.top (rs.take j) lf x).x (fpass p.P p.top (rs.take j) lf x).lf (inL p.P m) m = b := ⟨_, rfl⟩
            rw [hb] at HRYc HRNc HNO HYES
            clear hm hq hry hrn' hno hyes hkc f1 f2 f3 g2 g3 hb hgr3 hpnn
            cases b
            · go_wp2_with (go_at_call 82; with_reducible refine (HRNc.out rfl).mono ?_; rintro e w2 ⟨rfl, hb2⟩)
              all_goals (try (exfalso; omega))
              obtain ⟨k1, k2⟩ := HNO.out w2 (by simp) hb2
              go_roundw
              case rel => exact ⟨j + 1, by omega, by go_num, by rw [k1], k2⟩
              case measure => simp [intOf] <;> omega
            · go_upto_region 19 with (go_at_call 82; with_reducible refine (HRYc.out rfl).mono ?_; rintro e w2 ⟨rfl, hE2, hF2⟩)
              all_goals (try (exfalso; omega))
              obtain ⟨k1, w3, hrun3, k2⟩ := HYES.out w2 (by simp) hE2 hF2
              have K1 := Lib.hid k1
              have K2 := Lib.hid k2
              clear k1 k2 hE2 hF2 cj
              go_wp2_with fail
              all_goals (try (exfalso; omega))
              go_roundw
              case rel => exact ⟨j + 1, by omega, by go_num, by rw [K1.out], K2.out⟩
              case measure => simp [intOf] <;> omega
          · obtain rfl : r = j := by omega
            have htk : rs.take r = rs := by rw [← HR.out, List.take_length]
            have hkc := fpass_ok (P := p.P) (top := p.top) (fun m hm => (HNP.out m hm).1) (fun m hm => (HNP.out m hm).2) rs lf x HALLb.out HGDb.out
            have hgs : GR p.gr p.n (fpass p.P p.top (rs.take r) lf x).kept rs r wc := ⟨f, f1, f2, f3⟩
            rw [htk] at hgs g2 ⊢
            obtain ⟨g', rfl⟩ : ∃ g', gk = g' + 1 := ⟨gk - 1, by omega⟩
            have hru := HRUNb.out
            unfold frun at hru
            obtain ⟨st, hst⟩ : ∃ st, fpass p.P p.top rs lf x = st := ⟨_, rfl⟩
            rw [hst] at hgs g2 hkc hru ⊢
            have HG2 := Lib.hid g2
            have HGS := Lib.hid hgs
            have HKC := Lib.hid hkc
            have HRU := Lib.hid hru
            have HB3 := Lib.hid g3
            have hcx := g2.cx
            rw [HPN.out.2.2.2, HPN.out.2.2.1, hpnn] at hcx
            clear f1 f2 f3 g2 g3 hst hgs hkc hru htk
            by_cases h0 : st.kept.length = 0
            · have hX : Hid (st.x = X) := Lib.hid (by have := HRU.out; rwa [if_pos h0] at this)
              go_wp2_with fail
              all_goals (try (exfalso; omega))
              all_goals (try rw [Exit.noGoto_ret])
              go_ret2
              refine ⟨⟨bi + 1, rfl, ?_⟩, HB3.out⟩
              have h1 := HG2.out.rx
              rw [HPN.out.2.2.1, HPN.out.1, hX.out, ← HX1.out] at h1
              exact h1
            · have hrec : Hid (frun p.P p.top g' st.kept st.lf st.x = X) := Lib.hid (by have := HRU.out; rwa [if_neg h0] at this)
              have hkl : Hid ((∀ m ∈ st.kept, m < p.n) ∧ st.kept.length ≤ p.n) := Lib.hid ⟨fun m hm => HALLb.out m (HKC.out.2.2.2 m hm), by have := HKC.out.2.2.1; have := HR.out; have := HPN.out.1; omega⟩
              go_wp2_with fail
              all_goals (try (exfalso; omega))
              go_roundg g'
              case measure => omega
              case rel => exact ⟨st.kept, st.lf, st.x, rfl, HGS.out.stop, HG2.out, HKC.out.1, hkl.out, by have := HKC.out.2.1; omega, hrec.out, HB3.out⟩
end Go.Proofs.Ytkhmlbkkdflnoaa.Nm
