/-
  package fair: whether a member rises (Share's closure).
-/
import Derived.Test.YtkhmlbkkdflnoaaOf
import Derived.Test.YtkhmlbkkdflnoaaFval
import Derived.BigQuiet
namespace Go.Proofs.Ytkhmlbkkdflnoaa.Nm
open Go.RowKit Go.Proofs.Ytkhmlbkkdflnoaa Go
set_option linter.unusedVariables false
attribute [local go_sem ↓] Go.wp_at_zero Go.wp_at_succ

theorem rev_ind {P : List Nat → Prop} (h0 : P []) (h1 : ∀ pre x, P pre → P (pre ++ [x])) (l : List Nat) : P l := by
  have h : ∀ l : List Nat, P l.reverse := by
    intro l
    induction l with
    | nil => simpa using h0
    | cons x l ih => simpa using h1 _ x ih
  simpa using h l.reverse
/-- one less, at each place of a list -/
def dec (l : List Nat) (f : Nat → Int) : Nat → Int := l.foldl (fun g i j => if j = i then g i - 1 else g j) f
theorem dec_snoc (l : List Nat) (i : Nat) (f : Nat → Int) : dec (l ++ [i]) f = fun j => if j = i then dec l f i - 1 else dec l f j := by
  unfold dec
  rw [List.foldl_append]
  rfl
theorem dec_bd (l : List Nat) (f : Nat → Int) : ∀ j, f j - l.length ≤ dec l f j ∧ dec l f j ≤ f j := by
  induction l using rev_ind with
  | h0 => intro j; simp [dec]
  | h1 pre x ih =>
    intro j
    have h1 := ih j
    rw [dec_snoc]
    simp only [List.length_append, List.length_cons, List.length_nil]
    by_cases h : j = x
    · subst h; simp; omega
    · simp [h]; omega
/-- a list that may be read while the blocks of W are written -/
def LW (w : World) (W : Nat → Prop) (q : Addr) (l : List Nat) : Prop := ∃ A c, w.cell? q = some (.slice A l.length c) ∧ (l.length ≤ c ∧ c ≤ 9223372036854775807) ∧ RZ w A l.length (fun i => ((l.getD i 0 : Nat) : Int)) ∧ ∀ b o, A = some ⟨b, o, none⟩ → ¬ W b
theorem LW.exc {w w' : World} {W : Nat → Prop} {q : Addr} {l : List Nat} (h : LW w W q l) (he : Exc W w w') (hq : ¬ W q.block) : LW w' W q l := by
  obtain ⟨A, c, h1, h2, h3, h4⟩ := h
  exact ⟨A, c, he.cell h1 hq, h2, he.rz h3 h4, h4⟩
/-- may member m rise? -/
def mayB (top x lf : Nat → Int) (l : List Nat) (m : Nat) : Bool := decide (¬ x m = top m) && l.all fun i => decide (¬ lf i = 0)
/-- what the closure works with -/
structure FP where
  bx : Nat
  bm : Nat
  bi : Nat
  bl : Nat
  gx : Nat
  gl : Nat
  gr : Nat
  gi : Nat
  n : Nat
  R : Nat
  B : Option Addr
  d : Nat
  P : List (Nat × Nat)
  top : Nat → Int
def FP.W (p : FP) (k : Nat) : Prop := k = p.gx ∨ k = p.gl ∨ k = p.gr
def FP.V (p : FP) (k : Nat) : Prop := k = p.gx ∨ k = p.gl
theorem FP.vw (p : FP) : ∀ k, p.V k → p.W k := fun k h => h.elim .inl (fun e => .inr (.inl e))
structure FP.Sep (p : FP) : Prop where
  xl : p.gx ≠ p.gl
  xr : p.gx ≠ p.gr
  lr : p.gl ≠ p.gr
  bx : ¬ p.W p.bx
  bm : ¬ p.W p.bm
  bi : ¬ p.W p.bi
  bl : ¬ p.W p.bl
  gi : ¬ p.W p.gi
  b : 0 < p.n → ∀ b o, p.B = some ⟨b, o, none⟩ → ¬ p.W b
  lt : ∀ m, m < p.n → (∀ i ∈ inL p.P m, i < p.R) ∧ (inL p.P m).length ≤ 1000
  n : p.n ≤ 16 ∧ p.R ≤ 48
structure FLx (p : FP) (lf x : Nat → Int) (w : World) : Prop where
  cx : w.cell? ⟨p.bx, 0, none⟩ = some (.slice (some ⟨p.gx, 0, none⟩) p.n p.n)
  cm : w.cell? ⟨p.bm, 0, none⟩ = some (.slice p.B p.n p.d)
  ci : w.cell? ⟨p.bi, 0, none⟩ = some (.slice (some ⟨p.gi, 0, none⟩) p.n p.n)
  cl : w.cell? ⟨p.bl, 0, none⟩ = some (.slice (some ⟨p.gl, 0, none⟩) p.R p.R)
  rt : RZ w p.B p.n p.top
  rows : ∀ m, m < p.n → LW w p.W ⟨p.gi, m, none⟩ (inL p.P m)
  rl : w.rowIs p.gl 3 p.R (fun i => .int .i64 (lf i))
  rx : w.rowIs p.gx 3 p.n (fun i => .int .i64 (x i))
theorem FLx.exc {p : FP} {lf x lf' x' : Nat → Int} {w w' : World} (h : FLx p lf x w) (hs : p.Sep) (he : Exc p.W w w') (rl : w'.rowIs p.gl 3 p.R (fun i => .int .i64 (lf' i))) (rx : w'.rowIs p.gx 3 p.n (fun i => .int .i64 (x' i))) : FLx p lf' x' w' :=
  ⟨he.cell h.cx hs.bx, he.cell h.cm hs.bm, he.cell h.ci hs.bi, he.cell h.cl hs.bl, fun i hi => he.rz h.rt (hs.b (by omega)) i hi, fun m hm => (h.rows m hm).exc he hs.gi, rl, rx⟩
theorem FLx.keep {p : FP} {lf x : Nat → Int} {w w' : World} (h : FLx p lf x w) (hs : p.Sep) (hb : Below w.heap.size w w') : FLx p lf x w' := h.exc hs (Exc.of_below hb) (rowIs_below h.rl hb) (rowIs_below h.rx hb)
theorem bel_drewN {w : World} (n : Nat) : Below w.heap.size w (w.drewN n) := below_drewN (Below.refl _ _) n
set_option maxRecDepth 100000 in
set_option maxHeartbeats 4000000 in
theorem rises_no1 (p : FP) (lf x : Nat → Int) (m : Nat) (w : World) (hs : p.Sep) (h : FLx p lf x w) (hm : m < p.n) (he : x m = p.top m) :
    Calls Try.prog 82 #[.int .i64 (m : Int), .pointer (some ⟨p.bx, 0, none⟩), .pointer (some ⟨p.bm, 0, none⟩), .pointer (some ⟨p.bi, 0, none⟩), .pointer (some ⟨p.bl, 0, none⟩)] w
      fun e w' => e = .returned (.bool false) ∧ Below w.heap.size w w' := by
  obtain ⟨b, o, hB, hl, ct⟩ := h.rt m hm
  have cx := h.cx
  have cm := h.cm
  have xm := h.rx.cell hm
  simp only [he] at xm
  rw [hB] at cm
  obtain ⟨n, hn⟩ : ∃ n, p.n = n := ⟨_, rfl⟩
  rw [hn] at cx cm hm
  clear hB hn h hs he
  go_enter Try.func82, Try.ntmps82
  go_wp2_with fail
  go_quiet (fail)
  go_wp2_with fail
  all_goals (try (exfalso; omega))
  go_ret
  exact ⟨rfl, bel_drewN _⟩
set_option maxRecDepth 100000 in
set_option maxHeartbeats 4000000 in
/-- it may not rise: a row is full -/
theorem rises_no2 (p : FP) (lf x : Nat → Int) (m : Nat) (w : World) (hs : p.Sep) (h : FLx p lf x w) (hm : m < p.n) (he : ¬ x m = p.top m) (hf : ¬ ∀ i ∈ inL p.P m, ¬ lf i = 0) :
    Calls Try.prog 82 #[.int .i64 (m : Int), .pointer (some ⟨p.bx, 0, none⟩), .pointer (some ⟨p.bm, 0, none⟩), .pointer (some ⟨p.bi, 0, none⟩), .pointer (some ⟨p.bl, 0, none⟩)] w
      fun e w' => e = .returned (.bool false) ∧ Below w.heap.size w w' := by
  obtain ⟨b, o, hB, hl, ct⟩ := h.rt m hm
  have cx := h.cx
  have cm := h.cm
  have ci := h.ci
  have xm := h.rx.cell hm
  have hlt := (hs.lt m hm).1
  have hR48 := hs.n.2
  rw [hB] at cm
  obtain ⟨A, c, hcr, hlc, hrz, hW⟩ := h.rows m hm
  have HCL : Hid (∀ W, Below w.heap.size w W → W.cell? ⟨p.bl, 0, none⟩ = some (.slice (some ⟨p.gl, 0, none⟩) p.R p.R) ∧ ∀ i, i < p.R → W.cell? ⟨p.gl, i, none⟩ = some (.int .i64 (lf i))) := Lib.hid fun W hb => ⟨old_at h.cl hb, fun i hi => (rowIs_below h.rl hb).cell hi⟩
  obtain ⟨n, hn⟩ : ∃ n, p.n = n := ⟨_, rfl⟩
  obtain ⟨R, hRR⟩ : ∃ R, p.R = R := ⟨_, rfl⟩
  rw [hRR] at HCL hlt hR48
  rw [hn] at cx cm ci hm
  obtain ⟨l, hl'⟩ : ∃ l, inL p.P m = l := ⟨_, rfl⟩
  rw [hl'] at hcr hlc hrz hf hlt
  obtain ⟨ln, hln⟩ : ∃ ln, l.length = ln := ⟨_, rfl⟩
  have HF := Lib.hid hf
  have HLT : Hid (∀ k, k < ln → l.getD k 0 ∈ l) := Lib.hid fun k hk => by rw [← hln] at hk; simp [List.getD, hk]
  have HALL : Hid (∀ k, k = ln → (∀ j, j < k → ¬ lf (l.getD j 0) = 0) → False) := Lib.hid fun k hk hj => hf fun i hi => by
    obtain ⟨j, hj1, rfl⟩ := List.getElem_of_mem hi
    have := hj j (by omega)
    simpa [List.getD, hj1] using this
  have HLR := Lib.hid hlt
  rw [hln] at hcr hlc hrz
  have HRZ := Lib.hid hrz
  clear hB hn h hs hrz hf hW hl' hln hlt hRR
  go_enter Try.func82, Try.ntmps82
  go_wp2_with fail
  go_quiet (fail)
  go_upto_region 4 with fail
  all_goals (try (exfalso; omega))
  refine nameW ?_
  intro W0 hW0
  have HB0 : Hid (Below w.heap.size w W0) := Lib.hid (by rw [← hW0]; exact bel_drewN _)
  clear hW0
  go_loopw [25] (fun i wr => ∃ k : Nat, k ≤ ln ∧ i = .int .i64 k ∧ (∀ j, j < k → ¬ lf (l.getD j 0) = 0) ∧ W0 = wr) (fun i _ => ln - (intOf i).toNat)
  case atStart => exact ⟨0, by omega, rfl, fun j h => absurd h (by omega), rfl⟩
  case round =>
    obtain ⟨k, hk, rfl, hall, rfl⟩ := hrel
    have HA := Lib.hid hall
    clear hall
    by_cases hlk : k < ln
    · obtain ⟨b', o', rfl, hl', hc⟩ := (HRZ.out.keep HB0.out) k hlk
      obtain ⟨i, hi⟩ : ∃ x, l.getD k 0 = x := ⟨_, rfl⟩
      have hc' : W0.cell? ⟨b', o' + k, none⟩ = some (.int .i64 ((i : Nat) : Int)) := by rw [hc, ← hi]
      have hiR : i < R := by rw [← hi]; exact HLR.out _ (HLT.out k hlk)
      have HI := Lib.hid hi
      obtain ⟨cl, ck⟩ := HCL.out W0 HB0.out
      have ci' := ck i hiR
      clear hc hi ck cx cm ci xm ct hcr
      by_cases hz : lf i = 0
      · go_wp2_with fail
        all_goals (try (exfalso; omega))
        go_ret
        exact ⟨rfl, HB0.out⟩
      · go_wp2_with fail
        all_goals (try (exfalso; omega))
        go_roundw
        case rel => exact ⟨k + 1, by omega, by go_num, all_snoc HA.out (by rw [HI.out]; exact hz), by simp⟩
        case measure => simp [intOf] <;> omega
    · exact (HALL.out k (by omega) HA.out).elim
theorem take_one (l : List Nat) (k : Nat) (h : k < l.length) : l.take (k + 1) = l.take k ++ [l.getD k 0] := by
  have e : l.getD k 0 = l[k] := by simp [List.getD, h]
  rw [List.take_add_one, List.getElem?_eq_getElem h, e]
  rfl
set_option maxRecDepth 100000 in
set_option maxHeartbeats 8000000 in
/-- it rises -/
theorem rises_yes (p : FP) (lf x : Nat → Int) (m : Nat) (w : World) (hs : p.Sep) (h : FLx p lf x w) (hm : m < p.n) (he : ¬ x m = p.top m) (hf : ∀ i ∈ inL p.P m, ¬ lf i = 0) (hb : ∀ i, i < p.R → 0 ≤ lf i ∧ lf i ≤ 1000) (hx : 0 ≤ x m ∧ x m ≤ 1000) :
    Calls Try.prog 82 #[.int .i64 (m : Int), .pointer (some ⟨p.bx, 0, none⟩), .pointer (some ⟨p.bm, 0, none⟩), .pointer (some ⟨p.bi, 0, none⟩), .pointer (some ⟨p.bl, 0, none⟩)] w
      fun e w' => e = .returned (.bool true) ∧ Exc p.V w w' ∧ FLx p (dec (inL p.P m) lf) (fun j => if j = m then x m + 1 else x j) w' := by
  obtain ⟨b, o, hB, hl, ct⟩ := h.rt m hm
  obtain ⟨hlt, hl1000⟩ := hs.lt m hm
  have hR48 := hs.n.2
  have hn16 := hs.n.1
  obtain ⟨A, c, hcr, hlc, hrz, hW⟩ := h.rows m hm
  obtain ⟨l, hl'⟩ : ∃ l, inL p.P m = l := ⟨_, rfl⟩
  rw [hl'] at hcr hlc hrz hf hlt hl1000 ⊢
  have HS := Lib.hid hs
  have HFS := Lib.hid h
  have HBD := Lib.hid hb
  have HRZ : Hid (∀ W, Exc p.V w W → RZ W A l.length (fun i => ((l.getD i 0 : Nat) : Int))) := Lib.hid fun W hE => (hE.mono p.vw).rz hrz hW
  have HCR : Hid (∀ W, Exc p.V w W → W.cell? ⟨p.gi, m, none⟩ = some (.slice A l.length c)) := Lib.hid fun W hE => (hE.mono p.vw).cell hcr hs.gi
  have HFIN : Hid (∀ W, Exc p.V w W → FLx p (dec l lf) x W → Exc p.V w (W.setCell ⟨p.gx, m, none⟩ (.int .i64 (x m + 1))) ∧ FLx p (dec l lf) (fun j => if j = m then x m + 1 else x j) (W.setCell ⟨p.gx, m, none⟩ (.int .i64 (x m + 1)))) := Lib.hid fun W hE hF => by
    have hE1 : Exc p.V W (W.setCell ⟨p.gx, m, none⟩ (.int .i64 (x m + 1))) := (Exc.refl _).set (p := ⟨p.gx, m, none⟩) (.inl rfl) _
    refine ⟨hE.trans hE1, hF.exc hs (hE1.mono p.vw) (hF.rl.setOther (by simpa using fun e => hs.xl e.symm) _) ((hF.rx.set m _).congr fun i hi => ?_)⟩
    by_cases e : i = m
    · simp [e]
    · simp [e]
  have HDEC : Hid (∀ W k i, k < l.length → l.getD k 0 = i → FLx p (dec (l.take k) lf) x W → FLx p (dec (l.take (k + 1)) lf) x (W.setCell ⟨p.gl, i, none⟩ (.int .i64 (dec (l.take k) lf i - 1))) ∧ Exc p.V W (W.setCell ⟨p.gl, i, none⟩ (.int .i64 (dec (l.take k) lf i - 1)))) := Lib.hid fun W k i hk hi hF => by
    have hE1 : Exc p.V W (W.setCell ⟨p.gl, i, none⟩ (.int .i64 (dec (l.take k) lf i - 1))) := (Exc.refl _).set (p := ⟨p.gl, i, none⟩) (.inr rfl) _
    refine ⟨hF.exc hs (hE1.mono p.vw) ((hF.rl.set i _).congr fun j hj => ?_) (hF.rx.setOther (by simpa using hs.xl) _), hE1⟩
    rw [take_one l k hk, hi, dec_snoc]
    by_cases e : j = i
    · simp [e]
    · simp [e]
  have HUB : Hid (∀ k i, k < l.length → l.getD k 0 = i → i < p.R ∧ -1000 ≤ dec (l.take k) lf i ∧ dec (l.take k) lf i ≤ 1000 ∧ ¬ lf i = 0) := Lib.hid fun k i hk hi => by
    have hmem : l.getD k 0 ∈ l := by simp [List.getD, hk]
    rw [hi] at hmem
    have h1 := hlt i hmem
    have h2 := hb i h1
    have h3 := dec_bd (l.take k) lf i
    have h4 := List.length_take_le k l
    have h5 := List.length_take_le' k l
    exact ⟨h1, by omega, by omega, hf i hmem⟩
  have HC : Hid (∀ W lf', FLx p lf' x W → W.cell? ⟨p.bx, 0, none⟩ = some (.slice (some ⟨p.gx, 0, none⟩) p.n p.n) ∧ W.cell? ⟨p.bi, 0, none⟩ = some (.slice (some ⟨p.gi, 0, none⟩) p.n p.n) ∧ W.cell? ⟨p.bl, 0, none⟩ = some (.slice (some ⟨p.gl, 0, none⟩) p.R p.R) ∧ (W.cell? ⟨p.gx, m, none⟩ = some (.int .i64 (x m)) ∧ W.frozen? ⟨p.gx, m, none⟩ = false) ∧ ∀ i, i < p.R → W.cell? ⟨p.gl, i, none⟩ = some (.int .i64 (lf' i)) ∧ W.frozen? ⟨p.gl, i, none⟩ = false) := Lib.hid fun W lf' hF =>
    ⟨hF.cx, hF.ci, hF.cl, ⟨hF.rx.cell hm, hF.rx.frozen m⟩, fun i hi => ⟨hF.rl.cell hi, hF.rl.frozen i⟩⟩
  have HSTART : Hid (FLx p (dec (l.take 0) lf) x w) := Lib.hid (by simpa [dec] using h)
  have HEND : Hid (dec (l.take l.length) lf = dec l lf) := Lib.hid (by rw [List.take_length])
  have cx := h.cx
  have cm := h.cm
  have ci := h.ci
  have xm := h.rx.cell hm
  have hwx : IntKind.i64.wrap (x m + 1) = x m + 1 := IntWalk.i64_in _ (by omega)
  rw [hB] at cm
  obtain ⟨n, hn⟩ : ∃ n, p.n = n := ⟨_, rfl⟩
  obtain ⟨R, hRR⟩ : ∃ R, p.R = R := ⟨_, rfl⟩
  obtain ⟨ln, hln⟩ : ∃ ln, l.length = ln := ⟨_, rfl⟩
  rw [hRR] at HC HUB hR48
  rw [hn] at cx cm ci hm HC hn16
  rw [hln] at HRZ HCR HDEC HUB HEND hcr hl1000 hlc
  clear hB hn h hs hrz hf hW hl' hln hlt hRR hb
  go_enter Try.func82, Try.ntmps82
  go_wp2_with fail
  go_quiet (fail)
  go_upto_region 4 with fail
  all_goals (try (exfalso; omega))
  refine nameW ?_
  intro W0 hW0
  have hb0 : Below w.heap.size w W0 := by rw [← hW0]; exact bel_drewN _
  have HE0 : Hid (Exc p.V w W0) := Lib.hid (Exc.of_below hb0)
  have HF0 : Hid (FLx p (dec (l.take 0) lf) x W0) := Lib.hid (HSTART.out.keep HS.out hb0)
  clear hW0 hb0 cx cm ci xm ct hcr
  go_loopw [25] (fun i wr => ∃ k : Nat, k ≤ ln ∧ i = .int .i64 k ∧ W0 = wr) (fun i _ => ln - (intOf i).toNat)
  case atStart => exact ⟨0, by omega, rfl, rfl⟩
  case round =>
    obtain ⟨k, hk, rfl, rfl⟩ := hrel
    obtain ⟨cx, ci, cl, ⟨xm, xf⟩, ck⟩ := HC.out _ _ HF0.out
    by_cases hlk : k < ln
    · obtain ⟨b', o', rfl, hl', hc⟩ := (HRZ.out _ HE0.out) k hlk
      obtain ⟨i, hi⟩ : ∃ x, l.getD k 0 = x := ⟨_, rfl⟩
      have hc' : W0.cell? ⟨b', o' + k, none⟩ = some (.int .i64 ((i : Nat) : Int)) := by rw [hc, ← hi]
      obtain ⟨hiR, _, _, hz⟩ := HUB.out k i hlk hi
      have ci' := (ck i hiR).1
      have e0 : dec (l.take 0) lf i = lf i := by simp [dec]
      rw [e0] at ci'
      clear hc hi ck cx ci xm xf e0
      go_wp2_with fail
      all_goals (try (exfalso; omega))
      go_roundw
      case rel => exact ⟨k + 1, by omega, by go_num, by simp⟩
      case measure => simp [intOf] <;> omega
    · have hcr := HCR.out _ HE0.out
      go_wp2_with fail
      all_goals (try (exfalso; omega))
      clear ck cx ci xm xf cl hcr
      go_loopw [40] (fun i wr => ∃ k : Nat, k ≤ ln ∧ i = .int .i64 k ∧ Exc p.V w wr ∧ FLx p (dec (l.take k) lf) x wr) (fun i _ => ln - (intOf i).toNat)
      case atStart => exact ⟨0, by omega, rfl, HE0.out, HF0.out⟩
      case round =>
        obtain ⟨q, hq, rfl, hE, hF⟩ := hrel
        obtain ⟨wb, hwb⟩ : ∃ x, x = wr := ⟨_, rfl⟩
        subst hwb
        have HEb := Lib.hid hE
        have HFb := Lib.hid hF
        clear hE hF
        obtain ⟨cx, ci, cl, ⟨xm, xf⟩, ck⟩ := HC.out _ _ HFb.out
        by_cases hlq : q < ln
        · obtain ⟨b', o', rfl, hl', hc⟩ := (HRZ.out _ HEb.out) q hlq
          obtain ⟨i, hi⟩ : ∃ x, l.getD q 0 = x := ⟨_, rfl⟩
          have hc' : wb.cell? ⟨b', o' + q, none⟩ = some (.int .i64 ((i : Nat) : Int)) := by rw [hc, ← hi]
          obtain ⟨hiR, u1, u2, hz⟩ := HUB.out q i hlq hi
          obtain ⟨cg, fg⟩ := ck i hiR
          obtain ⟨hd1, hd2⟩ := HDEC.out wb q i hlq hi HFb.out
          have HD1 := Lib.hid hd1
          have HD2 := Lib.hid hd2
          obtain ⟨u, hu⟩ : ∃ u, dec (l.take q) lf i = u := ⟨_, rfl⟩
          rw [hu] at cg u1 u2 HD1 HD2
          have hwu : IntKind.i64.wrap (u - 1) = u - 1 := IntWalk.i64_in _ (by omega)
          clear hc hi ck cx ci xm xf hd1 hd2 hu hz
          go_wp2_with fail
          all_goals (try (exfalso; omega))
          go_roundw
          case rel => exact ⟨q + 1, by omega, by go_num, HEb.out.trans HD2.out, HD1.out⟩
          case measure => simp [intOf] <;> omega
        · obtain rfl : q = ln := by omega
          have hF := HFb.out
          rw [HEND.out] at hF
          obtain ⟨hf1, hf2⟩ := HFIN.out wb HEb.out hF
          have HF1 := Lib.hid hf1
          have HF2 := Lib.hid hf2
          clear ck ci cl hf1 hf2 hF
          go_wp2_with fail
          all_goals (try (exfalso; omega))
          go_ret
          exact ⟨rfl, HF1.out, HF2.out⟩
end Go.Proofs.Ytkhmlbkkdflnoaa.Nm
