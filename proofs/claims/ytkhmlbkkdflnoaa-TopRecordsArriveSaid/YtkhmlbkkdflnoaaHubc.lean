/-
  THE WALKS over package hub, third part: append of messages; duplicates.
-/
import Derived.Test.YtkhmlbkkdflnoaaHubb
import Derived.Test.YtkhmlbkkdflnoaaApp
import Derived.Test.YtkhmlbkkdflnoaaApnd
import Derived.Deep.RegionLawGrows
namespace Go.Proofs.Ytkhmlbkkdflnoaa.Hb
open Go.RowKit
open Rc (own_below)
set_option linter.unusedVariables false
set_option linter.unusedSimpArgs false
attribute [local go_sem ↓] Go.wp_at_zero Go.wp_at_succ

theorem infoMsg : (Try.prog.info? 69).map (fun i => (i.zero, i.size, i.bytes)) = some (some (.agg #[.int .i64 0, .int .i64 0, .int .i64 0]), 3, 24) := by kernel_rfl
theorem infoBox : (Try.prog.info? 123).map (fun i => (i.zero, i.size, i.bytes)) = some (some (.agg #[.int .i64 0, .int .i64 0, .slice none 0 0]), 3, 40) := by kernel_rfl
theorem tri_one (X : Nat → Nat → Int) : ∀ n, ∀ u ∈ tri X n, u.oneCell' = true := by
  intro n
  induction n with
  | zero => intro u hu; simp [tri] at hu
  | succ n ih =>
    intro u hu
    simp only [tri, List.mem_append] at hu
    rcases hu with h | h
    · exact ih u h
    · simp at h
      rcases h with rfl | rfl | rfl <;> rfl
theorem tri_congr {X Y : Nat → Nat → Int} : ∀ n, (∀ i, i < n → ∀ j, j < 3 → X i j = Y i j) → tri X n = tri Y n := by
  intro n
  induction n with
  | zero => intro _; rfl
  | succ n ih => intro h; simp only [tri]; rw [ih fun i hi => h i (by omega), h n (by omega) 0 (by omega), h n (by omega) 1 (by omega), h n (by omega) 2 (by omega)]
theorem tri_add (X : Nat → Nat → Int) (k : Nat) : ∀ q, tri X (k + q) = tri X k ++ tri (fun i => X (k + i)) q := by
  intro q
  induction q with
  | zero => simp [tri]
  | succ q ih =>
    show tri X (k + q) ++ _ = _
    rw [ih]
    simp only [tri, List.append_assoc]
    rfl
theorem tri_news {w : World} {b o m : Nat} {X : Nat → Nat → Int} (h : RP w (some ⟨b, o, none⟩) m X) : ∀ j u, (tri X m)[j]? = some u → w.cell? ((⟨b, o, none⟩ : Addr).add j) = some u := by
  intro j u hu
  have hj : j < m * 3 := by
    have := (List.getElem?_eq_some_iff.1 hu).1
    simpa [tri_length] using this
  rw [Addr.add_lit]
  obtain ⟨h0, h1, h2⟩ := tri_get X m (j / 3) (by omega)
  obtain ⟨b', o', e, _, c0, c1, c2⟩ := h (j / 3) (by omega)
  cases e
  have hr : j = j / 3 * 3 ∨ j = j / 3 * 3 + 1 ∨ j = j / 3 * 3 + 2 := by omega
  rcases hr with hr | hr | hr
  · rw [hr] at hu ⊢
    rw [h0] at hu
    cases hu
    exact c0
  · rw [hr] at hu ⊢
    rw [h1] at hu
    cases hu
    rw [← Nat.add_assoc]
    exact c1
  · rw [hr] at hu ⊢
    rw [h2] at hu
    cases hu
    rw [← Nat.add_assoc]
    exact c2
theorem RP_drop {w : World} {b o n k : Nat} {X : Nat → Nat → Int} (h : RP w (some ⟨b, o, none⟩) n X) (hk : k ≤ n) : RP w (some ⟨b, o + k * 3, none⟩) (n - k) (fun i => X (k + i)) := fun i hi => by
  obtain ⟨b', o', e, hb, c0, c1, c2⟩ := h (k + i) (by omega)
  cases e
  refine ⟨b, o + k * 3, rfl, hb, ?_, ?_, ?_⟩
  · rw [show o + k * 3 + i * 3 = o + (k + i) * 3 by omega]; exact c0
  · rw [show o + k * 3 + i * 3 + 1 = o + (k + i) * 3 + 1 by omega]; exact c1
  · rw [show o + k * 3 + i * 3 + 2 = o + (k + i) * 3 + 2 by omega]; exact c2
theorem RP_take {w : World} {A : Option Addr} {n k : Nat} {X : Nat → Nat → Int} (h : RP w A n X) (hk : k ≤ n) : RP w A k X := fun i hi => h i (by omega)
theorem RP_spot {w : World} {A : Option Addr} {n : Nat} {X : Nat → Nat → Int} (h : RP w A n X) (hn : 0 < n) : ∃ b o, A = some ⟨b, o, none⟩ := by
  obtain ⟨b, o, e, _⟩ := h 0 hn
  exact ⟨b, o, e⟩

theorem wp_tri {P : Program} (w : World) {o : Oper} {a : Act} {K : Act → World → Prop} {Q : Exit → Act → World → Prop} (s x : Operand) (t : TypeId)
    (ho : o.op = .call { callee := .builtin .append, args := #[s, x], argTypes := #[t, t] })
    (base : Nat) (e : TypeId) (i : TypeInfo) (z : Value) (bytes : Nat) (ht : P.underlying t = some (.slice e)) (hi : P.info? e = some i) (hz : i.zero = some z)
    (hsize : i.size = 3) (hby : i.bytes = bytes) (hzs : z.cells.size = 3)
    (v : Value) (n : Nat) (xs : List Value) (hs : a.eval s = v) (hown : w.ownsRow base e 3 v n xs)
    (A : Option Addr) (m c : Nat) (Y : Nat → Nat → Int) (hx : a.eval x = .slice A m c) (hA : A = none → m = 0 ∧ c = 0) (hR : RP w A m Y)
    (N : Nat) (hN : n + m = N) (h63 : N ≤ maxLen) (hbytes : N * bytes ≤ 140737488355328) (hbase : base ≤ w.heap.size)
    (h : ∀ v' w', w'.ownsRow base e 3 v' N (xs ++ tri Y m) → w.grownBy w' v.ownBlock → K (a.put o.dst v') w') : o.wp P a w K Q := by
  subst hN
  obtain ⟨v', w', hr, h2, h3⟩ : ∃ v' w', (Builtin.append_ #[t, t] o.type #[v, .slice A m c]).run P w = .ok v' w' ∧ w'.ownsRow base e 3 v' (n + m) (xs ++ tri Y m) ∧ w.grownBy w' v.ownBlock := by
    cases A with
    | none =>
      obtain ⟨rfl, rfl⟩ := hA rfl
      exact ⟨v, w, run_append_owned_none w base t o.type e i 3 ht hi v n xs hown, by simpa [tri] using hown, ⟨rfl, rfl, rfl, Nat.le_refl _, fun _ _ _ => rfl⟩⟩
    | some ad =>
      have hn : ∀ j u, (tri Y m)[j]? = some u → w.cell? (ad.add j) = some u := by
        intro j u hu
        have hj : j < m * 3 := by
          have := (List.getElem?_eq_some_iff.1 hu).1
          simpa [tri_length] using this
        obtain ⟨b, o', e', _⟩ := hR 0 (by omega)
        cases e'
        exact tri_news hR j u hu
      obtain ⟨v', w', hr, h2, h3, _, _⟩ := run_append_own_at (P := P) w base t o.type e i z 3 bytes ht hi hz hsize hby hzs (by omega) v n xs hown ad m c (tri Y m) (tri_length _ _) hn (tri_one _ _) h63 hbytes hbase
      exact ⟨v', w', hr, h2, h3⟩
  unfold Oper.wp execOp
  simp only [ho, resolve, invoke, builtin, Sem.run_bind, Sem.run_pure, Result.andThen_ok, List.map_toArray, List.map_cons, List.map_nil, hs, hx, hr]
  exact h v' w' h2 h3
theorem step_tri {P : Program} (w : World) {ops : Array Oper} {o : Oper} {a : Act} {K : Act → World → Prop} {Q : Exit → Act → World → Prop} {E : Prop} (hgd : o.guard = none) (s x : Operand) (t : TypeId)
    (ho : o.op = .call { callee := .builtin .append, args := #[s, x], argTypes := #[t, t] })
    (base : Nat) (e : TypeId) (i : TypeInfo) (z : Value) (bytes : Nat) (ht : P.underlying t = some (.slice e)) (hi : P.info? e = some i) (hz : i.zero = some z)
    (hsize : i.size = 3) (hby : i.bytes = bytes) (hzs : z.cells.size = 3)
    (v : Value) (n : Nat) (xs : List Value) (hs : a.eval s = v) (hown : w.ownsRow base e 3 v n xs)
    (A : Option Addr) (m c : Nat) (Y : Nat → Nat → Int) (hx : a.eval x = .slice A m c) (hA : A = none → m = 0 ∧ c = 0) (hR : RP w A m Y)
    (N : Nat) (hN : n + m = N) (h63 : N ≤ maxLen) (hbytes : N * bytes ≤ 140737488355328) (hbase : base ≤ w.heap.size)
    (h : ∀ v' w', w'.ownsRow base e 3 v' N (xs ++ tri Y m) → w.grownBy w' v.ownBlock → K (a.put o.dst v') w') :
    if Region.wanted o (yielded ops a.tmps) = true then Oper.wp P o a w K Q else E := by
  have hw : Region.wanted o (yielded ops a.tmps) = true := by simp [Region.wanted, hgd]
  rw [if_pos hw]
  exact wp_tri w s x t ho base e i z bytes ht hi hz hsize hby hzs v n xs hs hown A m c Y hx hA hR N hN h63 hbytes hbase h
theorem wpList_tri {P : Program} (w : World) {ops : Array Oper} {rest : List Oper} {o : Oper} {a : Act} {Q : Exit → Act → World → Prop} (hgd : o.guard = none) (s x : Operand) (t : TypeId)
    (ho : o.op = .call { callee := .builtin .append, args := #[s, x], argTypes := #[t, t] })
    (base : Nat) (e : TypeId) (i : TypeInfo) (z : Value) (bytes : Nat) (ht : P.underlying t = some (.slice e)) (hi : P.info? e = some i) (hz : i.zero = some z)
    (hsize : i.size = 3) (hby : i.bytes = bytes) (hzs : z.cells.size = 3)
    (v : Value) (n : Nat) (xs : List Value) (hs : a.eval s = v) (hown : w.ownsRow base e 3 v n xs)
    (A : Option Addr) (m c : Nat) (Y : Nat → Nat → Int) (hx : a.eval x = .slice A m c) (hA : A = none → m = 0 ∧ c = 0) (hR : RP w A m Y)
    (N : Nat) (hN : n + m = N) (h63 : N ≤ maxLen) (hbytes : N * bytes ≤ 140737488355328) (hbase : base ≤ w.heap.size)
    (h : ∀ v' w', w'.ownsRow base e 3 v' N (xs ++ tri Y m) → w.grownBy w' v.ownBlock → wpList P ops Q rest (a.put o.dst v') w') : wpList P ops Q (o :: rest) a w :=
  wpList_plain hgd fun _ hK => wp_tri w s x t ho base e i z bytes ht hi hz hsize hby hzs v n xs hs hown A m c Y hx hA hR N hN h63 hbytes hbase fun v' w' h2 h3 => hK _ _ (h v' w' h2 h3)
/-- a row of one's own is a slice -/
theorem own_form {W : World} {B : Nat} {t : TypeId} {s n : Nat} {v : Value} {xs : List Value} (h : W.ownsRow B t s v n xs) : ∃ A c, v = .slice A n c ∧ (n ≤ c ∧ c ≤ 9223372036854775807) ∧ (A = none → n = 0 ∧ c = 0) ∧ (∀ a, A = some a → ∃ g, a = ⟨g, 0, none⟩) := by
  rcases h.2 with ⟨h', h''⟩ | ⟨g', cap', cur, h', _, _, h1, h2, _⟩
  · exact ⟨none, 0, by rw [h', h''], by omega, fun _ => ⟨h'', rfl⟩, fun a e => (by cases e)⟩
  · exact ⟨_, cap', h', by unfold maxLen at h2; omega, fun e => (by cases e), fun a e => (by cases e; exact ⟨g', rfl⟩)⟩

theorem own_mono {W : World} {B B' : Nat} {t : TypeId} {s n : Nat} {v : Value} {xs : List Value} (h : W.ownsRow B t s v n xs) (hB : B' ≤ B) : W.ownsRow B' t s v n xs := by
  refine ⟨h.1, ?_⟩
  rcases h.2 with h' | ⟨g', cap', cur, h1, h2, r⟩
  · exact .inl h'
  · exact .inr ⟨g', cap', cur, h1, by omega, r⟩
/-- a block of three cells -/
theorem blk3 {w : World} {b : Nat} {t : TypeId} {x y z : Value} (h : w.heap[b]? = some (.cells #[x, y, z] t (0, 0))) :
    w.cell? ⟨b, 0, none⟩ = some x ∧ w.cell? ⟨b, 1, none⟩ = some y ∧ w.cell? ⟨b, 2, none⟩ = some z ∧ ∀ j, w.frozen? ⟨b, j, none⟩ = false := by
  refine ⟨?_, ?_, ?_, fun j => by simp [World.frozen?, h]⟩
  · rw [cell_of_row w b 0 _ _ (0, 0) h]; rfl
  · rw [cell_of_row w b 1 _ _ (0, 0) h]; rfl
  · rw [cell_of_row w b 2 _ _ (0, 0) h]; rfl
theorem blk3_set {w : World} {b : Nat} {t : TypeId} {x y z : Value} (h : w.heap[b]? = some (.cells #[x, y, z] t (0, 0))) (u : Value) :
    (w.setCell ⟨b, 2, none⟩ u).heap[b]? = some (.cells #[x, y, u] t (0, 0)) ∧ (w.setCell ⟨b, 1, none⟩ u).heap[b]? = some (.cells #[x, u, z] t (0, 0)) := by
  constructor <;> simp [World.setCell, Array.getElem?_modify, h]
/-- the inbox of a list of one, in memory of one's own -/
def OB (w : World) (B g c : Nat) (N : Int) (q : Nat) (f : Nat → Int) (A : Option Addr) (cw : Nat) : Prop :=
  w.ownsRow B 123 3 (.slice (some ⟨g, 0, none⟩) 1 c) 1 [.int .i64 3, .int .i64 N, .slice A q cw] ∧ w.ownsRow B 69 3 (.slice A q cw) q (tri (mg f) q) ∧ Wt N q f
theorem OB.b1 {w : World} {B g c : Nat} {N : Int} {q : Nat} {f : Nat → Int} {A : Option Addr} {cw : Nat} (h : OB w B g c N q f A cw) : B1 w g N q f A cw := by
  obtain ⟨h1, h2, h3⟩ := h
  obtain ⟨A', c', e, hc, hn, _⟩ := own_form h2
  cases e
  refine ⟨⟨?_, ?_, ?_⟩, RP_own h2, h3, hc, hn⟩
  · rw [h1.cellAt 0 (by omega)]; rfl
  · rw [h1.cellAt 1 (by omega)]; rfl
  · rw [h1.cellAt 2 (by omega)]; rfl
set_option maxRecDepth 100000 in
theorem dup0 (w : World) : Calls Try.prog 56 #[.slice none 0 0] w fun e w' => e = .returned (.slice (some ⟨w.heap.size, 0, none⟩) 0 0) ∧ ∃ mc : Array Value, mc.size = 0 ∧ w' = w.alloc (.cells mc 123) := by
  obtain ⟨r0, hr, hr0, hr1, hr2⟩ := info_parts infoBox
  have hmk : ∀ W : World, (Instr.makeSlice 63 (.int .i64 0) (.int .i64 0)).run Try.prog W = .ok (.slice (some ⟨W.heap.size, 0, none⟩) 0 0) (W.alloc (.cells (madeCells (Value.agg #[.int .i64 0, .int .i64 0, .slice none 0 0]).cells 0) 123)) := fun W => by
    have := run_make_rowN (P := Try.prog) 63 123 r0 _ Try.underlying63 hr hr0 .i64 .i64 0 0 (by omega) (by rw [hr2]; omega) (by omega) W
    rw [hr1] at this
    exact this
  clear hr hr0 hr1 hr2
  go_enter Try.func56, Try.ntmps56
  go_wp2_with fail
  refine wp_loop_rounds 1 ?_
  rw [rounds_succ]
  go_wp2_with fail
  go_ret
  exact ⟨rfl, _, by simp [madeCells], rfl⟩
set_option maxRecDepth 100000 in
set_option maxHeartbeats 1000000 in
theorem dup1 (b c : Nat) (N : Int) (q : Nat) (f : Nat → Int) (A : Option Addr) (cw : Nat) (w : World) (h : B1 w b N q f A cw) :
    Calls Try.prog 56 #[.slice (some ⟨b, 0, none⟩) 1 c] w fun e w' => ∃ g c' A' cw', e = .returned (.slice (some ⟨g, 0, none⟩) 1 c') ∧ OB w' w.heap.size g c' N q f A' cw' ∧ Below w.heap.size w w' := by
  have H := Lib.hid h
  have hq60 := h.2.2.1.2.1
  clear h
  obtain ⟨r0, hr, hr0, hr1, hr2⟩ := info_parts infoBox
  obtain ⟨s0, hs, hs0, hs1, hs2⟩ := info_parts infoMsg
  have hmk : ∀ W : World, (Instr.makeSlice 63 (.int .i64 0) (.int .i64 1)).run Try.prog W = .ok (.slice (some ⟨W.heap.size, 0, none⟩) 0 1) (W.alloc (.cells (madeCells (Value.agg #[.int .i64 0, .int .i64 0, .slice none 0 0]).cells 3) 123)) := fun W => by
    have := run_make_rowN (P := Try.prog) 63 123 r0 _ Try.underlying63 hr hr0 .i64 .i64 0 1 (by omega) (by rw [hr2]; omega) (by omega) W
    rw [hr1] at this
    exact this
  obtain ⟨mc, hmc⟩ : ∃ mc, madeCells (Value.agg #[.int .i64 0, .int .i64 0, .slice none 0 0]).cells 3 = mc := ⟨_, rfl⟩
  have HMC : Hid (mc.size = 1 * 3) := Lib.hid (by rw [← hmc]; simp [madeCells])
  rw [hmc] at hmk
  have HJ := Lib.hid hr
  have HY0 := Lib.hid hr0
  have HY1 := Lib.hid hr1
  have HY2 := Lib.hid hr2
  have KJ := Lib.hid hs
  have KY0 := Lib.hid hs0
  have KY1 := Lib.hid hs1
  have KY2 := Lib.hid hs2
  clear hr hr0 hr1 hr2 hmc hs hs0 hs1 hs2
  go_enter Try.func56, Try.ntmps56
  go_wp2_with fail
  have HOW0 := Lib.hid (Ch.own_at0 (heap_alloc_new w (.cells mc 123)) (Nat.le_refl w.heap.size) (cap := 1) (by unfold maxLen; omega) HMC.out)
  have HB0 := Lib.hid (bel_alloc (Below.refl _ w) (.cells mc 123))
  have H0 := Lib.hid (H.out.keep HB0.out)
  obtain ⟨⟨c0, c1, c2⟩, _⟩ := H0.out
  have hsz : (w.alloc (.cells mc 123)).heap.size = w.heap.size + 1 := World.size_alloc _ _
  obtain ⟨w1, hw1⟩ : ∃ w1, w.alloc (.cells mc 123) = w1 := ⟨_, rfl⟩
  rw [hw1] at HOW0 HB0 H0 c0 c1 c2 hsz ⊢
  have HSZ := Lib.hid hsz
  clear hw1 hsz
  refine wp_loop_rounds 2 ?_
  rw [rounds_succ]
  have x0 : (w1.alloc (.cells #[.int .i64 3, .int .i64 N, .slice A q cw] 123)).cell? ⟨w1.heap.size, 0, none⟩ = some (.int .i64 3) := Mt.cell_new rfl rfl
  have x1 : (w1.alloc (.cells #[.int .i64 3, .int .i64 N, .slice A q cw] 123)).cell? ⟨w1.heap.size, 1, none⟩ = some (.int .i64 N) := Mt.cell_new rfl rfl
  have x2 : (w1.alloc (.cells #[.int .i64 3, .int .i64 N, .slice A q cw] 123)).cell? ⟨w1.heap.size, 2, none⟩ = some (.slice A q cw) := Mt.cell_new rfl rfl
  have HB1 := Lib.hid (HB0.out.alloc HB0.out.size (.cells #[.int .i64 3, .int .i64 N, .slice A q cw] 123))
  have HN1 := Lib.hid (heap_alloc_new w1 (.cells #[.int .i64 3, .int .i64 N, .slice A q cw] 123))
  have HR1 := Lib.hid (H0.out.2.1.keep (bel_alloc (Below.refl _ _) (.cells #[.int .i64 3, .int .i64 N, .slice A q cw] 123)))
  have HO1 := Lib.hid (HOW0.out.alloc (.cells #[.int .i64 3, .int .i64 N, .slice A q cw] 123))
  go_upto_region 5 with fail
  have hsz2 : (w1.alloc (.cells #[.int .i64 3, .int .i64 N, .slice A q cw] 123)).heap.size = w1.heap.size + 1 := World.size_alloc _ _
  obtain ⟨pb, hpb⟩ : ∃ pb, w1.heap.size = pb := ⟨_, rfl⟩
  obtain ⟨w2, hw2⟩ : ∃ w2, w1.alloc (.cells #[.int .i64 3, .int .i64 N, .slice A q cw] 123) = w2 := ⟨_, rfl⟩
  rw [hw2] at x0 x1 x2 HB1 HN1 HR1 HO1 hsz2 ⊢
  rw [hpb] at x0 x1 x2 HN1 hsz2 ⊢
  have HPB : Hid (pb = w.heap.size + 1 ∧ w2.heap.size = pb + 1) := Lib.hid ⟨by rw [← hpb]; exact HSZ.out, hsz2⟩
  clear hw2 hpb c0 c1 c2 hsz2
  go_upto_region 6 with (at_builtin; refine wpList_tri _ rfl (.const (.slice none 0 0)) (.tmp 16) 65 rfl (pb + 1) 69 s0 _ 24 Try.underlying65 KJ.out KY0.out KY1.out KY2.out rfl (.slice none 0 0) 0 [] rfl (World.ownsRow_nil _ _ _ _) A q cw (mg f) rfl H.out.2.2.2.2 HR1.out q (Nat.zero_add q) (by unfold maxLen; omega) (by omega) (by have := HPB.out; omega) ?_; intro v3 w3 hown3 hgr3; obtain ⟨A3, c3, rfl, hc3, hn3, ha3⟩ := own_form hown3; have hblk := (hgr3.block pb (by have := HPB.out; omega) (by simp [Value.ownBlock])).trans HN1.out; obtain ⟨y0, y1, y2, y3⟩ := blk3 hblk; have y4 := y3 2)
  have HBK := Lib.hid (blk3_set hblk (.slice A3 q c3)).1
  obtain ⟨z0, z1, z2, _⟩ := blk3 HBK.out
  have hb3 : Below (pb + 1) w2 w3 := (Below.refl _ _).grown hgr3 (by have := HPB.out; omega) (by intro k e; simp [Value.ownBlock] at e)
  rw [List.nil_append] at hown3
  have hnp : ∀ g, (Value.slice A3 q c3).ownBlock = some g → g ≠ pb := fun g e e2 => by
    have := (hown3.lt g e).1
    omega
  have hO3 : (w3.setCell ⟨pb, 2, none⟩ (.slice A3 q c3)).ownsRow (pb + 1) 69 3 (.slice A3 q c3) q (tri (mg f) q) := ownsRow_setCell_other hown3 (fun e => hnp _ e rfl) _
  have hob : (Value.slice (some ⟨w.heap.size, 0, none⟩) 0 1).ownBlock = some w.heap.size := rfl
  have hOut := ownsRow_setCell_other (HO1.out.kept hgr3 (.inr (by rw [hob]; simp [Value.ownBlock]))) (a := ⟨pb, 2, none⟩) (by rw [hob]; have := HPB.out; simp; omega) (.slice A3 q c3)
  have hb4 : Below w.heap.size w (w3.setCell ⟨pb, 2, none⟩ (.slice A3 q c3)) := ((HB1.out.trans (hb3.mono (by have := HPB.out; omega))).setCell (p := ⟨pb, 2, none⟩) (by show w.heap.size ≤ pb; have := HPB.out; omega) _)
  obtain ⟨w4, hw4⟩ : ∃ w4, w3.setCell ⟨pb, 2, none⟩ (.slice A3 q c3) = w4 := ⟨_, rfl⟩
  rw [hw4] at hO3 hOut hb4 z0 z1 z2 ⊢
  have HO3 := Lib.hid hO3
  have HOT := Lib.hid hOut
  have HB4 := Lib.hid hb4
  clear hw4 y0 y1 y2 y3 y4 x0 x1 x2 hO3 hOut hb4 hown3 hgr3 hblk hb3 hnp hob
  go_upto_region 7 with (at_builtin; refine wpList_append_lies _ rfl (.tmp 19) (.tmp 21) 63 rfl w.heap.size 123 r0 _ 3 40 Try.underlying63 HJ.out HY0.out HY1.out HY2.out rfl (by omega) (.slice (some ⟨w.heap.size, 0, none⟩) 0 1) 0 [] rfl (HOT.out.alloc _) ⟨w4.heap.size, 0, none⟩ 1 1 [.int .i64 3, .int .i64 N, .slice A3 q c3] rfl rfl (World.news_of_block (heap_alloc_new w4 _)) (by simp [Value.oneCell']) (by omega) (by unfold maxLen; omega) (by omega) (by have := HB4.out.size; simp; omega) (w4.heap.size + 1) (by simp) ?_; intro g5 cap5 w5 hown5 hgr5 hat5 hlt5)
  have hob : (Value.slice (some ⟨w.heap.size, 0, none⟩) 0 1).ownBlock = some w.heap.size := rfl
  rw [hob] at hgr5
  have hO5 := (HO3.out.alloc (.cells #[.int .i64 3, .int .i64 N, .slice A3 q c3] 123)).kept hgr5 (.inr fun e => by have := (HO3.out.lt _ e).1; have := HPB.out; omega)
  have HO5 := Lib.hid hO5
  have HO6 := Lib.hid hown5
  have HB5 := Lib.hid ((bel_alloc HB4.out (.cells #[.int .i64 3, .int .i64 N, .slice A3 q c3] 123)).grown hgr5 (by have := HB4.out.size; simp; omega) (by intro k e; cases e; exact Nat.le_refl _))
  clear hown5 hgr5 hat5 hlt5 hO5 hob z0 z1 z2
  go_wp2_with fail
  rw [rounds_succ]
  go_wp2_with fail
  go_ret
  exact ⟨g5, cap5, A3, c3, rfl, ⟨by simpa using HO6.out, own_mono HO5.out (by have := HPB.out; omega), H.out.2.2.1⟩, HB5.out⟩
end Go.Proofs.Ytkhmlbkkdflnoaa.Hb
