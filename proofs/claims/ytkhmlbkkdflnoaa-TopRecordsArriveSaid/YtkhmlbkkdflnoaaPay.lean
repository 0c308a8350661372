/-
  THE WALKS over package settle, third part: Payments.
-/
import Derived.Test.YtkhmlbkkdflnoaaPayPlain
import Derived.Test.YtkhmlbkkdflnoaaApp
import Derived.Test.YtkhmlbkkdflnoaaFits
namespace Go.Proofs.Ytkhmlbkkdflnoaa
open Go.RowKit
set_option linter.unusedVariables false
attribute [local go_sem ↓] Go.wp_at_zero Go.wp_at_succ

theorem infoInt : (Try.prog.info? 3).map (fun i => (i.zero, i.size, i.bytes)) = some (some (.int .i64 0), 1, 8) := by kernel_rfl
theorem infoPay : (Try.prog.info? 54).map (fun i => (i.zero, i.size, i.bytes)) = some (some (.agg #[.int .i64 0, .int .i64 0, .int .i64 0]), 3, 24) := by kernel_rfl
/-- numbers as cells -/
def nums (f : Nat → Int) (n : Nat) : List Value := (List.range n).map fun i => .int .i64 (f i)
theorem nums_length (f : Nat → Int) (n : Nat) : (nums f n).length = n := by simp [nums]
theorem nums_succ (f : Nat → Int) (n : Nat) : nums f (n + 1) = nums f n ++ [.int .i64 (f n)] := by simp [nums, List.range_succ]
theorem nums_get (f : Nat → Int) (n i : Nat) (h : i < n) : (nums f n)[i]? = some (.int .i64 (f i)) := by simp [nums, h]
theorem nums_one (f : Nat → Int) (n : Nat) : ∀ u ∈ nums f n, u.oneCell' = true := by
  intro u hu
  obtain ⟨_, _, rfl⟩ := List.mem_map.1 hu
  rfl
theorem RZ_own {w : World} {base : Nat} {e : TypeId} {A : Option Addr} {n c : Nat} {f : Nat → Int} (h : w.ownsRow base e 1 (.slice A n c) n (nums f n)) : RZ w A n f := fun i hi => by
  obtain ⟨g, cap, hv, hb, hlt⟩ := h.form (by omega)
  cases hv
  refine ⟨g, 0, rfl, hlt, ?_⟩
  rw [Nat.zero_add, h.cellAt i (by omega)]
  exact nums_get f n i hi
theorem own_ge {w : World} {base : Nat} {e : TypeId} {size : Nat} {v : Value} {n : Nat} {xs : List Value} (h : w.ownsRow base e size v n xs) : ∀ g, v.ownBlock = some g → base ≤ g := fun g hg => (h.lt g hg).1
theorem RZ_news {w : World} {len : Nat} {z : Nat → Int} {b o : Nat} (x : RZ w (some ⟨b, o, none⟩) len z) : ∀ j u, (nums z len)[j]? = some u → w.cell? ((⟨b, o, none⟩ : Addr).add j) = some u := by
  intro j u hu
  have hj : j < len := by
    have := (List.getElem?_eq_some_iff.1 hu).1
    simpa [nums_length] using this
  rw [nums_get _ _ _ hj] at hu
  cases hu
  rw [Addr.add_lit]
  obtain ⟨b', o', e, _, hc⟩ := x j hj
  cases e
  exact hc
theorem OwnR.of {W : World} {base g l c : Nat} {f : Nat → Int} (h : W.ownsRow base 3 1 (.slice (some ⟨g, 0, none⟩) l c) l (nums f l)) : OwnR W g l c f := by
  rcases h.2 with ⟨h', _⟩ | ⟨g', cap, cur, h', _, hg, h1, h2, h3, h4⟩
  · cases h'
  · cases h'
    refine ⟨cur, hg, ⟨h1, by unfold maxLen at h2; omega⟩, by simpa using h3, fun j hj => ?_⟩
    have := nums_get f l j hj
    rw [← h4, List.getElem?_take, if_pos (by omega)] at this
    simpa using this

/-- payment t: from, to, amount -/
def pym (n : Nat) (y : Nat → Int) (t k : Nat) : Int := if k = 0 then (mnI (Yt n y t) n : Int) else if k = 1 then (mxI (Yt n y t) n : Int) else am (Yt n y t) n
/-- rows of three as cells -/
def tri (X : Nat → Nat → Int) : Nat → List Value
  | 0 => []
  | t + 1 => tri X t ++ [.int .i64 (X t 0), .int .i64 (X t 1), .int .i64 (X t 2)]
theorem tri_length (X : Nat → Nat → Int) (t : Nat) : (tri X t).length = t * 3 := by
  induction t with
  | zero => rfl
  | succ t ih => simp [tri, ih]; omega
theorem tri_get (X : Nat → Nat → Int) : ∀ t i, i < t → (tri X t)[i * 3]? = some (.int .i64 (X i 0)) ∧ (tri X t)[i * 3 + 1]? = some (.int .i64 (X i 1)) ∧ (tri X t)[i * 3 + 2]? = some (.int .i64 (X i 2)) := by
  intro t
  induction t with
  | zero => intro i hi; omega
  | succ t ih =>
    intro i hi
    have hl := tri_length X t
    simp only [tri]
    rcases Nat.lt_or_ge i t with h | h
    · obtain ⟨h1, h2, h3⟩ := ih i h
      rw [List.getElem?_append_left (by omega), List.getElem?_append_left (by omega), List.getElem?_append_left (by omega)]
      exact ⟨h1, h2, h3⟩
    · obtain rfl : i = t := by omega
      rw [List.getElem?_append_right (by omega), List.getElem?_append_right (by omega), List.getElem?_append_right (by omega), hl, Nat.sub_self, Nat.add_sub_cancel_left, Nat.add_sub_cancel_left]
      exact ⟨rfl, rfl, rfl⟩
/-- the slice at A reads as these n payments -/
def RP (w : World) (A : Option Addr) (n : Nat) (X : Nat → Nat → Int) : Prop := ∀ i, i < n → ∃ b o, A = some ⟨b, o, none⟩ ∧ b < w.heap.size ∧
  w.cell? ⟨b, o + i * 3, none⟩ = some (.int .i64 (X i 0)) ∧ w.cell? ⟨b, o + i * 3 + 1, none⟩ = some (.int .i64 (X i 1)) ∧ w.cell? ⟨b, o + i * 3 + 2, none⟩ = some (.int .i64 (X i 2))
theorem RP.keep {w w' : World} {A : Option Addr} {n : Nat} {X : Nat → Nat → Int} (x : RP w A n X) (hb : Below w.heap.size w w') : RP w' A n X := fun i hi => by
  obtain ⟨b, o, e, hl, c0, c1, c2⟩ := x i hi
  exact ⟨b, o, e, Nat.lt_of_lt_of_le hl hb.size, old_at c0 hb, old_at c1 hb, old_at c2 hb⟩
theorem RP.congr {w : World} {A : Option Addr} {n : Nat} {X Y : Nat → Nat → Int} (x : RP w A n X) (h : ∀ i, i < n → X i 0 = Y i 0 ∧ X i 1 = Y i 1 ∧ X i 2 = Y i 2) : RP w A n Y := fun i hi => by
  obtain ⟨b, o, e, hl, c0, c1, c2⟩ := x i hi
  obtain ⟨h0, h1, h2⟩ := h i hi
  rw [h0] at c0; rw [h1] at c1; rw [h2] at c2
  exact ⟨b, o, e, hl, c0, c1, c2⟩
theorem RP_own {w : World} {base : Nat} {e : TypeId} {A : Option Addr} {n c : Nat} {X : Nat → Nat → Int} (h : w.ownsRow base e 3 (.slice A n c) n (tri X n)) : RP w A n X := fun i hi => by
  obtain ⟨g, cap, hv, hb, hlt⟩ := h.form (by omega)
  cases hv
  obtain ⟨h0, h1, h2⟩ := tri_get X n i hi
  refine ⟨g, 0, rfl, hlt, ?_, ?_, ?_⟩
  · rw [Nat.zero_add, h.cellAt _ (by omega)]; exact h0
  · rw [Nat.zero_add, h.cellAt _ (by omega)]; exact h1
  · rw [Nat.zero_add, h.cellAt _ (by omega)]; exact h2

/-- the state of Payments -/
def PS (B : Nat) (W : World) (p g n c : Nat) (Y : Nat → Int) (v : Value) (t : Nat) (xs : List Value) : Prop :=
  W.heap[p]? = some (.cells #[.slice (some ⟨g, 0, none⟩) n c] 111 (0, 0)) ∧ OwnR W g n c Y ∧ W.ownsRow B 54 3 v t xs ∧ B ≤ p ∧ B ≤ g
theorem PS.heap {B : Nat} {W W' : World} {p g n c : Nat} {Y : Nat → Int} {v : Value} {t : Nat} {xs : List Value} (h : PS B W p g n c Y v t xs) (e : W'.heap = W.heap) : PS B W' p g n c Y v t xs := by
  obtain ⟨h1, h2, h3, h4⟩ := h
  refine ⟨by rw [e]; exact h1, h2.keep (by rw [e]), ⟨h3.1, ?_⟩, h4⟩
  rw [e]; exact h3.2
theorem PS.ne {B : Nat} {W : World} {p g n c : Nat} {Y : Nat → Int} {v : Value} {t : Nat} {xs : List Value} (h : PS B W p g n c Y v t xs) : p ≠ g ∧ some p ≠ v.ownBlock ∧ some g ≠ v.ownBlock := by
  obtain ⟨h1, ⟨cur, h2, _⟩, h3, h4⟩ := h
  refine ⟨fun e => ?_, fun e => ?_, fun e => ?_⟩
  · rw [e, h2] at h1; simp at h1
  · rcases h3.2 with ⟨rfl, _⟩ | ⟨g', cap', cur', rfl, _, hgb, _⟩
    · simp [Value.ownBlock] at e
    · have : p = g' := by simpa [Value.ownBlock] using e
      rw [this, hgb] at h1
      simp at h1
  · rcases h3.2 with ⟨rfl, _⟩ | ⟨g', cap', cur', rfl, _, hgb, _⟩
    · simp [Value.ownBlock] at e
    · have : g = g' := by simpa [Value.ownBlock] using e
      rw [this, hgb] at h2
      simp at h2
theorem PS.moved {B : Nat} {W W' : World} {p g n c : Nat} {Y Y' : Nat → Int} {v : Value} {t : Nat} {xs : List Value} (h : PS B W p g n c Y v t xs) (hO : OwnR W' g n c Y') (hg : W.grownBy W' (some g)) : PS B W' p g n c Y' v t xs := by
  obtain ⟨n1, n2, n3⟩ := h.ne
  obtain ⟨h1, h2, h3, h4⟩ := h
  exact ⟨(hg.block _ (Array.getElem?_eq_some_iff.1 h1).1 (by simpa using n1)).trans h1, hO, h3.kept hg (.inr fun e => n3 e.symm), h4⟩
theorem PS.push {B : Nat} {W W' : World} {p g n c : Nat} {Y : Nat → Int} {v v' : Value} {t t' : Nat} {xs xs' : List Value} {o : Obj} (h : PS B W p g n c Y v t xs) (hg : (W.alloc o).grownBy W' v.ownBlock) (ho : W'.ownsRow B 54 3 v' t' xs') : PS B W' p g n c Y v' t' xs' := by
  obtain ⟨n1, n2, n3⟩ := h.ne
  obtain ⟨h1, h2, h3, h4⟩ := h
  have hk : ∀ j, j < W.heap.size → some j ≠ v.ownBlock → W'.heap[j]? = W.heap[j]? := fun j hj hne => (hg.block j (by simp; omega) hne).trans (Below.heap_alloc W o j hj)
  exact ⟨(hk _ (Array.getElem?_eq_some_iff.1 h1).1 n2).trans h1, h2.keep (hk _ h2.lt n3), ho, h4⟩
theorem PS.box {B : Nat} {W : World} {p g n c : Nat} {Y : Nat → Int} {v : Value} {t : Nat} {xs : List Value} (h : PS B W p g n c Y v t xs) : W.cell? ⟨p, 0, none⟩ = some (.slice (some ⟨g, 0, none⟩) n c) := by
  rw [cell_of_row W p 0 _ _ (0, 0) h.1]; rfl

theorem am_if (y : Nat → Int) (n : Nat) : am y n = if y (mxI y n) < -(y (mnI y n)) then y (mxI y n) else -(y (mnI y n)) := by unfold am; split <;> omega
theorem heap_drewN (w : World) (k : Nat) : (w.drewN k).heap = w.heap := rfl
def lenOf : Value → Nat
  | .slice _ n _ => n
  | _ => 0

theorem pay_no (A : Option Addr) (n c : Nat) (y : Nat → Int) (w : World) (hn : n ≤ 9223372036854775807) (hR : RZ w A n y) (hB : balB y n = false) :
    Calls Try.prog 18 #[.slice A n c] w fun e w' => e = .returned (.tuple #[.slice none 0 0, .int .i64 1]) ∧ w = w' := by
  have HR := Lib.hid hR
  have HB := Lib.hid hB
  clear hR hB
  go_enter Try.func18, Try.ntmps18
  go_wp2_with (go_at_call 45; with_reducible refine (isBal _ _ _ y w hn HR.out).mono ?_; rintro e w1 ⟨rfl, rfl⟩; rw [HB.out])
  go_ret2
  exact ⟨rfl, rfl⟩

set_option maxRecDepth 100000 in
set_option maxHeartbeats 2000000 in
theorem pay_any (A : Option Addr) (n c : Nat) (y : Nat → Int) (w : World) (hR : RZ w A n y) (hB : balB y n = true) :
    Calls Try.prog 18 #[.slice A n c] w fun e w' => (∃ T A' c', e = .returned (.tuple #[.slice A' T c', .int .i64 0]) ∧ Paid n y T ∧ am (Yt n y T) n ≤ 0 ∧ RP w' A' T (pym n y) ∧ (T ≤ c' ∧ c' ≤ 9223372036854775807)) ∧ Below w.heap.size w w' := by
  obtain ⟨hn, hy, h0⟩ := balB_iff.1 hB
  have hP0 := Lib.hid (paid_zero hy h0)
  have HR := Lib.hid hR
  have HB := Lib.hid hB
  obtain ⟨b, o, rfl, hb, _⟩ := hR 0 (by omega)
  clear hR hB hy h0
  obtain ⟨i0, hi, hz0, hz1, hz2⟩ := info_parts infoInt
  obtain ⟨j0, hj, hy0, hy1, hy2⟩ := info_parts infoPay
  have HI := Lib.hid hi
  have HZ0 := Lib.hid hz0
  have HZ1 := Lib.hid hz1
  have HZ2 := Lib.hid hz2
  have HJ := Lib.hid hj
  have HY0 := Lib.hid hy0
  have HY1 := Lib.hid hy1
  have HY2 := Lib.hid hy2
  clear hi hz0 hz1 hz2 hj hy0 hy1 hy2
  go_enter Try.func18, Try.ntmps18
  go_wp2_with (first
    | (go_at_call 45; with_reducible refine (isBal _ _ _ y w (by omega) HR.out).mono ?_; rintro e w1 ⟨rfl, rfl⟩; rw [HB.out])
    | (at_builtin; refine wpList_append_lies _ rfl (.const (.slice none 0 0)) (.tmp 12) 46 rfl w.heap.size 3 i0 _ 1 8 Try.underlying46 HI.out HZ0.out HZ1.out HZ2.out rfl (by omega) (.slice none 0 0) 0 [] rfl (World.ownsRow_nil _ _ _ _) ⟨b, o, none⟩ n c (nums y n) rfl (by rw [nums_length, Nat.mul_one]) (RZ_news HR.out) (nums_one _ _) (by omega) (by unfold maxLen; omega) (by omega) (Nat.le_refl _) w.heap.size rfl ?_; intro g cap wA hown1 hgrow1 hat1 hlt1; rw [Nat.zero_add, List.nil_append] at hown1))
  have hg1 := hat1.resolve_left (by simp [Value.ownBlock])
  have hO := OwnR.of hown1
  have hcap : n ≤ cap ∧ cap ≤ 9223372036854775807 := by obtain ⟨_, _, h', _⟩ := hO; exact h'
  have hbA : Below w.heap.size w wA := (Below.refl _ _).grown hgrow1 (Nat.le_refl _) (fun g hg => by simp [Value.ownBlock] at hg)
  have hsA := hbA.size
  have hps : PS w.heap.size (wA.alloc (.cells #[.slice (some ⟨g, 0, none⟩) n cap] 111)) wA.heap.size g n cap (Yt n y 0) (.slice none 0 0) 0 (tri (pym n y) 0) :=
    ⟨heap_alloc_new _ _, hO.keep (Below.heap_alloc wA _ _ hO.lt), World.ownsRow_nil _ _ _ _, hbA.size, by omega⟩
  have hbS : Below w.heap.size w (wA.alloc (.cells #[.slice (some ⟨g, 0, none⟩) n cap] 111)) := bel_alloc hbA _
  have HPS := Lib.hid hps
  have HBS := Lib.hid hbS
  obtain ⟨p, hp⟩ : ∃ p, p = wA.heap.size := ⟨_, rfl⟩
  have HP := Lib.hid hp
  clear hp hps hbS hown1 hgrow1 hat1 hg1 hO hlt1 hsA hbA
  go_loopw [5] (fun v wr => ∃ t, Paid n y t ∧ PS w.heap.size wr wA.heap.size g n cap (Yt n y t) v t (tri (pym n y) t) ∧ Below w.heap.size w wr) (fun v _ => n - lenOf v)
  case atStart => exact ⟨0, hP0.out, HPS.out, HBS.out⟩
  case round =>
    obtain ⟨t, hpd, hps, hbw⟩ := hrel
    rw [← HP.out] at hps ⊢
    clear HPS HBS HP hP0
    have hws := hbw.size
    obtain ⟨A5, c5, hv5, hc5⟩ : ∃ A5 c5, u5 = .slice A5 t c5 ∧ (t ≤ c5 ∧ c5 ≤ 9223372036854775807) := by
      rcases hps.2.2.1.2 with ⟨h', h''⟩ | ⟨g', cap', cur, h', _, _, h1, h2, _⟩
      · exact ⟨none, 0, by rw [h', h''], by omega⟩
      · exact ⟨_, cap', h', by unfold maxLen at h2; omega⟩
    subst hv5
    have HPD := Lib.hid hpd
    have HPS := Lib.hid hps
    have HBW := Lib.hid hbw
    have cb := hps.box
    have hne := hps.ne.1
    obtain ⟨f1, _⟩ := hps.2.1.at (mnI_lt (Yt n y t) hn.1 n (Nat.le_refl _))
    obtain ⟨f2, _⟩ := hps.2.1.at (mxI_lt (Yt n y t) hn.1 n (Nat.le_refl _))
    have l1 := mnI_lt (Yt n y t) hn.1 n (Nat.le_refl _)
    have l2 := mxI_lt (Yt n y t) hn.1 n (Nat.le_refl _)
    have b1 := hpd.2.2.1 _ l1
    have b2 := hpd.2.2.1 _ l2
    have tn := hpd.2.1
    clear hpd hps hbw
    have HAM : Hid (am (Yt n y t) n = min (-(Yt n y t (mnI (Yt n y t) n))) (Yt n y t (mxI (Yt n y t) n))) := Lib.hid rfl
    have HC1 : Hid (∀ w0 : World, w0.heap = wr.heap → Calls Try.prog 46 #[.slice (some ⟨g, 0, none⟩) n cap, .func (.func 47) #[] #[]] w0 fun e w' => e = .returned (.int .i64 (mnI (Yt n y t) n : Int)) ∧ ∃ k, w' = w0.drewN k) :=
      Lib.hid fun w0 h => first_lt _ _ _ _ w0 (by omega) (HPS.out.heap h).2.1.rz
    have HC2 : Hid (∀ w0 : World, w0.heap = wr.heap → Calls Try.prog 46 #[.slice (some ⟨g, 0, none⟩) n cap, .func (.func 48) #[] #[]] w0 fun e w' => e = .returned (.int .i64 (mxI (Yt n y t) n : Int)) ∧ ∃ k, w' = w0.drewN k) :=
      Lib.hid fun w0 h => first_gt _ _ _ _ w0 (by omega) (HPS.out.heap h).2.1.rz
    have i1 : (0 : Int) ≤ (mnI (Yt n y t) n : Int) := by omega
    have i2 : (mnI (Yt n y t) n : Int) < (n : Int) := by omega
    have i3 : (0 : Int) ≤ (mxI (Yt n y t) n : Int) := by omega
    have i4 : (mxI (Yt n y t) n : Int) < (n : Int) := by omega
    by_cases ha : am (Yt n y t) n ≤ 0
    · go_wp2_with (first
        | (go_at_call 46; with_reducible refine (HC1.out _ rfl).mono ?_; rintro e w1 ⟨rfl, k1, rfl⟩)
        | (go_at_call 46; with_reducible refine (HC2.out _ (heap_drewN _ _)).mono ?_; rintro e w1 ⟨rfl, k2, rfl⟩))
      go_quiet (fail)
      rw [← am_if]
      have HH := Lib.hid ha
      generalize am (Yt n y t) n = amt at ha ⊢
      go_wp2_with fail
      go_ret2
      exact ⟨⟨t, A5, c5, rfl, HPD.out, HH.out, RP_own (HPS.out.heap rfl).2.2.1, hc5⟩, below_drewN HBW.out _⟩
    · have ha' : 0 < am (Yt n y t) n := by omega
      have HF := Lib.hid (am_facts hn.1 ha')
      have hroom := HPD.out.room hn.1 ha'
      have hab : am (Yt n y t) n ≤ 64000000000 := by have := HF.out; omega
      have HPN := Lib.hid (HPD.out.next hn.1 ha')
      clear ha
      go_wp2_with (first
        | (go_at_call 46; with_reducible refine (HC1.out _ rfl).mono ?_; rintro e w1 ⟨rfl, k1, rfl⟩)
        | (go_at_call 46; with_reducible refine (HC2.out _ (heap_drewN _ _)).mono ?_; rintro e w1 ⟨rfl, k2, rfl⟩))
      go_quiet (fail)
      rw [← am_if]
      have hps1 := HPS.out.heap (W' := (wr.drewN (k1 + k2)).drewN nq) rfl
      have hbw1 : Below w.heap.size w ((wr.drewN (k1 + k2)).drewN nq) := below_drewN (below_drewN HBW.out _) _
      obtain ⟨wx, hwx⟩ : ∃ wx, (wr.drewN (k1 + k2)).drewN nq = wx := ⟨_, rfl⟩
      rw [hwx] at hps1 hbw1 ⊢
      have HPS1 := Lib.hid hps1
      have HBW1 := Lib.hid hbw1
      have HPM : Hid (tri (pym n y) t ++ [.int .i64 (mnI (Yt n y t) n : Int), .int .i64 (mxI (Yt n y t) n : Int), .int .i64 (am (Yt n y t) n)] = tri (pym n y) (t + 1)) := Lib.hid rfl
      clear HPS HBW hps1 hbw1 hwx cb f1 f2 HC1 HC2 HAM
      have HMV : Hid (Calls Try.prog 44 #[.pointer (some ⟨p, 0, none⟩), .int .i64 (mnI (Yt n y t) n : Int), .int .i64 (mxI (Yt n y t) n : Int), .int .i64 (am (Yt n y t) n)] wx
          fun e w' => e = .returned (.tuple #[]) ∧ PS w.heap.size w' p g n cap (Yt n y (t + 1)) (.slice A5 t c5) t (tri (pym n y) t) ∧ Below w.heap.size w w') := Lib.hid (by
        have hps1 := HPS1.out
        refine (move_any p g n cap (Yt n y t) _ _ _ wx hps1.box hps1.ne.1 hps1.2.1 l1 l2 hn.2 ⟨by omega, hab⟩ HPD.out.2.2.1).mono ?_
        rintro e w' ⟨rfl, hO, hg⟩
        exact ⟨rfl, hps1.moved hO hg, HBW1.out.grown hg HBW1.out.size (fun g' hg' => by cases hg'; exact hps1.2.2.2.2)⟩)
      generalize mnI (Yt n y t) n = iu at *
      generalize mxI (Yt n y t) n = id at *
      generalize am (Yt n y t) n = amt at *
      clear b1 b2 HF
      go_wp2_with (first
        | (go_at_call 44; with_reducible refine (HMV.out).mono ?_; rintro e wm ⟨rfl, hpsm, hbm⟩)
        | (at_builtin; refine wpList_append_lies _ rfl (.tmp 50) (.tmp 55) 49 rfl w.heap.size 54 j0 _ 3 24 Try.underlying49 HJ.out HY0.out HY1.out HY2.out rfl (by omega) (.slice A5 t c5) t _ rfl (hpsm.2.2.1.alloc _) ⟨wm.heap.size, 0, none⟩ 1 1 [.int .i64 (iu : Int), .int .i64 (id : Int), .int .i64 amt] rfl rfl (World.news_of_block (heap_alloc_new wm _)) (by simp [Value.oneCell']) (by omega) (by unfold maxLen; omega) (by omega) (by have := hbm.size; simp; omega) (wm.heap.size + 1) (by simp) ?_; intro g1 cap1 wB hown1 hgrow1 hat1 hlt1; rw [HPM.out] at hown1))
      have hps2 := hpsm.push hgrow1 hown1
      have hbB : Below w.heap.size w wB := (bel_alloc hbm _).grown hgrow1 (bel_alloc hbm _).size (own_ge hpsm.2.2.1)
      go_roundw
      case rel => exact ⟨t + 1, HPN.out, hps2, hbB⟩
      case measure => simp [lenOf] <;> omega
end Go.Proofs.Ytkhmlbkkdflnoaa
