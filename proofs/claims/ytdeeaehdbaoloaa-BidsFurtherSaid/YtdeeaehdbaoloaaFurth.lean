/-
  BidsFurther, the plain part and the memory: a day more; two days exchanged.
-/
import Derived.Test.YtdeeaehdbaoloaaLawsd
namespace Go.Proofs.Ytdeeaehdbaoloaa
open Go.RowKit
set_option linter.unusedVariables false

/-- a day d more at k -/
def shf (k d : Nat) : Nat := if d < k then d else d + 1
def pp (p : Nat → Bool) (k : Nat) : Nat → Bool := fun r => if r < k then p r else if r = k then true else p (r - 1)
def zz (z : Nat → Nat → Int) (k : Nat) (ld : Int) : Nat → Nat → Int := fun r => if r < k then z r else if r = k then (fun _ => ld) else z (r - 1)
theorem pp_shf (p : Nat → Bool) (k d : Nat) : pp p k (shf k d) = p d := by
  unfold pp shf
  by_cases h : d < k
  · simp [h]
  · rw [if_neg h, if_neg (by omega), if_neg (by omega)]; rfl
theorem zz_shf (z : Nat → Nat → Int) (k d : Nat) (ld : Int) : zz z k ld (shf k d) = z d := by
  unfold zz shf
  by_cases h : d < k
  · simp [h]
  · rw [if_neg h, if_neg (by omega), if_neg (by omega)]; rfl
theorem ds_low (p : Nat → Bool) (k : Nat) : ∀ D, D ≤ k → ds (pp p k) D = ds p D := by
  intro D
  induction D with
  | zero => intro _; rfl
  | succ D ih =>
    intro h
    have e : pp p k D = p D := by unfold pp; rw [if_pos (by omega)]
    simp only [ds]
    rw [ih (by omega), e]
theorem ds_shf_low (p : Nat → Bool) (k : Nat) : ∀ D, D ≤ k → (ds p D).map (shf k) = ds p D := by
  intro D hD
  conv => rhs; rw [← List.map_id (ds p D)]
  apply List.map_congr_left
  intro d hd
  have := ds_lt p D d hd
  simp only [shf, id]
  rw [if_pos (by omega)]
theorem ds_shf (p : Nat → Bool) (k : Nat) : ∀ j, ds (pp p k) (k + j + 1) = (ds p (k + j)).map (shf k) := by
  intro j
  induction j with
  | zero =>
    have e : pp p k k = true := by unfold pp; simp
    simp only [Nat.add_zero]
    rw [ds_succ_miss e, ds_low p k k (Nat.le_refl _), ds_shf_low p k k (Nat.le_refl _)]
  | succ j ih =>
    have e : pp p k (k + j + 1) = p (k + j) := by unfold pp; rw [if_neg (by omega), if_neg (by omega)]; congr 1
    have es : shf k (k + j) = k + j + 1 := by unfold shf; rw [if_neg (by omega)]
    rw [show k + (j + 1) + 1 = (k + j + 1) + 1 by omega, show k + (j + 1) = (k + j) + 1 by omega]
    cases hp : p (k + j)
    · rw [ds_succ_hit (e.trans hp), ds_succ_hit hp, ih, List.map_cons, es]
    · rw [ds_succ_miss (e.trans hp), ds_succ_miss hp, ih]
theorem ds_more {p : Nat → Bool} {k D : Nat} (h : k ≤ D) : ds (pp p k) (D + 1) = (ds p D).map (shf k) := by
  obtain ⟨j, rfl⟩ := Nat.exists_eq_add_of_le h
  exact ds_shf p k j
theorem dy_more {p : Nat → Bool} {k D i : Nat} (h : k ≤ D) (hi : i < (ds p D).length) : dy (pp p k) (D + 1) i = shf k (dy p D i) := by
  unfold dy
  rw [ds_more h, List.getD_eq_getElem?_getD, List.getD_eq_getElem?_getD, List.getElem?_map, List.getElem?_eq_getElem hi]
  rfl
theorem bs_further {p : Nat → Bool} {z : Nat → Nat → Int} {k D S : Nat} {ld : Int} (h : k ≤ D) (h5 : 5 ≤ (ds p D).length) : bs (pp p k) (zz z k ld) (D + 1) S = bs p z D S := by
  unfold bs
  congr 1
  apply tot_congr
  intro i hi
  rw [dy_more h (by omega), zz_shf]
theorem lv_further {p : Nat → Bool} {z : Nat → Nat → Int} {k D S : Nat} {ld : Int} (h : k ≤ D) (h5 : 5 ≤ (ds p D).length) : lv (pp p k) (zz z k ld) (D + 1) S = lv p z D S := by
  unfold lv
  rw [bs_further h h5]
  have : zz z k ld (D + 1) = z D := by
    have := zz_shf z k D ld
    rw [show shf k D = D + 1 by unfold shf; rw [if_neg (by omega)]] at this
    exact this
  rw [this]
theorem vd_further {n : Nat} {L : Nat → Nat} {z : Nat → Nat → Int} {k : Nat} {ld : Int} (hv : vd n n L z = true) (hn : 0 < n ∧ n < 60) (hk : k < n) (hl : 0 ≤ ld ∧ ld ≤ 1000) : vd (n + 1) (n + 1) (fun _ => L 0) (zz z k ld) = true := by
  have hvi := vd_iff.1 hv
  have h0 := (hvi.2 0 hn.1).1
  refine vd_iff.2 ⟨by omega, fun i hi => ⟨⟨h0.1, h0.2.1, rfl⟩, fun j hj => ?_⟩⟩
  unfold zz
  by_cases h1 : i < k
  · simp only [h1, if_true]
    have := hvi.2 i (by omega)
    exact this.2 j (by rw [this.1.2.2]; exact hj)
  · by_cases h2 : i = k
    · simp only [h2, Nat.lt_irrefl, if_false, if_true]; exact hl
    · simp only [h1, h2, if_false]
      have := hvi.2 (i - 1) (by omega)
      exact this.2 j (by rw [this.1.2.2]; exact hj)
theorem further_res {n : Nat} {L : Nat → Nat} {z : Nat → Nat → Int} {p : Nat → Bool} {k D S : Nat} {ld : Int} (hv : vd n n L z = true) (hn : 0 < n ∧ n < 60) (hk : k ≤ D) (hD : D < n) (hS : S < L 0) (hl : 0 ≤ ld ∧ ld ≤ 1000) :
    (bE (n + 1) (n + 1) (fun _ => L 0) (zz z k ld) (pp p k) (D + 1 : Nat) S = bE n n L z p D S ∧ bV (n + 1) (n + 1) (fun _ => L 0) (zz z k ld) (pp p k) (D + 1 : Nat) S = bV n n L z p D S) ∧
    (dE (n + 1) (n + 1) (fun _ => L 0) (zz z k ld) (pp p k) (D + 1 : Nat) = dE n n L z p D ∧ dV (n + 1) (n + 1) (fun _ => L 0) (zz z k ld) (pp p k) (D + 1 : Nat) = dV n n L z p D) := by
  have hv2 := vd_further (k := k) hv hn (by omega) hl
  have hLD : L D = L 0 := ((vd_iff.1 hv).2 D hD).1.2.2
  have hlen : (ds (pp p k) (D + 1)).length = (ds p D).length := by rw [ds_more hk]; simp
  have a1 := base_res (p := p) (D := D) (S := S) hv hn.1 (by omega) hS
  have a2 := base_res (p := pp p k) (D := D + 1) (S := S) hv2 (by omega) (by omega) hS
  have d1 := deliv_res (p := p) (D := D) hv hD
  have d2 := deliv_res (p := pp p k) (D := D + 1) hv2 (by omega)
  rw [hlen] at a2 d2
  by_cases h5 : 5 ≤ (ds p D).length
  · rw [(a1.1 h5).1, (a1.1 h5).2, (a2.1 h5).1, (a2.1 h5).2, (d1.1 h5).1, (d1.1 h5).2, (d2.1 h5).1, (d2.1 h5).2, bs_further hk h5, hLD]
    exact ⟨⟨rfl, rfl⟩, rfl, tot_congr fun i _ => lv_further hk h5⟩
  · rw [(a1.2 (by omega)).1, (a1.2 (by omega)).2, (a2.2 (by omega)).1, (a2.2 (by omega)).2, (d1.2 (by omega)).1, (d1.2 (by omega)).2, (d2.2 (by omega)).1, (d2.2 (by omega)).2]
    exact ⟨⟨rfl, rfl⟩, rfl, rfl⟩

/-- two days exchanged -/
def sw (i j d : Nat) : Nat := if d = i then j else if d = j then i else d
theorem tot_swap5 (f : Nat → Int) (a b : Nat) (ha : a < 5) (hb : b < 5) : tot (fun r => f (sw a b r)) 5 = tot f 5 := by
  have h1 : a = 0 ∨ a = 1 ∨ a = 2 ∨ a = 3 ∨ a = 4 := by omega
  have h2 : b = 0 ∨ b = 1 ∨ b = 2 ∨ b = 3 ∨ b = 4 := by omega
  rcases h1 with rfl | rfl | rfl | rfl | rfl <;> rcases h2 with rfl | rfl | rfl | rfl | rfl <;> simp [tot, sw] <;> omega
theorem bs_swap {p : Nat → Bool} {z : Nat → Nat → Int} {i j D S : Nat} (h5 : 5 ≤ (ds p D).length) (hi : ctB p i D = true) (hj : ctB p j D = true) : bs p (fun r => z (sw i j r)) D S = bs p z D S := by
  obtain ⟨a, ha, hal, rfl⟩ := ct_at hi
  obtain ⟨b, hb, hbl, rfl⟩ := ct_at hj
  unfold bs
  congr 1
  rw [← tot_swap5 (fun r => z (dy p D r) S) a b ha hb]
  apply tot_congr
  intro r hr
  have hr2 : r < (ds p D).length := by omega
  simp only
  congr 1
  unfold sw
  by_cases h1 : r = a
  · subst h1; simp
  · have n1 : dy p D r ≠ dy p D a := fun e => h1 (dy_inj hr2 hal e)
    rw [if_neg n1, if_neg h1]
    by_cases h2 : r = b
    · subst h2; simp
    · have n2 : dy p D r ≠ dy p D b := fun e => h2 (dy_inj hr2 hbl e)
      rw [if_neg n2, if_neg h2]
theorem vd_swap {n : Nat} {L : Nat → Nat} {z : Nat → Nat → Int} {i j : Nat} (hv : vd n n L z = true) (hi : i < n) (hj : j < n) : vd n n L (fun r => z (sw i j r)) = true := by
  have hvi := vd_iff.1 hv
  refine vd_iff.2 ⟨hvi.1, fun r hr => ⟨(hvi.2 r hr).1, fun s hs => ?_⟩⟩
  have hlt : sw i j r < n := by unfold sw; split <;> (try split) <;> omega
  have h1 := hvi.2 (sw i j r) hlt
  exact h1.2 s (by rw [h1.1.2.2, ← (hvi.2 r hr).1.2.2]; exact hs)
theorem swap_res {n : Nat} {L : Nat → Nat} {z : Nat → Nat → Int} {p : Nat → Bool} {i j D S : Nat} (hv : vd n n L z = true) (hn : 0 < n) (hD : D ≤ n) (hS : S < L 0) (hi : ctB p i D = true) (hj : ctB p j D = true) :
    bE n n L (fun r => z (sw i j r)) p D S = bE n n L z p D S ∧ bV n n L (fun r => z (sw i j r)) p D S = bV n n L z p D S := by
  have i1 := (ctB_iff.1 hi).1
  have j1 := (ctB_iff.1 hj).1
  have a1 := base_res (p := p) hv hn hD hS
  have a2 := base_res (p := p) (vd_swap (i := i) (j := j) hv (by omega) (by omega)) hn hD hS
  by_cases h5 : 5 ≤ (ds p D).length
  · rw [(a1.1 h5).1, (a1.1 h5).2, (a2.1 h5).1, (a2.1 h5).2, bs_swap h5 hi hj]
    exact ⟨rfl, rfl⟩
  · rw [(a1.2 (by omega)).1, (a1.2 (by omega)).2, (a2.2 (by omega)).1, (a2.2 (by omega)).2]
    exact ⟨rfl, rfl⟩

/-! ### the lists that the law builds -/
theorem infoBool : (Try.prog.info? 4).map (fun i => (i.zero, i.size, i.bytes)) = some (some (.bool false), 1, 1) := by kernel_rfl
def tls (q : Nat → Bool) (n : Nat) : List Value := (List.range n).map fun r => .bool (q r)
theorem tls_succ (q : Nat → Bool) (n : Nat) : tls q (n + 1) = tls q n ++ [.bool (q n)] := by simp [tls, List.range_succ]
theorem tls_get (q : Nat → Bool) (n i : Nat) (h : i < n) : (tls q n)[i]? = some (.bool (q i)) := by simp [tls, h]
def xls (X : Nat → Value) (n : Nat) : List Value := (List.range n).map X
theorem xls_get (X : Nat → Value) (n i : Nat) (h : i < n) : (xls X n)[i]? = some (X i) := by simp [xls, h]
theorem xls_push (X : Nat → Value) (n : Nat) (x : Value) : xls (fun r => if r = n then x else X r) (n + 1) = xls X n ++ [x] := by
  simp only [xls, List.range_succ, List.map_append, List.map_cons, List.map_nil, if_true]
  congr 1
  apply List.map_congr_left
  intro r hr
  have := List.mem_range.1 hr
  rw [if_neg (by omega)]
theorem own_ne {W : World} {b1 b2 : Nat} {e1 e2 : TypeId} {s1 s2 : Nat} {v1 v2 : Value} {n1 n2 : Nat} {x1 x2 : List Value} (h1 : W.ownsRow b1 e1 s1 v1 n1 x1) (h2 : W.ownsRow b2 e2 s2 v2 n2 x2) (hne : e1 ≠ e2) : v1.ownBlock = none ∨ v1.ownBlock ≠ v2.ownBlock := by
  rcases h1.2 with ⟨rfl, _⟩ | ⟨g, c, cur, rfl, _, hg, _⟩
  · exact .inl rfl
  · refine .inr fun e => ?_
    rcases h2.2 with ⟨rfl, _⟩ | ⟨g', c', cur', rfl, _, hg', _⟩
    · simp [Value.ownBlock] at e
    · have : g = g' := by simpa [Value.ownBlock] using e
      subst this
      rw [hg] at hg'
      simp at hg'
      exact hne hg'.2
theorem ownR_ne {W : World} {g l c : Nat} {f : Nat → Int} (h : OwnR W g l c f) {b e s n : Nat} {v : Value} {x : List Value} (h2 : W.ownsRow b e s v n x) (hne : e ≠ 3) : some g ≠ v.ownBlock := by
  obtain ⟨cur, hg, _⟩ := h
  intro ee
  rcases h2.2 with ⟨rfl, _⟩ | ⟨g', c', cur', rfl, _, hg', _⟩
  · simp [Value.ownBlock] at ee
  · have : g = g' := by simpa [Value.ownBlock] using ee
    subst this
    rw [hg] at hg'
    simp at hg'
    exact hne hg'.2.symm
/-- a row that reads in the world at the start -/
def RowX (w0 : World) (l : Nat) (f : Nat → Int) (x : Value) : Prop := ∃ R C, x = .slice R l C ∧ (l ≤ C ∧ C ≤ 9223372036854775807) ∧ (R = none → C = 0) ∧ RZ w0 R l f
/-- q rows and truths have been laid -/
def FLx (w0 : World) (k l : Nat) (z : Nat → Nat → Int) (p : Nat → Bool) (ld : Int) (q gd cd : Nat) (X : Nat → Value) (a t : Value) (W : World) : Prop :=
  W.ownsRow w0.heap.size 33 1 a q (xls X q) ∧ W.ownsRow w0.heap.size 4 1 t q (tls (pp p k) q) ∧ (∀ r, r < q → r ≠ k → RowX w0 l (zz z k ld r) (X r)) ∧ (k < q → X k = .slice (some ⟨gd, 0, none⟩) l cd ∧ OwnR W gd l cd (fun _ => ld)) ∧ Below w0.heap.size w0 W
theorem FLx.push {w0 : World} {k l : Nat} {z : Nat → Nat → Int} {p : Nat → Bool} {ld : Int} {q gd cd : Nat} {X : Nat → Value} {a t a' t' x : Value} {W W1 W2 : World} {o1 o2 : Obj} (h : FLx w0 k l z p ld q gd cd X a t W) (b : Bool)
    (hg1 : (W.alloc o1).grownBy W1 a.ownBlock) (ho1 : W1.ownsRow w0.heap.size 33 1 a' (q + 1) (xls X q ++ [x])) (hg2 : (W1.alloc o2).grownBy W2 t.ownBlock) (ho2 : W2.ownsRow w0.heap.size 4 1 t' (q + 1) (tls (pp p k) q ++ [.bool b]))
    (hb : b = pp p k q) (hx : q ≠ k → RowX w0 l (zz z k ld q) x) (hk : q = k → x = .slice (some ⟨gd, 0, none⟩) l cd ∧ OwnR W gd l cd (fun _ => ld)) :
    FLx w0 k l z p ld (q + 1) gd cd (fun r => if r = q then x else X r) a' t' W2 := by
  obtain ⟨ha, ht, hX, hd, hB⟩ := h
  have ht1 : W1.ownsRow w0.heap.size 4 1 t q (tls (pp p k) q) := (ht.alloc o1).kept hg1 (own_ne ht ha (by decide))
  have ha2 : W2.ownsRow w0.heap.size 33 1 a' (q + 1) (xls X q ++ [x]) := (ho1.alloc o2).kept hg2 (own_ne ho1 ht1 (by decide))
  have hkeep : ∀ {g c : Nat}, OwnR W g l c (fun _ => ld) → OwnR W2 g l c (fun _ => ld) := fun {g c} hO => by
    have o1' : OwnR W1 g l c (fun _ => ld) := hO.keep ((hg1.block g (by simp; have := hO.lt; omega) (ownR_ne hO ha (by decide))).trans (Below.heap_alloc W o1 g hO.lt))
    exact o1'.keep ((hg2.block g (by simp; have := o1'.lt; omega) (ownR_ne o1' ht1 (by decide))).trans (Below.heap_alloc W1 o2 g o1'.lt))
  have hB1 : Below w0.heap.size w0 W1 := (bel_alloc hB o1).grown hg1 (bel_alloc hB o1).size (own_ge ha)
  refine ⟨by rw [xls_push]; exact ha2, by rw [tls_succ, ← hb]; exact ho2, fun r hr hrk => ?_, fun hkq => ?_, (bel_alloc hB1 o2).grown hg2 (bel_alloc hB1 o2).size (own_ge ht)⟩
  · by_cases hrq : r = q
    · subst hrq; simp only [if_true]; exact hx hrk
    · simp only [hrq, if_false]; exact hX r (by omega) hrk
  · by_cases hrq : k = q
    · subst hrq
      obtain ⟨e1, e2⟩ := hk rfl
      exact ⟨by simp only [if_true]; exact e1, hkeep e2⟩
    · obtain ⟨e1, e2⟩ := hd (by omega)
      exact ⟨by simp only [hrq, if_false]; exact e1, hkeep e2⟩
/-- a row of numbers grows meanwhile -/
theorem FLx.grow {w0 : World} {k l : Nat} {z : Nat → Nat → Int} {p : Nat → Bool} {ld : Int} {q gd cd : Nat} {X : Nat → Value} {a t v : Value} {W W1 : World} {o : Obj} {s : Nat} {xs : List Value} (h : FLx w0 k l z p ld q gd cd X a t W) (hq : q ≤ k)
    (hv : W.ownsRow w0.heap.size 3 1 v s xs) (hg : (W.alloc o).grownBy W1 v.ownBlock) : FLx w0 k l z p ld q gd cd X a t W1 := by
  obtain ⟨ha, ht, hX, hd, hB⟩ := h
  exact ⟨(ha.alloc o).kept hg (own_ne ha hv (by decide)), (ht.alloc o).kept hg (own_ne ht hv (by decide)), hX, fun hk => by omega, (bel_alloc hB o).grown hg (bel_alloc hB o).size (own_ge hv)⟩
theorem FLx.change {w0 : World} {k l : Nat} {z : Nat → Nat → Int} {p : Nat → Bool} {ld : Int} {q gd cd gd' cd' : Nat} {X : Nat → Value} {a t : Value} {W : World} (h : FLx w0 k l z p ld q gd cd X a t W) (hq : q ≤ k) : FLx w0 k l z p ld q gd' cd' X a t W :=
  ⟨h.1, h.2.1, h.2.2.1, fun hk => by omega, h.2.2.2.2⟩
theorem FLx.rm {w0 : World} {k l : Nat} {z : Nat → Nat → Int} {p : Nat → Bool} {ld : Int} {q gd cd : Nat} {X : Nat → Value} {A : Option Addr} {c : Nat} {t : Value} {W : World} (h : FLx w0 k l z p ld q gd cd X (.slice A q c) t W) : RM W A q (fun _ => l) (zz z k ld) := fun i hi => by
  obtain ⟨ha, ht, hX, hd, hB⟩ := h
  obtain ⟨g, cap, hv, hb, hlt⟩ := ha.form (by omega)
  cases hv
  have hc : W.cell? ⟨g, 0 + i, none⟩ = some (X i) := by rw [Nat.zero_add, ha.cellAt i (by omega)]; exact xls_get X q i hi
  by_cases hik : i = k
  · subst hik
    obtain ⟨e1, e2⟩ := hd hi
    rw [e1] at hc
    obtain ⟨cur, _, hcc, _⟩ := id e2
    refine ⟨g, 0, _, cd, rfl, hlt, hc, hcc, (fun e => by cases e), ?_⟩
    have : zz z i ld i = fun _ => ld := by unfold zz; simp
    rw [this]
    exact e2.rz
  · obtain ⟨R, C, e, h1, h2, h3⟩ := hX i hi hik
    rw [e] at hc
    exact ⟨g, 0, R, C, rfl, hlt, hc, h1, h2, h3.keep hB⟩
theorem FLx.rp {w0 : World} {k l : Nat} {z : Nat → Nat → Int} {p : Nat → Bool} {ld : Int} {q gd cd : Nat} {X : Nat → Value} {a : Value} {A : Option Addr} {c : Nat} {W : World} (h : FLx w0 k l z p ld q gd cd X a (.slice A q c) W) : RP W A q (pp p k) := fun i hi => by
  obtain ⟨ha, ht, hX, hd, hB⟩ := h
  obtain ⟨g, cap, hv, hb, hlt⟩ := ht.form (by omega)
  cases hv
  exact ⟨g, 0, rfl, hlt, by rw [Nat.zero_add, ht.cellAt i (by omega)]; exact tls_get _ q i hi⟩
/-- two rows of a copy exchanged -/
theorem CP.swap {B n : Nat} {G C L : Nat → Nat} {z : Nat → Nat → Int} {g c : Nat} {W : World} (h : CP B n G C L z (.slice (some ⟨g, 0, none⟩) n c) W) {i j : Nat} (hi : i < n) (hj : j < n) (hL : ∀ r, r < n → L r = L 0) {W2 : World} (hg : W.grownBy W2 (some g))
    (hW : ∀ r, r < n → W2.cell? ⟨g, r, none⟩ = some (.slice (some ⟨G (sw i j r), 0, none⟩) (L (sw i j r)) (C (sw i j r)))) : RM W2 (some ⟨g, 0, none⟩) n L (fun r => z (sw i j r)) := fun r hr => by
  obtain ⟨g', cap, hv, hb, hlt⟩ := h.1.form (by omega)
  cases hv
  have hs : sw i j r < n := by unfold sw; split <;> (try split) <;> omega
  obtain ⟨h1, h2, h3⟩ := h.2 (sw i j r) hs
  have hc := hW r hr
  have eL : L (sw i j r) = L r := by rw [hL _ hs, hL r hr]
  have h4 : OwnR W2 (G (sw i j r)) (L (sw i j r)) (C (sw i j r)) (z (sw i j r)) := h3.keep (hg.block _ h3.lt (fun e => h.far hs (by rw [e]; rfl)))
  rw [eL] at hc h4
  obtain ⟨cur, _, hcc, _⟩ := id h4
  exact ⟨g, 0, _, _, rfl, Nat.lt_of_lt_of_le hlt hg.size, by rw [Nat.zero_add]; exact hc, hcc, (fun e => by cases e), h4.rz⟩
end Go.Proofs.Ytdeeaehdbaoloaa
