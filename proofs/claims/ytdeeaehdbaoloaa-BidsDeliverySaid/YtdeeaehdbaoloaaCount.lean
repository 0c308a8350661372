/-
  THE WALKS over package bids, second part: the iterator 'before', and count.
-/
import Derived.Test.YtdeeaehdbaoloaaWalks
import Derived.RangeFuncNested
import Derived.RangeFuncBound
import Derived.RangeFuncCalls
import Derived.RangeFuncLeaves
import Derived.RangeFuncBox
import Derived.Shelf.Abstract
import Derived.Shelf.RegionOpen
import Derived.OwnWalkIn
import Derived.TacticsInMore
import Derived.LoopNIn
import Derived.LoopIn
import Derived.Maps.AppendAt
namespace Go.Proofs.Ytdeeaehdbaoloaa
open Go.RowKit Go.Shelf
attribute [local go_sem] Oper.semAt_some
set_option linter.unusedVariables false

/-- as RP, in blocks below n₀ -/
def RPn (n₀ : Nat) (w : World) (A : Option Addr) (n : Nat) (p : Nat → Bool) : Prop := ∀ i, i < n → ∃ b o, A = some ⟨b, o, none⟩ ∧ b < n₀ ∧ w.cell? ⟨b, o + i, none⟩ = some (.bool (p i))
theorem RPn.keep {n₀ : Nat} {w w' : World} {A : Option Addr} {n : Nat} {p : Nat → Bool} (x : RPn n₀ w A n p) (hb : Below n₀ w w') : RPn n₀ w' A n p := fun i hi => by
  obtain ⟨b, o, e, hl, hc⟩ := x i hi
  exact ⟨b, o, e, hl, (hb.cell (p := ⟨b, o + i, none⟩) hl).trans hc⟩
/-- what the iterator reads -/
def Rb (n₀ Bd Bb : Nat) (B : Option Addr) (m c : Nat) (p : Nat → Bool) (day : Nat) (W : World) : Prop :=
  W.cell? ⟨Bd, 0, none⟩ = some (.int .i64 (day : Int)) ∧ W.cell? ⟨Bb, 0, none⟩ = some (.slice B m c) ∧ RPn n₀ W B m p
/-- what a round keeps: all below n₀, and the two boxes -/
def Kb (n₀ Bd Bb : Nat) (W W' : World) : Prop := Below n₀ W W' ∧ ∀ j, j = Bd ∨ j = Bb → W'.heap[j]? = W.heap[j]?
theorem Rb.keep {n₀ Bd Bb : Nat} {B : Option Addr} {m c : Nat} {p : Nat → Bool} {day : Nat} {W W' : World} (h : Rb n₀ Bd Bb B m c p day W) (hk : Kb n₀ Bd Bb W W') : Rb n₀ Bd Bb B m c p day W' :=
  ⟨(World.cell?_of_block (hk.2 Bd (.inl rfl))).trans h.1, (World.cell?_of_block (hk.2 Bb (.inr rfl))).trans h.2.1, h.2.2.keep hk.1⟩
theorem Kb.trans {n₀ Bd Bb : Nat} {A B C : World} (h : Kb n₀ Bd Bb A B) (k : Kb n₀ Bd Bb B C) : Kb n₀ Bd Bb A C := ⟨h.1.trans k.1, fun j hj => (k.2 j hj).trans (h.2 j hj)⟩

set_option maxRecDepth 100000 in
set_option maxHeartbeats 2000000 in
theorem before1 (n : Nat) (hn : 1 ≤ n) (l n₀ Bd Bb : Nat) (B : Option Addr) (m c : Nat) (p : Nat → Bool) (day : Nat) (J Jx : List Nat → World → Prop) (hday : day ≤ m) (hm : m ≤ 60)
    (hY : ∀ pre x W1, J pre W1 → pre.length < (ds p day).length → YieldAt Fence.wide (n - 1) Try.prog l #[.int .i64 ((x : Nat) : Int)] W1 fun e W' =>
      (e = .returned (.bool true) ∧ J (pre ++ [x]) W' ∧ Kb n₀ Bd Bb W1 W') ∨ (e = .returned (.bool false) ∧ Jx (pre ++ [x]) W'))
    (W : World) (hR : Rb n₀ Bd Bb B m c p day W) (h0 : J [] W) :
    CallsIn Fence.wide n Try.prog 28 #[.func (.yield l) #[] #[], .pointer (some ⟨Bd, 0, none⟩), .pointer (some ⟨Bb, 0, none⟩)] W fun e W' => (∃ v, e = .returned v) ∧
      ((∃ xs, xs = ds p day ∧ J xs W') ∨ (∃ pre, pre <+: ds p day ∧ Jx pre W')) := by
  have HR := Lib.hid hR
  have HY := Lib.hid hY
  clear hY
  obtain ⟨ca, cw, _⟩ := hR
  refine callsIn_of_wp Try.func28 rfl trivial ?_ rfl
  simp only [Try.ntmps28, List.size_toArray, List.length_cons, List.length_nil, Nat.reduceAdd, Nat.reduceSub, Array.replicate_succ, Array.replicate_zero, List.push_toArray, List.append_toArray, List.nil_append, List.cons_append]
  gi_wp2
  gi_loopw [4] (fun i wr => ∃ (k : Nat) (pre : List Nat), k ≤ day ∧ i = .int .i64 ((k : Int) - 1) ∧ pre ++ ds p k = ds p day ∧ J pre wr ∧ Rb n₀ Bd Bb B m c p day wr) (fun i _ => (intOf i + 1).toNat)
  case atStart => exact ⟨day, [], Nat.le_refl _, rfl, rfl, h0, HR.out⟩
  case round =>
    obtain ⟨k, pre, hk, rfl, hpre, hJ, hrd⟩ := hrel
    have HP := Lib.hid hpre
    clear hpre
    rcases Nat.eq_zero_or_pos k with hk0 | hk0
    · subst hk0
      gi_wp2
      go_end0
      exact ⟨⟨_, rfl⟩, .inl ⟨pre, by have := HP.out; simpa [ds] using this, hJ⟩⟩
    · obtain ⟨k', rfl⟩ : ∃ k', k = k' + 1 := ⟨k - 1, by omega⟩
      rw [show ((k' + 1 : Nat) : Int) - 1 = (k' : Int) by omega]
      obtain ⟨b, o, rfl, hb, hc⟩ := hrd.2.2 k' (by omega)
      have ca := hrd.1
      have cw := hrd.2.1
      cases hp : p k'
      · have hlen : pre.length < (ds p day).length := by rw [← HP.out]; simp [ds, hp]
        have HPK := Lib.hid hp
        obtain ⟨fn, tmps, assign, body, hy, hRd⟩ := HY.out pre k' wr hJ hlen
        gi_wp2
        refine hRd.mono ?_
        rintro e W3 (⟨rfl, hJ3, hk3⟩ | ⟨rfl, hJx3⟩)
        · gi_wp2
          go_roundw
          case rel => exact ⟨k', pre ++ [k'], by omega, rfl, by rw [← HP.out]; simp [ds, HPK.out], hJ3, hrd.keep hk3⟩
          case measure => simp [intOf] <;> omega
        · gi_wp2
          refine bodyPost_ret (results_none rfl _ _ _) rfl ?_
          exact ⟨⟨_, rfl⟩, .inr ⟨pre ++ [k'], ⟨ds p k', by rw [← HP.out]; simp [ds, HPK.out]⟩, hJx3⟩⟩
      · have HPK := Lib.hid hp
        gi_wp2
        refine ⟨fun _ h => (by cases h), ?_⟩
        gi_wp2
        go_roundw
        case rel => exact ⟨k', pre, by omega, rfl, by rw [← HP.out]; simp [ds, HPK.out], hJ, hrd⟩
        case measure => simp [intOf] <;> omega

theorem before_seq (n : Nat) (hn : 1 ≤ n) (n₀ Bd Bb : Nat) (B : Option Addr) (m c : Nat) (p : Nat → Bool) (day : Nat) (hday : day ≤ m) (hm : m ≤ 60) (w : World) (hn₀ : n₀ ≤ w.heap.size) (hBd : Bd < w.heap.size) (hBb : Bb < w.heap.size) (hR : Rb n₀ Bd Bb B m c p day w) :
    SeqStopsK Fence.wide n Try.prog 28 #[.pointer (some ⟨Bd, 0, none⟩), .pointer (some ⟨Bb, 0, none⟩)] (fun x : Nat => #[Value.int .i64 (x : Int)]) (Kb n₀ Bd Bb) (fun xs => xs = ds p day) (fun pre => pre <+: ds p day) (ds p day).length w :=
  fun l J Jx W hW _ _ hY h0 => before1 n hn l n₀ Bd Bb B m c p day J Jx hday hm hY W (hR.keep ⟨hW.mono hn₀, fun j hj => hW.block j (by rcases hj with rfl | rfl <;> assumption)⟩) h0

set_option maxHeartbeats 1000000 in
theorem before_any (B : Option Addr) (m c : Nat) (day : Int) (w : World) :
    Calls Try.prog 27 #[.slice B m c, .int .i64 day] w
      fun e w' => e = .returned (.func (.func 28) #[] #[.pointer (some ⟨w.heap.size + 1, 0, none⟩), .pointer (some ⟨w.heap.size, 0, none⟩)]) ∧
        w' = (w.alloc (.cells #[.slice B m c] 23)).alloc (.cells #[.int .i64 day] 3) := by
  have hmf : ∀ (fn : Fn) (first cap : Array Value) (w : World), (Instr.makeFunc fn first cap).run Try.prog w = .ok (.func fn first cap) w := fun _ _ _ _ => rfl
  go_enter Try.func27, Try.ntmps27
  go_wp2
  go_ret
  exact ⟨rfl, rfl⟩

theorem boxed_other' {W : World} {B : Nat} {t : TypeId} {v : Value} (h : Boxed W B t v) {p : Addr} (hp : B ≠ p.block) (u : Value) : Boxed (W.setCell p u) B t v := (Below.heap_setCell W p u B hp).trans h
/-- the days that have come, as cells -/
def cd (l : List Nat) : List Value := l.map fun (d : Nat) => Value.int .i64 (d : Int)
theorem cd_length (l : List Nat) : (cd l).length = l.length := by simp [cd]
theorem cd_snoc (l : List Nat) (x : Nat) : cd (l ++ [x]) = cd l ++ [.int .i64 (x : Int)] := by simp [cd]

/-- what holds in the loop of count -/
def CI (w : World) (pre : List Nat) (W : World) : Prop :=
  (∃ v, Boxed W (w.heap.size + 1 + 1) 33 v ∧ W.ownsRow (w.heap.size + 5) 3 1 v pre.length (cd pre) ∧ pre.length < 5) ∧ Boxed W w.heap.size 33 (.slice none 0 0) ∧ Boxed W (w.heap.size + 1) 26 (.int .i64 0) ∧ Below w.heap.size w W ∧ w.heap.size + 5 ≤ W.heap.size
def CX (w : World) (c : Code) (pre : List Nat) (W : World) : Prop :=
  (∃ v, Boxed W w.heap.size 33 v ∧ W.ownsRow (w.heap.size + 5) 3 1 v pre.length (cd pre) ∧ (c = .ret ∧ pre.length = 5)) ∧ Boxed W (w.heap.size + 1) 26 (.int .i64 0) ∧ Below w.heap.size w W

theorem kept_low {A B : World} {row : Option Nat} {n j : Nat} {o : Obj} (hg : A.grownBy B row) (hr : ∀ r, row = some r → n ≤ r ∧ ∃ o, A.heap[r]? = some o ∧ o.isCells = false) (hj : j < n) (h : A.heap[j]? = some o) : B.heap[j]? = some o :=
  (hg.block j (Array.getElem?_eq_some_iff.1 h).1 (fun e => by have := (hr j e.symm).1; omega)).trans h
theorem CI.own (w : World) (n : Nat) (hn : w.heap.size + 3 ≤ n) : OwnFrom n (CI w) := by
  rintro s A B row ⟨x1, x2, x3, x4, x5⟩ hg hr
  exact ⟨Own.from (holdsRow_own (w.heap.size + 5) (w.heap.size + 1 + 1) 33 3 1 (fun pre : List Nat => pre.length) (fun pre => cd pre) (fun pre _ => pre.length < 5)) n s A B row x1 hg hr, kept_low hg hr (by omega) x2, kept_low hg hr (by omega) x3, ownFrom_below (β := Unit) (Nat.le_refl _) (by omega) () A B row x4 hg hr, Nat.le_trans x5 hg.size⟩
theorem CX.own (w : World) (c : Code) (n : Nat) (hn : w.heap.size + 3 ≤ n) : OwnFrom n (CX w c) := by
  rintro s A B row ⟨x1, x3, x4⟩ hg hr
  exact ⟨Own.from (holdsRow_own (w.heap.size + 5) w.heap.size 33 3 1 (fun pre : List Nat => pre.length) (fun pre => cd pre) (fun pre _ => c = .ret ∧ pre.length = 5)) n s A B row x1 hg hr, kept_low hg hr (by omega) x3, ownFrom_below (β := Unit) (Nat.le_refl _) (by omega) () A B row x4 hg hr⟩
theorem CW.mk' (w : World) (B : Option Addr) (m c : Nat) (day : Int) :
    let W := (((((w.alloc (.cells #[.slice none 0 0] 33)).alloc (.cells #[.int .i64 0] 26)).alloc (.cells #[.slice none 0 0] 33)).alloc (.cells #[.slice B m c] 23)).alloc (.cells #[.int .i64 day] 3))
    CI w [] W ∧ Boxed W (w.heap.size + 1 + 1 + 1) 23 (.slice B m c) ∧ Boxed W (w.heap.size + 1 + 1 + 1 + 1) 3 (.int .i64 day) ∧ W.heap.size = w.heap.size + 1 + 1 + 1 + 1 + 1 := by
  refine ⟨⟨⟨.slice none 0 0, ?_, World.ownsRow_nil _ _ _ _, by simp⟩, ?_, ?_, bel_alloc (bel_alloc (bel_alloc (bel_alloc (bel_alloc (Below.refl _ _) _) _) _) _) _, by simp⟩, ?_, ?_, by simp⟩
  · have := ((Boxed.new ((w.alloc (.cells #[.slice none 0 0] 33)).alloc (.cells #[.int .i64 0] 26)) 33 (.slice none 0 0)).alloc (.cells #[.slice B m c] 23)).alloc (.cells #[.int .i64 day] 3)
    simpa using this
  · exact ((((Boxed.new w 33 (.slice none 0 0)).alloc _).alloc _).alloc _).alloc _
  · have := (((Boxed.new (w.alloc (.cells #[.slice none 0 0] 33)) 26 (.int .i64 0)).alloc (.cells #[.slice none 0 0] 33)).alloc (.cells #[.slice B m c] 23)).alloc (.cells #[.int .i64 day] 3)
    simpa using this
  · have := (Boxed.new (((w.alloc (.cells #[.slice none 0 0] 33)).alloc (.cells #[.int .i64 0] 26)).alloc (.cells #[.slice none 0 0] 33)) 23 (.slice B m c)).alloc (.cells #[.int .i64 day] 3)
    simpa using this
  · have := Boxed.new ((((w.alloc (.cells #[.slice none 0 0] 33)).alloc (.cells #[.int .i64 0] 26)).alloc (.cells #[.slice none 0 0] 33)).alloc (.cells #[.slice B m c] 23)) 3 (.int .i64 day)
    simpa using this
/-- an owned row of days reads as the days that count -/
theorem RZ_days {w : World} {base : Nat} {A : Option Addr} {c : Nat} {p : Nat → Bool} {day : Nat} {pre : List Nat} (h5 : pre.length = 5) (hp : pre <+: ds p day) (h : w.ownsRow base 3 1 (.slice A 5 c) 5 (cd pre)) : RZ w A 5 (fun i => (dy p day i : Int)) := fun i hi => by
  obtain ⟨g, cap, hv, hb, hlt⟩ := h.form (by omega)
  cases hv
  refine ⟨g, 0, rfl, hlt, ?_⟩
  rw [Nat.zero_add, h.cellAt i (by omega)]
  obtain ⟨t, ht⟩ := hp
  have : dy p day i = pre[i]'(by omega) := by
    unfold dy
    rw [← ht, List.getD_eq_getElem?_getD, List.getElem?_append_left (by omega), List.getElem?_eq_getElem (by omega)]
    rfl
  show (cd pre)[i]? = some (Value.int .i64 (dy p day i : Int))
  rw [this]
  simp [cd, h5, hi]

theorem own_row {w : World} {base : Nat} {e : TypeId} {size : Nat} {v : Value} {n : Nat} {xs : List Value} (h : w.ownsRow base e size v n xs) {j : Nat} (hj : j < base) : v.ownBlock = none ∨ v.ownBlock ≠ some j := by
  by_cases hv : v.ownBlock = some j
  · have := own_ge h j hv; omega
  · exact .inr hv
/-- as Boxed.appended, the box below the row's base -/
theorem app2 {W w1 : World} {n₁ base B : Nat} {t e : TypeId} {size : Nat} {v v' : Value} {k m : Nat} {xs ys : List Value} {tmp : Obj}
    (hv : Boxed W B t v) (hte : t ≠ e) (hrow : W.ownsRow base e size v k xs) (hn : n₁ ≤ W.heap.size) (hB : n₁ ≤ B) (hb : n₁ ≤ base)
    (hown' : w1.ownsRow base e size v' m ys) (hgrow : (W.alloc tmp).grownBy w1 v.ownBlock) :
    Boxed w1 B t v ∧ Boxed (w1.setCell ⟨B, 0, none⟩ v') B t v' ∧ (w1.setCell ⟨B, 0, none⟩ v').ownsRow base e size v' m ys ∧ KeepsOthers W (w1.setCell ⟨B, 0, none⟩ v') ∧ Below n₁ W (w1.setCell ⟨B, 0, none⟩ v') ∧
      ∀ j, j < W.heap.size → j < base → j ≠ B → (w1.setCell ⟨B, 0, none⟩ v').heap[j]? = W.heap[j]? := by
  have hv1 : Boxed w1 B t v := (hv.alloc tmp).kept hgrow (hv.not_row hte hrow)
  have hge := own_ge hrow
  refine ⟨hv1, hv1.set v', hown'.kept (grownBy_setCell' w1 B v') (.inr (hv1.not_row hte hown').symm), ?_, ?_, ?_⟩
  · refine ((KeepsOthers.alloc W tmp).trans (KeepsOthers.of_grownBy hgrow fun j o ej hj => ?_)).trans (KeepsOthers.setCell _ _ _)
    rcases (hrow.alloc tmp).2 with ⟨rfl, _⟩ | ⟨g, cap, cur, rfl, _, hgb, _⟩
    · simp [Value.ownBlock] at ej
    · obtain rfl : g = j := by simpa [Value.ownBlock] using ej
      rw [hgb] at hj; cases hj; rfl
  · exact (((Below.refl n₁ W).alloc hn tmp).grown hgrow (by simp; omega) fun j ej => by have := hge j ej; omega).setCell (p := ⟨B, 0, none⟩) hB v'
  · intro j hj hjb hjB
    rw [Below.heap_setCell w1 ⟨B, 0, none⟩ v' j hjB, hgrow.block j (by simp; omega) (fun ej => by have := hge j ej.symm; omega)]
    exact Below.heap_alloc W tmp j hj

set_option maxRecDepth 100000 in
set_option maxHeartbeats 2000000 in
theorem count_any (B : Option Addr) (m c : Nat) (p : Nat → Bool) (day : Nat) (w : World) (hday : day ≤ m) (hm : m ≤ 60) (hP : RP w B m p) :
    Calls Try.prog 22 #[.slice B m c, .int .i64 (day : Int)] w
      fun e w' => Below w.heap.size w w' ∧ ((5 ≤ (ds p day).length ∧ ∃ g cap, e = .returned (.tuple #[.slice (some ⟨g, 0, none⟩) 5 cap, .int .i64 0]) ∧ RZ w' (some ⟨g, 0, none⟩) 5 (fun i => (dy p day i : Int))) ∨
        ((ds p day).length < 5 ∧ e = .returned (.tuple #[.slice none 0 0, .int .i64 4]))) := by
  obtain ⟨i0, hi, hz0, hz1, hz2⟩ := info_parts infoInt
  have HP := Lib.hid hP
  clear hP
  refine (callsIn_wide (n := 9)).1 ?_
  refine callsIn_of_wp_marks Try.func22 rfl trivial ?_ rfl
  simp only [Try.ntmps22, List.size_toArray, List.length_cons, List.length_nil, Nat.reduceAdd, Nat.reduceSub, Array.replicate_succ, Array.replicate_zero, List.push_toArray, List.append_toArray, List.nil_append, List.cons_append]
  gi_wp2_with (refine ⟨trivial, ?_⟩; gi_at_call 27; refine (callsIn_wide.2 (before_any B m c day _)).mono ?_; rintro e w2 ⟨rfl, rfl⟩)
  have g0 := CW.mk' w B m c day
  obtain ⟨W0, hW0⟩ : ∃ W0, (((((w.alloc (.cells #[.slice none 0 0] 33)).alloc (.cells #[.int .i64 0] 26)).alloc (.cells #[.slice none 0 0] 33)).alloc (.cells #[.slice B m c] 23)).alloc (.cells #[.int .i64 day] 3)) = W0 := ⟨_, rfl⟩
  rw [hW0] at g0 ⊢
  clear hW0
  obtain ⟨hI0, gb, gd, hsz⟩ := g0
  have hB0 := hI0.2.2.2.1
  have hdl := ds_len p day
  have hRb : Rb w.heap.size (w.heap.size + 1 + 1 + 1 + 1) (w.heap.size + 1 + 1 + 1) B m c p day W0 := ⟨gd.cell, gb.cell, fun i hi => by
    obtain ⟨b, o, e, hl, hc⟩ := HP.out i hi
    exact ⟨b, o, e, hl, (hB0.cell (p := ⟨b, o + i, none⟩) hl).trans hc⟩⟩
  refine wpIn_rangeFunc_ownF rfl (by omega) (gf := 28) (lb := #[.pointer (some ⟨w.heap.size + 1 + 1 + 1 + 1, 0, none⟩), .pointer (some ⟨w.heap.size + 1 + 1 + 1, 0, none⟩)]) rfl trivial (enters_of Try.func28 (by kernel_rfl) rfl)
    (before_seq 8 (by omega) w.heap.size (w.heap.size + 1 + 1 + 1 + 1) (w.heap.size + 1 + 1 + 1) B m c p day hday hm W0 (by omega) (by omega) (by omega) hRb)
    Kb.trans (fun W l o o' hl hW h1 h2 => ⟨belowK_b (w := W0) (by omega) W l o o' hl hW h1 h2, fun j hj => World.putObj_heap_other (by rcases hj with rfl | rfl <;> omega)⟩) (Below.refl _ _) (fun _ => rfl)
    (CI w) (CX w) (CI.own w _ (by omega)) (fun c => CX.own w c _ (by omega)) hI0
    (fun x => { tmps := #[.slice B m c, .int .i64 (day : Int), undef, undef, .pointer (some ⟨w.heap.size, 0, none⟩), .pointer (some ⟨w.heap.size + 1, 0, none⟩), .pointer (some ⟨w.heap.size + 1 + 1, 0, none⟩), .int .i64 ((x : Nat) : Int), .slice B m c, .int .i64 (day : Int),
      .func (.func 28) #[] #[.pointer (some ⟨w.heap.size + 1 + 1 + 1 + 1, 0, none⟩), .pointer (some ⟨w.heap.size + 1 + 1 + 1, 0, none⟩)], .int .i64 ((x : Nat) : Int), undef, undef, undef, undef, undef, undef, undef, undef], defers := [] }) ?assign ?body ?done ?stop
  case assign =>
    intro l x W K hK
    gi_wp2
    exact hK
  case body =>
    rintro l pre x W ⟨⟨v, hv, hrow, h5⟩, hb4, hb5, hB, hw5⟩ hlen
    have hws := hB.size
    have hvc := hv.cell
    have hvl := hv.lt
    have hx5 : (pre ++ [x]).length = pre.length + 1 := by simp
    have HX5 := Lib.hid hx5
    clear hx5
    by_cases h4 : pre.length + 1 = 5
    · have e4 : (((pre.length + 1 : Nat) : Int) == 5) = true := by simp; omega
      have H4 := Lib.hid h4
      clear h4
      have c4 := hb4.cell
      gi_wp2_with (gi_at_builtin; refine wpListIn_append_own _ rfl (.tmp 12) (.tmp 14) 33 rfl (w.heap.size + 5) 3 i0 _ 1 8 Try.underlying33 hi hz0 hz1 hz2 rfl (by decide) v pre.length _ rfl (hrow.alloc _) ⟨W.heap.size, 0, none⟩ 1 1 [.int .i64 (x : Int)] rfl rfl (cell_one_new _ _ _) (by simp [Value.oneCell']) (by unfold maxLen; omega) (by omega) (by simp; omega) ?_; intro v' w1 hown' hgrow _; obtain ⟨g', cap', rfl⟩ := ownsRow_succ hown'; obtain ⟨hv1, hv2, hr2, hk2, hb2, hq⟩ := app2 (n₁ := w.heap.size) hv (by decide) hrow hws (by omega) (by omega) hown' hgrow; have hc1 := hv1.cell; have hf1 := hv1.frozen; have hc2 := hv2.cell; have r4 : Boxed (w1.setCell ⟨w.heap.size + 1 + 1, 0, none⟩ (.slice (some ⟨g', 0, none⟩) (pre.length + 1) cap')) w.heap.size 33 (.slice none 0 0) := (hq _ (by omega) (by omega) (by omega)).trans hb4; have r5 : Boxed (w1.setCell ⟨w.heap.size + 1 + 1, 0, none⟩ (.slice (some ⟨g', 0, none⟩) (pre.length + 1) cap')) (w.heap.size + 1) 26 (.int .i64 0) := (hq _ (by omega) (by omega) (by omega)).trans hb5; have HQ := Lib.hid hq; clear hq; have rc4 := r4.cell; have rf4 := r4.frozen; have rc5 := r5.cell; have rf5 := r5.frozen)
      have hB2 := hB.trans hb2
      refine ⟨(hk2.trans (KeepsOthers.setCell _ _ _)).trans (KeepsOthers.setCell _ _ _), ⟨_, boxed_other' (r4.set _) (by simp) _, ?_, rfl, by rw [HX5.out]; exact H4.out⟩, (boxed_other' r5 (by simp) _).set _, (hB2.setCell (p := ⟨w.heap.size, 0, none⟩) (by simp) _).setCell (p := ⟨w.heap.size + 1, 0, none⟩) (by simp) _⟩
      rw [cd_snoc, HX5.out]
      exact (hr2.kept (grownBy_setCell' _ w.heap.size _) (own_row hr2 (by omega))).kept (grownBy_setCell' _ (w.heap.size + 1) _) (own_row hr2 (by omega))
    · have e4 : (((pre.length + 1 : Nat) : Int) == 5) = false := by simp; omega
      have H4 := Lib.hid h4
      clear h4
      gi_wp2_with (gi_at_builtin; refine wpListIn_append_own _ rfl (.tmp 12) (.tmp 14) 33 rfl (w.heap.size + 5) 3 i0 _ 1 8 Try.underlying33 hi hz0 hz1 hz2 rfl (by decide) v pre.length _ rfl (hrow.alloc _) ⟨W.heap.size, 0, none⟩ 1 1 [.int .i64 (x : Int)] rfl rfl (cell_one_new _ _ _) (by simp [Value.oneCell']) (by unfold maxLen; omega) (by omega) (by simp; omega) ?_; intro v' w1 hown' hgrow _; obtain ⟨g', cap', rfl⟩ := ownsRow_succ hown'; obtain ⟨hv1, hv2, hr2, hk2, hb2, hq⟩ := app2 (n₁ := w.heap.size) hv (by decide) hrow hws (by omega) (by omega) hown' hgrow; have hc1 := hv1.cell; have hf1 := hv1.frozen; have hc2 := hv2.cell; have r4 : Boxed (w1.setCell ⟨w.heap.size + 1 + 1, 0, none⟩ (.slice (some ⟨g', 0, none⟩) (pre.length + 1) cap')) w.heap.size 33 (.slice none 0 0) := (hq _ (by omega) (by omega) (by omega)).trans hb4; have r5 : Boxed (w1.setCell ⟨w.heap.size + 1 + 1, 0, none⟩ (.slice (some ⟨g', 0, none⟩) (pre.length + 1) cap')) (w.heap.size + 1) 26 (.int .i64 0) := (hq _ (by omega) (by omega) (by omega)).trans hb5; have HQ := Lib.hid hq; clear hq; have rc4 := r4.cell; have rf4 := r4.frozen; have rc5 := r5.cell; have rf5 := r5.frozen)
      refine ⟨hk2, ⟨hb2, fun j hj => HQ.out j (by rcases hj with rfl | rfl <;> omega) (by rcases hj with rfl | rfl <;> omega) (by rcases hj with rfl | rfl <;> omega)⟩, ⟨⟨_, hv2, by rw [cd_snoc, HX5.out]; exact hr2, by rw [HX5.out]; have := H4.out; omega⟩, r4, r5, hB.trans hb2, ?_⟩⟩
      have := hb2.size
      omega
  case done =>
    rintro D ys W hD rfl ⟨⟨v, hv, hrow, h5⟩, hb4, hb5, hB, hw5⟩ hK
    have c1 := hb4.cell
    have f1 := hb4.frozen
    have c2 := hb5.cell
    have f2 := hb5.frozen
    gi_wp2
    have hK' := ((KeepsOthers.setCell W ⟨w.heap.size, 0, none⟩ (.slice none 0 0)).trans (KeepsOthers.setCell _ ⟨w.heap.size + 1, 0, none⟩ (.int .i64 4))).same D _ hK rfl
    refine ⟨by simp, .inl ⟨_, _, rfl, run_takeDeferred hK', ?_⟩⟩
    have e1 := cell_kept (boxed_other' (hb4.set (.slice none 0 0)) (by simp) (p := ⟨w.heap.size + 1, 0, none⟩) (.int .i64 4)).cell (grownBy_putObj' _ D (.deferred none)) (fun r e => by cases e; exact ⟨_, hK', rfl⟩)
    have e2 := cell_kept ((boxed_other' hb5 (by simp) (p := ⟨w.heap.size, 0, none⟩) (.slice none 0 0)).set (.int .i64 4)).cell (grownBy_putObj' _ D (.deferred none)) (fun r e => by cases e; exact ⟨_, hK', rfl⟩)
    refine ⟨.tuple #[.slice none 0 0, .int .i64 4], by simp [results, Try.f22, go_sem, e1, e2], ?_, .inr ⟨h5, rfl⟩⟩
    exact ((hB.setCell (p := ⟨w.heap.size, 0, none⟩) (by simp) _).setCell (p := ⟨w.heap.size + 1, 0, none⟩) (by simp) _).trans (belowK_b (w := w) (Nat.le_refl _) _ D _ _ (by omega) hK' rfl rfl)
  case stop =>
    rintro D c pre W hD hpre ⟨⟨v, hv, hrow, rfl, h5⟩, hb5, hB⟩ hK
    gi_wp2
    refine ⟨by simp, .inl ⟨_, _, rfl, run_takeDeferred hK, ?_⟩⟩
    rw [h5] at hrow
    obtain ⟨g, cap, rfl, _, _⟩ := hrow.form (by omega)
    have e1 := cell_kept hv.cell (grownBy_putObj' _ D (.deferred none)) (fun r e => by cases e; exact ⟨_, hK, rfl⟩)
    have e2 := cell_kept hb5.cell (grownBy_putObj' _ D (.deferred none)) (fun r e => by cases e; exact ⟨_, hK, rfl⟩)
    refine ⟨.tuple #[.slice (some ⟨g, 0, none⟩) 5 cap, .int .i64 0], by simp [results, Try.f22, go_sem, e1, e2], hB.trans (belowK_b (w := w) (Nat.le_refl _) _ D _ _ (by omega) hK rfl rfl), .inl ⟨?_, g, cap, rfl, RZ_days h5 hpre (ownsRow_putObj hrow _ hK rfl)⟩⟩
    obtain ⟨t, ht⟩ := hpre
    rw [← ht, List.length_append]
    omega
end Go.Proofs.Ytdeeaehdbaoloaa
