/-
  THE WALK of fuse.Melts: the loop over the iterator.
-/
import Derived.Test.YthjclpfddfjfhaaPlain
namespace Go.Proofs.Ythjclpfddfjfhaa
open Go.RowKit Go.Shelf
attribute [local go_sem] Oper.semAt_some
set_option linter.unusedVariables false

set_option maxHeartbeats 1000000 in
/-- w.heats(amps): its two parameters boxed, the closure over both boxes -/
theorem heats_any (bw : Nat) (A : Option Addr) (len cap : Nat) (w : World) :
    Calls Try.prog 26 #[.pointer (some ⟨bw, 0, none⟩), .slice A len cap] w
      fun e w' => e = .returned (.func (.func 31) #[] #[.pointer (some ⟨w.heap.size + 1, 0, none⟩), .pointer (some ⟨w.heap.size, 0, none⟩)]) ∧
        w' = (w.alloc (.cells #[.pointer (some ⟨bw, 0, none⟩)] 43)).alloc (.cells #[.slice A len cap] 24) := by
  have hmf : ∀ (fn : Fn) (first cap : Array Value) (w : World), (Instr.makeFunc fn first cap).run Try.prog w = .ok (.func fn first cap) w := fun _ _ _ _ => rfl
  go_enter Try.func26, Try.ntmps26
  go_wp2
  go_ret
  exact ⟨rfl, rfl⟩

set_option maxRecDepth 100000 in
set_option maxHeartbeats 1000000 in
theorem melts_long (r h : Int) (A : Option Addr) (len cap : Nat) (w : World) (hl : 10000 < len) (hl2 : len ≤ 9223372036854775807) :
    Calls Try.prog 13 #[.agg #[.int .i64 r, .int .i64 h], .slice A len cap] w
      fun e w' => e = .returned (.tuple #[.int .i64 0, .int .i64 2]) ∧ Below w.heap.size w w' := by
  refine (callsIn_wide (n := 9)).1 ?_
  refine callsIn_of_wp_marks Try.func13 rfl trivial ?_ rfl
  simp only [Try.ntmps13, List.size_toArray, List.length_cons, List.length_nil, Nat.reduceAdd, Nat.reduceSub, Array.replicate_succ, Array.replicate_zero, List.push_toArray, List.append_toArray, List.nil_append, List.cons_append]
  gi_wp2
  refine ⟨.tuple #[.int .i64 0, .int .i64 2], by simp [results, Try.f13, go_sem], rfl, ?_⟩
  exact bel_alloc (bel_alloc (bel_alloc (Below.refl _ _) _) _) _

/-- the slice at A reads as these len numbers -/
def RZ (w : World) (A : Option Addr) (len : Nat) (z : Nat → Int) : Prop := ∀ i, i < len → ∃ b o, A = some ⟨b, o, none⟩ ∧ b < w.heap.size ∧ w.cell? ⟨b, o + i, none⟩ = some (.int .i64 (z i))
theorem RZ.keep {w w' : World} {A : Option Addr} {len : Nat} {z : Nat → Int} (x : RZ w A len z) (hb : Below w.heap.size w w') : RZ w' A len z := fun i hi => by
  obtain ⟨b, o, e, hl, hc⟩ := x i hi
  exact ⟨b, o, e, Nat.lt_of_lt_of_le hl hb.size, (hb.cell (p := ⟨b, o + i, none⟩) hl).trans hc⟩

/-- all are currents -/
def allB (z : Nat → Int) (len : Nat) : Bool := decide (∀ i, i < len → inB (z i) 0 1000 = true)
/-- what Melts returns for at most 10000 currents -/
def mE (r h : Int) (z : Nat → Int) (len : Nat) : Int := if (vF r h && allB z len) = true then 0 else 1
def mV (r h : Int) (z : Nat → Int) (len : Nat) : Int := if mE r h z len = 0 then mt r h z len else 0
theorem mE_no {r h : Int} {z : Nat → Int} {len k : Nat} (hk : k < len) (hz : inB (z k) 0 1000 = false) : mV r h z len = 0 ∧ mE r h z len = 1 := by
  have ha : allB z len = false := decide_eq_false fun hh => by have := hh k hk; rw [hz] at this; cases this
  simp [mV, mE, ha]
theorem mE_yes {r h : Int} {z : Nat → Int} {len : Nat} (hv : vF r h = true) (hz : ∀ i, i < len → inB (z i) 0 1000 = true) : mV r h z len = mt r h z len ∧ mE r h z len = 0 := by
  have ha : allB z len = true := decide_eq_true hz
  simp [mV, mE, ha, hv]

/-- behind valid: the three boxes of Melts -/
def ME (w w1 : World) (r h : Int) : Prop := FB w1 w.heap.size r h ∧ Boxed w1 (w.heap.size + 1) 3 (.int .i64 0) ∧ Boxed w1 (w.heap.size + 1 + 1) 26 (.int .i64 0) ∧ Below w.heap.size w w1
theorem ME.mk' {w w1 : World} {r h : Int} (hb : Below (((w.alloc (.cells #[.int .i64 r, .int .i64 h] 23)).alloc (.cells #[.int .i64 0] 3)).alloc (.cells #[.int .i64 0] 26)).heap.size
    (((w.alloc (.cells #[.int .i64 r, .int .i64 h] 23)).alloc (.cells #[.int .i64 0] 3)).alloc (.cells #[.int .i64 0] 26)) w1) : ME w w1 r h := by
  have b1 : Boxed (((w.alloc (.cells #[.int .i64 r, .int .i64 h] 23)).alloc (.cells #[.int .i64 0] 3)).alloc (.cells #[.int .i64 0] 26)) (w.heap.size + 1) 3 (.int .i64 0) := by
    have := (Boxed.new (w.alloc (.cells #[.int .i64 r, .int .i64 h] 23)) 3 (.int .i64 0)).alloc (.cells #[.int .i64 0] 26)
    simpa using this
  have b2 : Boxed (((w.alloc (.cells #[.int .i64 r, .int .i64 h] 23)).alloc (.cells #[.int .i64 0] 3)).alloc (.cells #[.int .i64 0] 26)) (w.heap.size + 1 + 1) 26 (.int .i64 0) := by
    have := (Boxed.new ((w.alloc (.cells #[.int .i64 r, .int .i64 h] 23)).alloc (.cells #[.int .i64 0] 3)) 26 (.int .i64 0))
    simpa using this
  exact ⟨(((FB.new w r h).alloc _).alloc _).keep hb, (hb.block _ b1.lt).trans b1, (hb.block _ b2.lt).trans b2, bel_step (bel_alloc (bel_alloc (bel_alloc (Below.refl _ _) _) _) _) hb⟩

set_option maxRecDepth 100000 in
set_option maxHeartbeats 1000000 in
theorem melts_v (r h : Int) (A : Option Addr) (len cap : Nat) (w : World) (hl : len ≤ 10000) (hv : vF r h = false) :
    Calls Try.prog 13 #[.agg #[.int .i64 r, .int .i64 h], .slice A len cap] w
      fun e w' => e = .returned (.tuple #[.int .i64 0, .int .i64 1]) ∧ Below w.heap.size w w' := by
  refine (callsIn_wide (n := 9)).1 ?_
  refine callsIn_of_wp_marks Try.func13 rfl trivial ?_ rfl
  simp only [Try.ntmps13, List.size_toArray, List.length_cons, List.length_nil, Nat.reduceAdd, Nat.reduceSub, Array.replicate_succ, Array.replicate_zero, List.push_toArray, List.append_toArray, List.nil_append, List.cons_append]
  gi_wp2_with (refine ⟨trivial, ?_⟩; gi_at_call 20; refine (callsIn_wide.2 (valid_any r h _)).mono ?_; rintro e w1 ⟨rfl, hb⟩; rw [hv]; have m := ME.mk' hb; clear hb; obtain ⟨_, b1, b2, h1⟩ := m; have c1 := b1.cell; have f1 := b1.frozen; have c2 := b2.cell; have f2 := b2.frozen)
  refine ⟨.tuple #[.int .i64 0, .int .i64 1], by simp [results, Try.f13, go_sem, c1, c2], rfl, ?_⟩
  exact (h1.setCell (p := ⟨w.heap.size + 1, 0, none⟩) (by simp) _).setCell (p := ⟨w.heap.size + 1 + 1, 0, none⟩) (by simp; omega) _

theorem all_snoc {P : Nat → Prop} {k : Nat} (h : ∀ j, j < k → P j) (hk : P k) : ∀ j, j < k + 1 → P j := fun j hj => by
  rcases Nat.lt_or_ge j k with h' | h'
  · exact h j h'
  · obtain rfl : j = k := by omega
    exact hk
theorem boxed_other' {W : World} {B : Nat} {t : TypeId} {v : Value} (h : Boxed W B t v) {p : Addr} (hp : B ≠ p.block) (u : Value) : Boxed (W.setCell p u) B t v := (Below.heap_setCell W p u B hp).trans h

/-- what holds in the loop over the heats: k rounds are over, the heat is that of m ticks -/
def MI (w w1 : World) (r h : Int) (z : Nat → Int) (k m : Nat) (W : World) : Prop :=
  WB W w1.heap.size r h (ht r z m) ∧ Boxed W (w1.heap.size + 1) 43 (.pointer (some ⟨w1.heap.size, 0, none⟩)) ∧ Boxed W (w.heap.size + 1) 3 (.int .i64 0) ∧ Boxed W (w.heap.size + 1 + 1) 26 (.int .i64 0) ∧ Below w.heap.size w W ∧ ∀ i, i < k → ht r z (i + 1) ≤ h
/-- it has melted -/
def MX (w : World) (r h : Int) (z : Nat → Int) (c : Code) (k : Nat) (W : World) : Prop :=
  c = .ret ∧ ∃ i : Nat, k = i + 1 ∧ (∀ j, j < i → ht r z (j + 1) ≤ h) ∧ h < ht r z (i + 1) ∧ Boxed W (w.heap.size + 1) 3 (.int .i64 i) ∧ Boxed W (w.heap.size + 1 + 1) 26 (.int .i64 0) ∧ Below w.heap.size w W
theorem kept_low {A B : World} {row : Option Nat} {n j : Nat} {o : Obj} (hg : A.grownBy B row) (hr : ∀ r, row = some r → n ≤ r ∧ ∃ o, A.heap[r]? = some o ∧ o.isCells = false) (hj : j < n) (h : A.heap[j]? = some o) : B.heap[j]? = some o :=
  (hg.block j (Array.getElem?_eq_some_iff.1 h).1 (fun e => by have := (hr j e.symm).1; omega)).trans h
theorem MI.own (w w1 : World) (r h : Int) (z : Nat → Int) (β : Type) (f g : β → Nat) (n : Nat) (hn : w1.heap.size + 2 ≤ n) (hw : w.heap.size ≤ w1.heap.size) (hb : w.heap.size + 1 + 1 < w1.heap.size) : OwnFrom n (fun (pre : β) W => MI w w1 r h z (f pre) (g pre) W) := by
  rintro s A B row ⟨x1, x2, x3, x4, x5, x6⟩ hg hr
  exact ⟨kept_low hg hr (by omega) x1, kept_low hg hr (by omega) x2, kept_low hg hr (by omega) x3, kept_low hg hr (by omega) x4, ownFrom_below (β := Unit) (Nat.le_refl _) (by omega) () A B row x5 hg hr, x6⟩
theorem MX.own (w : World) (r h : Int) (z : Nat → Int) (c : Code) (β : Type) (f : β → Nat) (n : Nat) (hn : w.heap.size ≤ n) (hb : w.heap.size + 1 + 1 < n) : OwnFrom n (fun (pre : β) W => MX w r h z c (f pre) W) := by
  rintro s A B row ⟨rfl, i, e, x1, x2, x3, x4, x5⟩ hg hr
  exact ⟨rfl, i, e, x1, x2, kept_low hg hr (by omega) x3, kept_low hg hr (by omega) x4, ownFrom_below (β := Unit) (Nat.le_refl _) (by omega) () A B row x5 hg hr⟩
theorem St.others {bw : Nat} {r h : Int} {z : Nat → Int} {pre : List (Int × Int)} {x : Int × Int} {A B : World} (hs : St bw r h z pre x A B) : KeepsOthers A B :=
  KeepsOthers.of_grownBy hs.2.2.1 (fun j o ej hj => by
    cases ej
    have := hs.2.2.2
    unfold WB at this
    rw [this] at hj
    cases hj
    rfl)
theorem MI.step {w w1 : World} {r h : Int} {z : Nat → Int} {pre : List (Int × Int)} {x : Int × Int} {A B : World} (hi : MI w w1 r h z pre.length pre.length A) (hs : St w1.heap.size r h z pre x A B) (hw : w.heap.size ≤ w1.heap.size) (h0 : 0 < 1) (hb : w.heap.size + 1 + 1 < w1.heap.size) :
    MI w w1 r h z pre.length (pre.length + 1) B := by
  obtain ⟨x1, x2, x3, x4, x5, x6⟩ := hi
  obtain ⟨_, y1, y2, _⟩ := hs
  exact ⟨y1, x2.kept y2 (by simp), x3.kept y2 (by simp; omega), x4.kept y2 (by simp; omega), bel_grown x5 y2 hw, x6⟩
theorem MI.on {w w1 : World} {r h : Int} {z : Nat → Int} {pre : List (Int × Int)} {x : Int × Int} {W : World} (hi : MI w w1 r h z pre.length (pre.length + 1) W) (hn : ¬ h < ht r z (pre.length + 1)) : MI w w1 r h z (pre ++ [x]).length (pre ++ [x]).length W.drew := by
  obtain ⟨x1, x2, x3, x4, x5, x6⟩ := hi
  have e : (pre ++ [x]).length = pre.length + 1 := by simp
  rw [e]
  exact ⟨x1, x2, x3, x4, x5.drew, all_snoc x6 (by omega)⟩
theorem MX.mk' {w w1 : World} {r h : Int} {z : Nat → Int} {pre : List (Int × Int)} {x : Int × Int} {W : World} (hi : MI w w1 r h z pre.length (pre.length + 1) W) (hn : h < ht r z (pre.length + 1)) :
    MX w r h z .ret (pre ++ [x]).length ((W.setCell ⟨w.heap.size + 1, 0, none⟩ (.int .i64 pre.length)).setCell ⟨w.heap.size + 1 + 1, 0, none⟩ (.int .i64 0)).drew := by
  obtain ⟨x1, x2, x3, x4, x5, x6⟩ := hi
  refine ⟨rfl, pre.length, by simp, x6, hn, boxed_other' (x3.set _) (by simp) _, (boxed_other' x4 (by simp) _).set _, ?_⟩
  exact ((x5.setCell (p := ⟨w.heap.size + 1, 0, none⟩) (by simp) _).setCell (p := ⟨w.heap.size + 1 + 1, 0, none⟩) (by simp; omega) _).drew
theorem MX.out {w W : World} {D : Nat} {v : Int} (h : Boxed W (w.heap.size + 1) 3 (.int .i64 v) ∧ Boxed W (w.heap.size + 1 + 1) 26 (.int .i64 0) ∧ Below w.heap.size w W) (hK : W.heap[D]? = some (.deferred (some []))) (hD : w.heap.size ≤ D) :
    (W.putObj D (.deferred none)).cell? ⟨w.heap.size + 1, 0, none⟩ = some (.int .i64 v) ∧ (W.putObj D (.deferred none)).cell? ⟨w.heap.size + 1 + 1, 0, none⟩ = some (.int .i64 0) ∧ Below w.heap.size w (W.putObj D (.deferred none)) :=
  ⟨cell_kept h.1.cell (grownBy_putObj' _ D (.deferred none)) (fun r e => by cases e; exact ⟨_, hK, rfl⟩), cell_kept h.2.1.cell (grownBy_putObj' _ D (.deferred none)) (fun r e => by cases e; exact ⟨_, hK, rfl⟩),
   h.2.2.trans (belowK_b (w := w) (Nat.le_refl _) W D _ _ hD hK rfl rfl)⟩
theorem MW.mk' {w w1 : World} (b1 : Boxed w1 (w.heap.size + 1) 3 (.int .i64 0)) (b2 : Boxed w1 (w.heap.size + 1 + 1) 26 (.int .i64 0)) (h1 : Below w.heap.size w w1) (r h : Int) (A : Option Addr) (k cap : Nat) {z : Nat → Int} :
    let W := ((((w1.alloc (.cells #[.int .i64 r, .int .i64 h, .int .i64 0] 45)).alloc (.cells #[.pointer (some ⟨w1.heap.size, 0, none⟩)] 43)).alloc (.cells #[.pointer (some ⟨w1.heap.size, 0, none⟩)] 43)).alloc (.cells #[.slice A k cap] 24))
    MI w w1 r h z 0 0 W ∧ Boxed W (w1.heap.size + 1 + 1) 43 (.pointer (some ⟨w1.heap.size, 0, none⟩)) ∧ Boxed W (w1.heap.size + 1 + 1 + 1) 24 (.slice A k cap) := by
  refine ⟨⟨(((WB.new w1 r h 0).alloc _).alloc _).alloc _, ?_, (((b1.alloc _).alloc _).alloc _).alloc _, (((b2.alloc _).alloc _).alloc _).alloc _, bel_alloc (bel_alloc (bel_alloc (bel_alloc h1 _) _) _) _, fun i hi => by omega⟩, ?_, ?_⟩
  · have := ((Boxed.new (w1.alloc (.cells #[.int .i64 r, .int .i64 h, .int .i64 0] 45)) 43 (.pointer (some ⟨w1.heap.size, 0, none⟩))).alloc (.cells #[.pointer (some ⟨w1.heap.size, 0, none⟩)] 43)).alloc (.cells #[.slice A k cap] 24)
    simpa using this
  · have := (Boxed.new ((w1.alloc (.cells #[.int .i64 r, .int .i64 h, .int .i64 0] 45)).alloc (.cells #[.pointer (some ⟨w1.heap.size, 0, none⟩)] 43)) 43 (.pointer (some ⟨w1.heap.size, 0, none⟩))).alloc (.cells #[.slice A k cap] 24)
    simpa using this
  · have := Boxed.new (((w1.alloc (.cells #[.int .i64 r, .int .i64 h, .int .i64 0] 45)).alloc (.cells #[.pointer (some ⟨w1.heap.size, 0, none⟩)] 43)).alloc (.cells #[.pointer (some ⟨w1.heap.size, 0, none⟩)] 43)) 24 (.slice A k cap)
    simpa using this

set_option maxRecDepth 100000 in
set_option maxHeartbeats 1000000 in
theorem melts_c (r h : Int) (A : Option Addr) (len cap : Nat) (z : Nat → Int) (w : World) (hl : len ≤ 10000) (hv : vF r h = true) (hR : RZ w A len z) :
    Calls Try.prog 13 #[.agg #[.int .i64 r, .int .i64 h], .slice A len cap] w
      fun e w' => e = .returned (.tuple #[.int .i64 (mV r h z len), .int .i64 (mE r h z len)]) ∧ Below w.heap.size w w' := by
  refine (callsIn_wide (n := 9)).1 ?_
  refine callsIn_of_wp_marks Try.func13 rfl trivial ?_ rfl
  simp only [Try.ntmps13, List.size_toArray, List.length_cons, List.length_nil, Nat.reduceAdd, Nat.reduceSub, Array.replicate_succ, Array.replicate_zero, List.push_toArray, List.append_toArray, List.nil_append, List.cons_append]
  have HR := Lib.hid hR
  clear hR
  gi_wp2_with (refine ⟨trivial, ?_⟩; gi_at_call 20; refine (callsIn_wide.2 (valid_any r h _)).mono ?_; rintro e w1 ⟨rfl, hb⟩; rw [hv]; have m := ME.mk' hb; clear hb; obtain ⟨mf, b1, b2, h1⟩ := m)
  have hR1 := Lib.hid (HR.out.keep h1)
  clear HR
  gi_loopw [18] (fun i wr => ∃ k : Nat, k ≤ len ∧ i = .int .i64 k ∧ (∀ j, j < k → inB (z j) 0 1000 = true) ∧ w1 = wr) (fun i _ => len - (intOf i).toNat)
  case atStart => exact ⟨0, Nat.zero_le _, rfl, fun j hj => by omega, rfl⟩
  case round =>
    obtain ⟨k, hk, rfl, hall, rfl⟩ := hrel
    have HA := Lib.hid hall
    clear hall
    by_cases hlt : k < len
    · obtain ⟨b, o, rfl, hb, hc⟩ := hR1.out k hlt
      cases hz : inB (z k) 0 1000
      · have c1 := b1.cell
        have f1 := b1.frozen
        have c2 := b2.cell
        have f2 := b2.frozen
        have Hz := Lib.hid hz
        gi_wp2_with (refine ⟨trivial, ?_⟩; gi_at_call 22; refine (callsIn_wide.2 (isCur _ _)).mono ?_; rintro e w2 ⟨rfl, rfl⟩)
        refine ⟨.tuple #[.int .i64 0, .int .i64 1], by simp [results, Try.f13, go_sem, c1, c2], ?_, ?_⟩
        · have hn := mE_no (r := r) (h := h) hlt Hz.out
          exact ret_two hn.1.symm hn.2.symm
        · exact (h1.setCell (p := ⟨w.heap.size + 1, 0, none⟩) (by simp) _).setCell (p := ⟨w.heap.size + 1 + 1, 0, none⟩) (by simp; omega) _
      · have Hz := Lib.hid hz
        gi_wp2_with (refine ⟨trivial, ?_⟩; gi_at_call 22; refine (callsIn_wide.2 (isCur _ _)).mono ?_; rintro e w2 ⟨rfl, rfl⟩)
        go_roundw
        case rel => exact ⟨k + 1, by omega, by go_num, fun j hj => all_snoc HA.out Hz.out j hj, trivial⟩
        case measure => simp [intOf]; omega
    · obtain rfl : k = len := by omega
      obtain ⟨d0, d1, _, _⟩ := mf.get
      gi_wp2_with (refine ⟨trivial, ?_⟩; gi_at_call 26; refine (callsIn_wide.2 (heats_any w1.heap.size A k cap _)).mono ?_; rintro e w2 ⟨rfl, rfl⟩)
      have g0 := MW.mk' b1 b2 h1 r h A k cap (z := z)
      obtain ⟨W0, hW0⟩ : ∃ W0, ((((w1.alloc (.cells #[.int .i64 r, .int .i64 h, .int .i64 0] 45)).alloc (.cells #[.pointer (some ⟨w1.heap.size, 0, none⟩)] 43)).alloc (.cells #[.pointer (some ⟨w1.heap.size, 0, none⟩)] 43)).alloc (.cells #[.slice A k cap] 24)) = W0 := ⟨_, rfl⟩
      rw [hW0] at g0 ⊢
      have hsz : W0.heap.size = w1.heap.size + 1 + 1 + 1 + 1 := by rw [← hW0]; simp
      have hk0 : Below w1.heap.size w1 W0 := by rw [← hW0]; exact bel_alloc (bel_alloc (bel_alloc (bel_alloc (Below.refl _ _) _) _) _) _
      have hRd : Rd (w1.heap.size + 1 + 1 + 1 + 1) (w1.heap.size + 1 + 1 + 1) (w1.heap.size + 1 + 1) w1.heap.size A k cap z W0 := ⟨g0.2.2.cell, g0.2.1.cell, fun i hi => by
        obtain ⟨b, o, e, hlt, hc⟩ := hR1.out i hi
        exact ⟨b, o, e, by omega, by omega, (hk0.cell (p := ⟨b, o + i, none⟩) hlt).trans hc⟩⟩
      have hvb := vF_iff.1 hv
      have hzs : ∀ i, i < k → 0 ≤ z i ∧ z i ≤ 1000 := fun i hi => inB_iff.1 (HA.out i hi)
      have hws := h1.size
      clear hW0
      refine wpIn_rangeT rfl (by omega) (gf := 31) (lb := #[.pointer (some ⟨w1.heap.size + 1 + 1 + 1, 0, none⟩), .pointer (some ⟨w1.heap.size + 1 + 1, 0, none⟩)]) rfl trivial (enters_of Try.func31 (by kernel_rfl) rfl)
        (heats_seq 8 (by omega) (w1.heap.size + 1 + 1 + 1 + 1) (w1.heap.size + 1 + 1 + 1) (w1.heap.size + 1 + 1) w1.heap.size A k cap r h z hl (by omega) hzs (by omega) (by omega) (by omega) (by omega) (by omega) W0 (by omega) hRd g0.1.1)
        belowK_t (belowK_b (by omega)) (Below.refl _ _) (fun _ => rfl)
        (fun pre W => MI w w1 r h z pre.length pre.length W) (fun pre x W => x.1 = (pre.length : Int) ∧ MI w w1 r h z pre.length (pre.length + 1) W) (fun c pre W => MX w r h z c pre.length W)
        (MI.own w w1 r h z (List (Int × Int)) (fun pre => pre.length) (fun pre => pre.length) W0.heap.size (by omega) (by omega) b2.lt)
        (fun x => OwnFrom.and (fun s A B row hs hg hr => hs) (MI.own w w1 r h z (List (Int × Int)) (fun pre => pre.length) (fun pre => pre.length + 1) W0.heap.size (by omega) (by omega) b2.lt))
        (fun c => MX.own w r h z c (List (Int × Int)) (fun pre => pre.length) W0.heap.size (by omega) (by have := b2.lt; omega))
        g0.1
        (fun pre x A B hs => hs.others) (fun pre x A B hi hs => ⟨by rw [hs.1], hi.step hs (by omega) (by omega) b2.lt⟩)
        (fun x => { tmps := #[.agg #[.int .i64 r, .int .i64 h], .slice A k cap, .pointer (some ⟨w.heap.size, 0, none⟩), undef, .pointer (some ⟨w.heap.size + 1, 0, none⟩), .pointer (some ⟨w.heap.size + 1 + 1, 0, none⟩), undef, u7,
          .pointer (some ⟨w1.heap.size + 1, 0, none⟩), .int .i64 x.1, .slice A k cap, .int .i64 k, .bool (decide (10000 < (k : Int))), .agg #[.int .i64 r, .int .i64 h], .bool true, .bool false, .slice A k cap, .int .i64 k, .int .i64 k, .bool false, u20, u21, u22, u23, u24, u25,
          .agg #[.int .i64 r, .int .i64 h], .agg #[.int .i64 r, .int .i64 h, .int .i64 0], .pointer (some ⟨w1.heap.size, 0, none⟩), .pointer (some ⟨w1.heap.size, 0, none⟩), .slice A k cap,
          .func (.func 31) #[] #[.pointer (some ⟨w1.heap.size + 1 + 1 + 1, 0, none⟩), .pointer (some ⟨w1.heap.size + 1 + 1, 0, none⟩)], .int .i64 x.1, .int .i64 x.2, undef, undef, undef], defers := [] }) ?assign ?body ?done ?stop
      case assign =>
        intro l x W K hK
        gi_wp2
        exact hK
      case body =>
        rintro l pre ⟨x1, x2⟩ W ⟨hx, hi⟩ hlen
        obtain rfl : x1 = (pre.length : Int) := hx
        have hm := hi.1
        have c0 := hi.2.1.cell
        have c1 := hi.2.2.1.cell
        have f1 := hi.2.2.1.frozen
        have c2 := hi.2.2.2.1.cell
        have f2 := hi.2.2.2.1.frozen
        by_cases hmm : h < ht r z (pre.length + 1)
        · have e1 : decide (h < ht r z (pre.length + 1)) = true := decide_eq_true hmm
          have H1 := Lib.hid hmm
          have H2 := Lib.hid hi
          clear hmm hi
          gi_wp2_with (refine ⟨trivial, ?_⟩; gi_at_call 27; refine (CallsIn.inRound l (callsIn_wide.2 (melted_any r h _ w1.heap.size W hm))).mono ?_; rintro e w2 ⟨rfl, rfl⟩; rw [e1])
          exact ⟨((KeepsOthers.drew W).trans (KeepsOthers.setCell _ _ _)).trans (KeepsOthers.setCell _ _ _), MX.mk' H2.out H1.out⟩
        · have e1 : decide (h < ht r z (pre.length + 1)) = false := decide_eq_false hmm
          have H1 := Lib.hid hmm
          have H2 := Lib.hid hi
          clear hmm hi
          gi_wp2_with (refine ⟨trivial, ?_⟩; gi_at_call 27; refine (CallsIn.inRound l (callsIn_wide.2 (melted_any r h _ w1.heap.size W hm))).mono ?_; rintro e w2 ⟨rfl, rfl⟩; rw [e1])
          exact ⟨KeepsOthers.drew W, (Below.refl _ W).drew, H2.out.on (Int.not_lt.2 H1.out)⟩
      case done =>
        rintro D ys W hD hlen hi hK
        have c1 := hi.2.2.1.cell
        have f1 := hi.2.2.1.frozen
        have c2 := hi.2.2.2.1.cell
        have f2 := hi.2.2.2.1.frozen
        gi_wp2
        have hK' := ((KeepsOthers.setCell W ⟨w.heap.size + 1, 0, none⟩ (.int .i64 (-1))).trans (KeepsOthers.setCell _ ⟨w.heap.size + 1 + 1, 0, none⟩ (.int .i64 0))).same D _ hK rfl
        refine ⟨by simp, .inl ⟨_, _, rfl, run_takeDeferred hK', ?_⟩⟩
        obtain ⟨e1, e2, e3⟩ := MX.out ⟨boxed_other' (hi.2.2.1.set (.int .i64 (-1))) (by simp) _, (boxed_other' hi.2.2.2.1 (by simp) _).set (.int .i64 0), (hi.2.2.2.2.1.setCell (p := ⟨w.heap.size + 1, 0, none⟩) (by simp) _).setCell (p := ⟨w.heap.size + 1 + 1, 0, none⟩) (by simp; omega) _⟩ hK' (by omega)
        refine ⟨.tuple #[.int .i64 (-1), .int .i64 0], by simp [results, Try.f13, go_sem, e1, e2], ?_, e3⟩
        have hy := mE_yes (h := h) hv HA.out
        rw [mt_none (fun i hi' => hi.2.2.2.2.2 i (by omega))] at hy
        exact ret_two hy.1.symm hy.2.symm
      case stop =>
        rintro D c pre W hD hlen ⟨rfl, i, e, hn, hm, b1', b2', hB⟩ hK
        gi_wp2
        refine ⟨by simp, .inl ⟨_, _, rfl, run_takeDeferred hK, ?_⟩⟩
        obtain ⟨e1, e2, e3⟩ := MX.out ⟨b1', b2', hB⟩ hK (by omega)
        refine ⟨.tuple #[.int .i64 i, .int .i64 0], by simp [results, Try.f13, go_sem, e1, e2], ?_, e3⟩
        have hy := mE_yes (h := h) hv HA.out
        rw [mt_at (i := i) (by omega) hn hm] at hy
        exact ret_two hy.1.symm hy.2.symm

/-- what Melts returns -/
def xE (r h : Int) (z : Nat → Int) (len : Nat) : Int := if 10000 < len then 2 else mE r h z len
def xV (r h : Int) (z : Nat → Int) (len : Nat) : Int := if 10000 < len then 0 else mV r h z len
theorem melts_any (r h : Int) (A : Option Addr) (len cap : Nat) (z : Nat → Int) (w : World) (hl : len ≤ 9223372036854775807) (hR : RZ w A len z) :
    Calls Try.prog 13 #[.agg #[.int .i64 r, .int .i64 h], .slice A len cap] w
      fun e w' => e = .returned (.tuple #[.int .i64 (xV r h z len), .int .i64 (xE r h z len)]) ∧ Below w.heap.size w w' := by
  by_cases h1 : 10000 < len
  · exact (melts_long r h A len cap w h1 hl).mono fun e w' x => ⟨x.1.trans (ret_two (by simp [xV, h1]) (by simp [xE, h1])), x.2⟩
  · cases hv : vF r h
    · exact (melts_v r h A len cap w (by omega) hv).mono fun e w' x => ⟨x.1.trans (ret_two (by simp [xV, h1, mV, mE, hv]) (by simp [xE, h1, mE, hv])), x.2⟩
    · exact (melts_c r h A len cap z w (by omega) hv hR).mono fun e w' x => ⟨x.1.trans (ret_two (by simp [xV, h1]) (by simp [xE, h1])), x.2⟩
end Go.Proofs.Ythjclpfddfjfhaa
