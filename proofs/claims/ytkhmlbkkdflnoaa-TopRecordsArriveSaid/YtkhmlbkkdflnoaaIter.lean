/-
  THE WALKS over package chain, third part: the iterator over the readings that are in order.
-/
import Derived.Test.YtkhmlbkkdflnoaaLink
import Derived.RangeFuncNested
import Derived.RangeFuncBound
import Derived.RangeFuncCalls
import Derived.RangeFuncLeaves
import Derived.RangeFuncBox
import Derived.Shelf.Abstract
import Derived.Shelf.RegionOpen
import Derived.OwnWalkIn
import Derived.TacticsInMore
import Derived.LoopNIn
import Derived.LoopIn
import Derived.Maps.AppendAt
import Derived.Stop.RegionWithIn
import Derived.Sort.QuietIn
namespace Go.Proofs.Ytkhmlbkkdflnoaa.Ch
open Go.RowKit Go.Shelf
attribute [local go_sem] Oper.semAt_some
set_option linter.unusedVariables false
set_option linter.unusedSimpArgs false

/-- is reading i in order? -/
def okB (X : Nat → Nat → Int) (i : Nat) : Bool := (vR (X i) && decide (X i 1 = (i : Int) + 1)) && (decide (i = 0) || (!(oldB (X (i - 1)) (X i)) && !(latB (X (i - 1)) (X i))))
/-- as RG, in blocks below n₀ -/
def RGn (n₀ : Nat) (w : World) (A : Option Addr) (n : Nat) (X : Nat → Nat → Int) : Prop := ∀ i, i < n → ∃ b o, A = some ⟨b, o, none⟩ ∧ b < n₀ ∧
  w.cell? ⟨b, o + i * 5, none⟩ = some (.int .i64 (X i 0)) ∧ w.cell? ⟨b, o + i * 5 + 1, none⟩ = some (.int .i64 (X i 1)) ∧ w.cell? ⟨b, o + i * 5 + 2, none⟩ = some (.int .i64 (X i 2)) ∧ w.cell? ⟨b, o + i * 5 + 3, none⟩ = some (.int .i64 (X i 3)) ∧ w.cell? ⟨b, o + i * 5 + 4, none⟩ = some (.int .u64 (X i 4))
theorem RGn.keep {n₀ : Nat} {w w' : World} {A : Option Addr} {n : Nat} {X : Nat → Nat → Int} (x : RGn n₀ w A n X) (hb : Below n₀ w w') : RGn n₀ w' A n X := fun i hi => by
  obtain ⟨b, o, e, hl, c0, c1, c2, c3, c4⟩ := x i hi
  have hc : ∀ j, w'.cell? ⟨b, j, none⟩ = w.cell? ⟨b, j, none⟩ := fun j => hb.cell (p := ⟨b, j, none⟩) hl
  exact ⟨b, o, e, hl, (hc _).trans c0, (hc _).trans c1, (hc _).trans c2, (hc _).trans c3, (hc _).trans c4⟩
/-- what the iterator reads -/
def Rb (n₀ Bb : Nat) (A : Option Addr) (m c : Nat) (X : Nat → Nat → Int) (W : World) : Prop :=
  W.cell? ⟨Bb, 0, none⟩ = some (.slice A m c) ∧ RGn n₀ W A m X
/-- what a round keeps: all below n₀, and the box -/
def Kb (n₀ Bb : Nat) (W W' : World) : Prop := Below n₀ W W' ∧ W'.heap[Bb]? = W.heap[Bb]?
theorem Rb.keep {n₀ Bb : Nat} {A : Option Addr} {m c : Nat} {X : Nat → Nat → Int} {W W' : World} (h : Rb n₀ Bb A m c X W) (hk : Kb n₀ Bb W W') : Rb n₀ Bb A m c X W' :=
  ⟨(World.cell?_of_block hk.2).trans h.1, h.2.keep hk.1⟩
theorem Kb.trans {n₀ Bb : Nat} {A B C : World} (h : Kb n₀ Bb A B) (k : Kb n₀ Bb B C) : Kb n₀ Bb A C := ⟨h.1.trans k.1, k.2.trans h.2⟩
theorem fi_gt {e : Nat → Bool} {m k : Nat} (hk : k < m) (h : ∀ j, j < k + 1 → e j = true) : k < fi e m := by
  rcases Nat.lt_or_ge k (fi e m) with h' | h'
  · exact h'
  · have h1 := fi_at e m (by omega)
    rw [h _ (by omega)] at h1
    cases h1
theorem fi_len {X : Nat → Nat → Int} {m k : Nat} (hk : k < m) (h : ∀ j, j < k → okB X j = true) (hok : okB X k = true) : (List.range k).length < fi (okB X) m := by
  rw [List.length_range]
  exact fi_gt hk fun j hj => by
    rcases Nat.lt_or_ge j k with h' | h'
    · exact h j h'
    · obtain rfl : j = k := by omega
      exact hok
theorem wp_region_cls {P : Program} {id : Nat} {Q : Exit → Act → World → Prop} {a : Act} {w : World} {l : List Oper} (C : World → Prop) (hm : P.follows .mixedOrders = true) (hB : Region.lexB .any l.toArray = true) (hC : C w.drew)
    (h : wpQuiet P l.toArray C (fun a' => ∀ w', C w' → Q .normal a' w') l a) : (Code.region id l.toArray true).wp P Q a w := wp_region_quiet (C := C) hm hB hC (by simpa using h)
theorem quiet_of_run {P : Program} {o : Oper} {a : Act} {C : World → Prop} {K : Act → Prop} (v : Value) (h : ∀ w, C w → (execOp a.eval o).run P w = .ok (.value v) w) (hk : K (a.put o.dst v)) : o.quiet P a C K :=
  ⟨v, fun w hw => by unfold Oper.quietAt; rw [h w hw]; exact ⟨rfl, rfl⟩, hk⟩
theorem quiet_of_call {P : Program} {o : Oper} {a : Act} {C : World → Prop} {K : Act → Prop} (f : FuncId) (args : Array Value) (v : Value) (h : ∀ w, C w → (execOp a.eval o).run P w = .ok (.enter f args) w) (hc : ∀ w, C w → Calls P f args w fun e w' => e = .returned v ∧ C w') (hk : K (a.put o.dst v)) : o.quiet P a C K :=
  ⟨v, fun w hw => by unfold Oper.quietAt; rw [h w hw]; exact ⟨rfl, hc w hw⟩, hk⟩
theorem abides {β : Type} {B : Nat} {J : β → World → Prop} (h : AbidesFrom B J) {s : β} {W W' : World} (hj : J s W) (hb : Below W.heap.size W W') : J s W' :=
  h s W W' none hj ⟨hb.os, hb.tape, hb.output, hb.size, fun k hk _ => hb.block k hk⟩ (fun r e => by cases e)
theorem Kb.grow {n₀ Bb : Nat} {W W' : World} (hn : n₀ ≤ W.heap.size) (hB : Bb < W.heap.size) (h : Below W.heap.size W W') : Kb n₀ Bb W W' := ⟨h.mono hn, h.block _ hB⟩
/-- the numbers that are yielded -/
def enc (X : Nat → Nat → Int) (i : Nat) : Array Value := #[.int .i64 ((i : Nat) : Int), .agg #[.int .i64 (X i 0), .int .i64 (X i 1), .int .i64 (X i 2), .int .i64 (X i 3), .int .u64 (X i 4)]]
set_option maxRecDepth 100000 in
set_option maxHeartbeats 8000000 in
theorem inOrder1 (n : Nat) (hn : 1 ≤ n) (l n₀ Bb : Nat) (A : Option Addr) (m c : Nat) (X : Nat → Nat → Int) (J Jx : List Nat → World → Prop) (hm : m ≤ 1000) (B0 : Nat) (hJA : AbidesFrom B0 J)
    (hY : ∀ pre x W1, J pre W1 → pre.length < fi (okB X) m → YieldAt Fence.wide (n - 1) Try.prog l (enc X x) W1 fun e W' =>
      (e = .returned (.bool true) ∧ J (pre ++ [x]) W' ∧ Kb n₀ Bb W1 W') ∨ (e = .returned (.bool false) ∧ Jx (pre ++ [x]) W'))
    (W : World) (hn₀ : n₀ ≤ W.heap.size) (hBb : Bb < W.heap.size) (hR : Rb n₀ Bb A m c X W) (h0 : J [] W) :
    CallsIn Fence.wide n Try.prog 96 #[.func (.yield l) #[] #[], .pointer (some ⟨Bb, 0, none⟩)] W fun e W' => (∃ v, e = .returned v) ∧
      ((∃ xs, xs = List.range (fi (okB X) m) ∧ J xs W') ∨ (∃ pre, (∃ k, k < fi (okB X) m ∧ pre = List.range (k + 1)) ∧ Jx pre W')) := by
  have HR := Lib.hid hR
  have HY := Lib.hid hY
  clear hY
  obtain ⟨ca, _⟩ := hR
  refine callsIn_of_wp Try.func96 rfl trivial ?_ rfl
  simp only [Try.ntmps96, List.size_toArray, List.length_cons, List.length_nil, Nat.reduceAdd, Nat.reduceSub, Array.replicate_succ, Array.replicate_zero, List.push_toArray, List.append_toArray, List.nil_append, List.cons_append]
  refine wpIn_wide.2 ?_
  go_wp2
  go_step3
  go_wp2
  go_step3
  go_wp2
  go_loopw [7] (fun i wr => ∃ (k : Nat), k ≤ m ∧ i = .int .i64 (k : Int) ∧ (∀ j, j < k → okB X j = true) ∧ J (List.range k) wr ∧ Rb n₀ Bb A m c X wr ∧ W.heap.size ≤ wr.heap.size) (fun i _ => m - (intOf i).toNat)
  case atStart => exact ⟨0, Nat.zero_le _, rfl, fun j hj => by omega, h0, HR.out, Nat.le_refl _⟩
  case round =>
    obtain ⟨k, hk, rfl, hall, hJ, hrd, hsz⟩ := hrel
    have HALL := Lib.hid hall
    have HJ := Lib.hid hJ
    have HRD := Lib.hid hrd
    clear hall hJ hrd
    rcases Nat.lt_or_ge k m with hlt | hge
    · obtain ⟨b, o, rfl, hb, c0, c1, c2, c3, c4⟩ := HRD.out.2 k hlt
      have i0 : (0 : Int) ≤ (k : Int) := by omega
      have i1 : (k : Int) < (m : Int) := by omega
      have cb := HRD.out.1
      have HSTOP : Hid (okB X k = false → ∀ w2, Below wr.heap.size wr w2 → (∃ xs, xs = List.range (fi (okB X) m) ∧ J xs w2) ∨ (∃ pre, (∃ k, k < fi (okB X) m ∧ pre = List.range (k + 1)) ∧ Jx pre w2)) := Lib.hid fun h w2 hb => .inl ⟨_, by rw [fi_eq hk HALL.out (.inr h)], abides hJA HJ.out hb⟩
      cases hv : vR (X k)
      · have hok : okB X k = false := by simp [okB, hv]
        have HS := Lib.hid (HSTOP.out hok)
        have HV : Hid (∀ W, Calls Try.prog 90 #[.agg #[.int .i64 (X k 0), .int .i64 (X k 1), .int .i64 (X k 2), .int .i64 (X k 3), .int .u64 (X k 4)]] W fun e w' => e = .returned (.bool false) ∧ Below W.heap.size W w') := Lib.hid fun W => by
          have := valid_any (X k 0) (X k 1) (X k 2) (X k 3) (X k 4) W
          unfold vR at hv
          rw [hv] at this
          exact this
        clear hv hok
        go_wp2_with (go_at_call 90; with_reducible refine (HV.out _).mono ?_; rintro e w2 ⟨rfl, h2⟩)
        rw [Exit.noGoto_normal]
        go_end0
        exact ⟨⟨_, rfl⟩, HS.out _ (bel_step (bel_alloc (Below.refl _ _) _) h2)⟩
      · have HV : Hid (∀ W, Calls Try.prog 90 #[.agg #[.int .i64 (X k 0), .int .i64 (X k 1), .int .i64 (X k 2), .int .i64 (X k 3), .int .u64 (X k 4)]] W fun e w' => e = .returned (.bool true) ∧ Below W.heap.size W w') := Lib.hid fun W => by
          have := valid_any (X k 0) (X k 1) (X k 2) (X k 3) (X k 4) W
          unfold vR at hv
          rw [hv] at this
          exact this
        have HVR := Lib.hid hv
        clear hv
        have HC : Hid (∀ w2, Below (wr.alloc (Obj.cells #[.int .i64 (X k 0), .int .i64 (X k 1), .int .i64 (X k 2), .int .i64 (X k 3), .int .u64 (X k 4)] 58)).heap.size (wr.alloc (Obj.cells #[.int .i64 (X k 0), .int .i64 (X k 1), .int .i64 (X k 2), .int .i64 (X k 3), .int .u64 (X k 4)] 58)) w2 →
            w2.cell? ⟨wr.heap.size, 0, none⟩ = some (.int .i64 (X k 0)) ∧ w2.cell? ⟨wr.heap.size, 1, none⟩ = some (.int .i64 (X k 1)) ∧ w2.cell? ⟨wr.heap.size, 2, none⟩ = some (.int .i64 (X k 2)) ∧ w2.cell? ⟨wr.heap.size, 3, none⟩ = some (.int .i64 (X k 3)) ∧ w2.cell? ⟨wr.heap.size, 4, none⟩ = some (.int .u64 (X k 4)) ∧ w2.cell? ⟨Bb, 0, none⟩ = some (.slice (some ⟨b, o, none⟩) m c)) := Lib.hid fun w2 h2 => by
          refine ⟨old_at ?_ h2, old_at ?_ h2, old_at ?_ h2, old_at ?_ h2, old_at ?_ h2, old_at (old_at cb (bel_alloc (Below.refl _ _) _)) h2⟩ <;> simp [go_sem]
        by_cases hn1 : X k 1 = (k : Int) + 1
        · have HN1 := Lib.hid hn1
          have e1 : (X k 1 != (k : Int) + 1) = false := by simpa using hn1
          clear hn1
          rcases Nat.eq_zero_or_pos k with hk0 | hk0
          · have hok : okB X k = true := by unfold okB; rw [HVR.out, decide_eq_true HN1.out, decide_eq_true hk0]; rfl
            have hlen : (List.range k).length < fi (okB X) m := fi_len hlt HALL.out hok
            have q0 : decide (0 < k) = false := decide_eq_false (by omega)
            have q1 : decide ((0 : Int) < (k : Int)) = false := decide_eq_false (by omega)
            have HOK := Lib.hid hok
            have HLEN := Lib.hid hlen
            clear hok hk0
            go_upto_region 4 with (first
              | (go_at_call 90; with_reducible refine (HV.out _).mono ?_; rintro e w2 ⟨rfl, h2⟩
                 obtain ⟨d0, d1, d2, d3, d4, d5⟩ := HC.out _ h2
                 have H2 := Lib.hid (bel_step (bel_alloc (Below.refl _ _) _) h2)))
            go_quiet (fail)
            obtain ⟨w3, hw3⟩ : ∃ w3, w2.drewN nq = w3 := ⟨_, rfl⟩
            have H3 : Hid (Below wr.heap.size wr w3) := Lib.hid (by rw [← hw3]; exact below_drewN H2.out nq)
            have g0 : w3.cell? ⟨wr.heap.size, 0, none⟩ = some (.int .i64 (X k 0)) := by rw [← hw3]; exact d0
            have g1 : w3.cell? ⟨wr.heap.size, 1, none⟩ = some (.int .i64 (X k 1)) := by rw [← hw3]; exact d1
            have g2 : w3.cell? ⟨wr.heap.size, 2, none⟩ = some (.int .i64 (X k 2)) := by rw [← hw3]; exact d2
            have g3 : w3.cell? ⟨wr.heap.size, 3, none⟩ = some (.int .i64 (X k 3)) := by rw [← hw3]; exact d3
            have g4 : w3.cell? ⟨wr.heap.size, 4, none⟩ = some (.int .u64 (X k 4)) := by rw [← hw3]; exact d4
            rw [hw3]
            clear hw3 d0 d1 d2 d3 d4 d5
            go_upto_region 5 with (fail)
            obtain ⟨fn, tmps, assign, body, hy, hRd⟩ := HY.out _ k w3 (abides hJA HJ.out H3.out) hlen
            unfold enc at hy
            refine (wpIn_wide (n := n)).1 ?_
            gi_wp2
            refine hRd.mono ?_
            rintro e W3 (⟨rfl, hJ3, hk3⟩ | ⟨rfl, hJx3⟩)
            · have hkb := (Kb.grow (n₀ := n₀) (Bb := Bb) (by omega) (by omega) H3.out).trans hk3
              have HKB := Lib.hid hkb
              have HJ3 := Lib.hid hJ3
              have HS3 : Hid (W.heap.size ≤ W3.heap.size) := Lib.hid (Nat.le_trans hsz hkb.1.size)
              clear hJ3 hk3 hkb
              gi_wp2
              go_wp2
              refine ⟨⟨k + 1, by omega, by go_num, ?_, by rw [List.range_succ]; exact HJ3.out, HRD.out.keep HKB.out, HS3.out⟩, by simp [intOf] <;> omega⟩
              intro j hj
              rcases Nat.lt_or_ge j k with h' | h'
              · exact HALL.out j h'
              · obtain rfl : j = k := by omega
                exact HOK.out
            · have HJX := Lib.hid hJx3
              clear hJx3
              gi_wp2
              go_wp2
              first | rw [Exit.noGoto_ret] | skip
              refine bodyPost_ret (results_none rfl _ _ _) rfl ?_
              exact ⟨⟨_, rfl⟩, .inr ⟨_, ⟨k, by have := HLEN.out; rwa [List.length_range] at this, by rw [List.range_succ]⟩, HJX.out⟩⟩
          · obtain ⟨q, hq⟩ : ∃ q, k - 1 = q := ⟨_, rfl⟩
            have hqk : q < m := by omega
            obtain ⟨b', o', hbo, _, y0, y1, y2, y3, y4⟩ := HRD.out.2 q hqk
            cases hbo
            have wq : IntKind.i64.wrap ((k : Int) - 1) = (q : Int) := by rw [show (k : Int) - 1 = (q : Int) by omega]; exact IntWalk.i64_in _ (by omega)
            have j0 : (0 : Int) ≤ (q : Int) := by omega
            have j1 : (q : Int) < (m : Int) := by omega
            have q0 : decide (0 < k) = true := decide_eq_true (by omega)
            have q1 : decide ((0 : Int) < (k : Int)) = true := decide_eq_true (by omega)
            have HOF : Hid (∀ W, Calls Try.prog 91 #[.agg #[.int .i64 (X q 0), .int .i64 (X q 1), .int .i64 (X q 2), .int .i64 (X q 3), .int .u64 (X q 4)], .agg #[.int .i64 (X k 0), .int .i64 (X k 1), .int .i64 (X k 2), .int .i64 (X k 3), .int .u64 (X k 4)]] W fun e w' => e = .returned (.bool (oldB (X q) (X k))) ∧ Below W.heap.size W w') := Lib.hid fun W => old_any (X q 0) (X q 1) (X q 2) (X q 3) (X q 4) (X k 0) (X k 1) (X k 2) (X k 3) (X k 4) W
            have HLF : Hid (∀ W, Calls Try.prog 92 #[.agg #[.int .i64 (X q 0), .int .i64 (X q 1), .int .i64 (X q 2), .int .i64 (X q 3), .int .u64 (X q 4)], .agg #[.int .i64 (X k 0), .int .i64 (X k 1), .int .i64 (X k 2), .int .i64 (X k 3), .int .u64 (X k 4)]] W fun e w' => e = .returned (.bool (latB (X q) (X k))) ∧ Below W.heap.size W w') := Lib.hid fun W => lat_any (X q 0) (X q 1) (X q 2) (X q 3) (X q 4) (X k 0) (X k 1) (X k 2) (X k 3) (X k 4) W
            have HQ := Lib.hid hq
            have HY4 : Hid (∀ W', Below wr.heap.size wr W' → W'.cell? ⟨b, o + q * 5, none⟩ = some (.int .i64 (X q 0)) ∧ W'.cell? ⟨b, o + q * 5 + 1, none⟩ = some (.int .i64 (X q 1)) ∧ W'.cell? ⟨b, o + q * 5 + 2, none⟩ = some (.int .i64 (X q 2)) ∧ W'.cell? ⟨b, o + q * 5 + 3, none⟩ = some (.int .i64 (X q 3)) ∧ W'.cell? ⟨b, o + q * 5 + 4, none⟩ = some (.int .u64 (X q 4))) := Lib.hid fun W' h => ⟨old_at y0 h, old_at y1 h, old_at y2 h, old_at y3 h, old_at y4 h⟩
            clear hq y0 y1 y2 y3 y4
            cases ho : oldB (X q) (X k)
            · cases hl : latB (X q) (X k)
              · have hok : okB X k = true := by unfold okB; rw [HVR.out, decide_eq_true HN1.out, HQ.out, ho, hl]; simp
                have hlen : (List.range k).length < fi (okB X) m := fi_len hlt HALL.out hok
                have HOK := Lib.hid hok
                have HLEN := Lib.hid hlen
                rw [ho] at HOF
                rw [hl] at HLF
                clear hok hk0 ho hl
                go_upto_region 4 with (first
                  | (go_at_call 90; with_reducible refine (HV.out _).mono ?_; rintro e w2 ⟨rfl, h2⟩
                     obtain ⟨d0, d1, d2, d3, d4, d5⟩ := HC.out _ h2
                     have H2 := Lib.hid (bel_step (bel_alloc (Below.refl _ _) _) h2)
                     obtain ⟨z0, z1, z2, z3, z4⟩ := HY4.out _ H2.out))
                clear h2
                have RC : Hid (∀ W : World, Below w2.heap.size w2 W → (W.cell? ⟨wr.heap.size, 0, none⟩ = some (.int .i64 (X k 0)) ∧ W.cell? ⟨wr.heap.size, 1, none⟩ = some (.int .i64 (X k 1)) ∧ W.cell? ⟨wr.heap.size, 2, none⟩ = some (.int .i64 (X k 2)) ∧ W.cell? ⟨wr.heap.size, 3, none⟩ = some (.int .i64 (X k 3)) ∧ W.cell? ⟨wr.heap.size, 4, none⟩ = some (.int .u64 (X k 4)) ∧ W.cell? ⟨Bb, 0, none⟩ = some (.slice (some ⟨b, o, none⟩) m c)) ∧ W.cell? ⟨b, o + q * 5, none⟩ = some (.int .i64 (X q 0)) ∧ W.cell? ⟨b, o + q * 5 + 1, none⟩ = some (.int .i64 (X q 1)) ∧ W.cell? ⟨b, o + q * 5 + 2, none⟩ = some (.int .i64 (X q 2)) ∧ W.cell? ⟨b, o + q * 5 + 3, none⟩ = some (.int .i64 (X q 3)) ∧ W.cell? ⟨b, o + q * 5 + 4, none⟩ = some (.int .u64 (X q 4))) := Lib.hid fun W hW => ⟨⟨old_at d0 hW, old_at d1 hW, old_at d2 hW, old_at d3 hW, old_at d4 hW, old_at d5 hW⟩, old_at z0 hW, old_at z1 hW, old_at z2 hW, old_at z3 hW, old_at z4 hW⟩
                have HOC : Hid (∀ W : World, Below w2.heap.size w2 W → Calls Try.prog 91 #[.agg #[.int .i64 (X q 0), .int .i64 (X q 1), .int .i64 (X q 2), .int .i64 (X q 3), .int .u64 (X q 4)], .agg #[.int .i64 (X k 0), .int .i64 (X k 1), .int .i64 (X k 2), .int .i64 (X k 3), .int .u64 (X k 4)]] W fun e w3 => e = .returned (.bool false) ∧ Below w2.heap.size w2 w3) := Lib.hid fun W hW => (HOF.out W).mono fun e w3 hh => ⟨hh.1, bel_step hW hh.2⟩
                have HLC : Hid (∀ W : World, Below w2.heap.size w2 W → Calls Try.prog 92 #[.agg #[.int .i64 (X q 0), .int .i64 (X q 1), .int .i64 (X q 2), .int .i64 (X q 3), .int .u64 (X q 4)], .agg #[.int .i64 (X k 0), .int .i64 (X k 1), .int .i64 (X k 2), .int .i64 (X k 3), .int .u64 (X k 4)]] W fun e w3 => e = .returned (.bool false) ∧ Below w2.heap.size w2 w3) := Lib.hid fun W hW => (HLF.out W).mono fun e w3 hh => ⟨hh.1, bel_step hW hh.2⟩
                clear d0 d1 d2 d3 d4 d5 z0 z1 z2 z3 z4
                refine wp_region_cls (fun w9 => Below w2.heap.size w2 w9) (by kernel_rfl) (by kernel_rfl) (below_drewN (Below.refl _ _) 1) ?_
                repeat (first
                  | go_big_quiet_skip
                  | (go_big_quiet_want; first
                    | (go_big_quiet_op; go_big_quiet_on)
                    | (refine quiet_of_run (.bool true) ?_ ?_; (focus (intro w9 h9; obtain ⟨⟨k0, k1, k2, k3, k4, k5⟩, y0, y1, y2, y3, y4⟩ := RC.out w9 h9; go_simp; done)); go_simp; go_big_quiet_on)
                    | (refine quiet_of_run (.bool false) ?_ ?_; (focus (intro w9 h9; obtain ⟨⟨k0, k1, k2, k3, k4, k5⟩, y0, y1, y2, y3, y4⟩ := RC.out w9 h9; go_simp; done)); go_simp; go_big_quiet_on)
                    | (refine quiet_of_run (.int .i64 (q : Int)) ?_ ?_; (focus (intro w9 h9; obtain ⟨⟨k0, k1, k2, k3, k4, k5⟩, y0, y1, y2, y3, y4⟩ := RC.out w9 h9; go_simp; done)); go_simp; go_big_quiet_on)
                    | (refine quiet_of_run (.slice (some ⟨b, o, none⟩) m c) ?_ ?_; (focus (intro w9 h9; obtain ⟨⟨k0, k1, k2, k3, k4, k5⟩, y0, y1, y2, y3, y4⟩ := RC.out w9 h9; go_simp; done)); go_simp; go_big_quiet_on)
                    | (refine quiet_of_run (.pointer (some ⟨b, o + q * 5, none⟩)) ?_ ?_; (focus (intro w9 h9; obtain ⟨⟨k0, k1, k2, k3, k4, k5⟩, y0, y1, y2, y3, y4⟩ := RC.out w9 h9; go_simp; done)); go_simp; go_big_quiet_on)
                    | (refine quiet_of_run (.agg #[.int .i64 (X q 0), .int .i64 (X q 1), .int .i64 (X q 2), .int .i64 (X q 3), .int .u64 (X q 4)]) ?_ ?_; (focus (intro w9 h9; obtain ⟨⟨k0, k1, k2, k3, k4, k5⟩, y0, y1, y2, y3, y4⟩ := RC.out w9 h9; go_simp; done)); go_simp; go_big_quiet_on)
                    | (refine quiet_of_run (.agg #[.int .i64 (X k 0), .int .i64 (X k 1), .int .i64 (X k 2), .int .i64 (X k 3), .int .u64 (X k 4)]) ?_ ?_; (focus (intro w9 h9; obtain ⟨⟨k0, k1, k2, k3, k4, k5⟩, y0, y1, y2, y3, y4⟩ := RC.out w9 h9; go_simp; done)); go_simp; go_big_quiet_on)
                    | (refine quiet_of_call 91 #[.agg #[.int .i64 (X q 0), .int .i64 (X q 1), .int .i64 (X q 2), .int .i64 (X q 3), .int .u64 (X q 4)], .agg #[.int .i64 (X k 0), .int .i64 (X k 1), .int .i64 (X k 2), .int .i64 (X k 3), .int .u64 (X k 4)]] _ ?_ HOC.out ?_; (focus (intro w9 h9; go_simp; done)); go_simp; go_big_quiet_on)
                    | (refine quiet_of_call 92 #[.agg #[.int .i64 (X q 0), .int .i64 (X q 1), .int .i64 (X q 2), .int .i64 (X q 3), .int .u64 (X q 4)], .agg #[.int .i64 (X k 0), .int .i64 (X k 1), .int .i64 (X k 2), .int .i64 (X k 3), .int .u64 (X k 4)]] _ ?_ HLC.out ?_; (focus (intro w9 h9; go_simp; done)); go_simp; go_big_quiet_on)))
                refine wpQuiet_nil ?_
                intro w3 hbx
                have H3 := Lib.hid (bel_step H2.out hbx)
                obtain ⟨⟨g0, g1, g2, g3, g4, g5⟩, _⟩ := RC.out _ hbx
                clear hbx
                go_upto_region 5 with (fail)
                obtain ⟨fn, tmps, assign, body, hy, hRd⟩ := HY.out _ k w3 (abides hJA HJ.out H3.out) hlen
                unfold enc at hy
                refine (wpIn_wide (n := n)).1 ?_
                gi_wp2
                refine hRd.mono ?_
                rintro e W3 (⟨rfl, hJ3, hk3⟩ | ⟨rfl, hJx3⟩)
                · have hkb := (Kb.grow (n₀ := n₀) (Bb := Bb) (by omega) (by omega) H3.out).trans hk3
                  have HKB := Lib.hid hkb
                  have HJ3 := Lib.hid hJ3
                  have HS3 : Hid (W.heap.size ≤ W3.heap.size) := Lib.hid (Nat.le_trans hsz hkb.1.size)
                  clear hJ3 hk3 hkb
                  gi_wp2
                  go_wp2
                  refine ⟨⟨k + 1, by omega, by go_num, ?_, by rw [List.range_succ]; exact HJ3.out, HRD.out.keep HKB.out, HS3.out⟩, by simp [intOf] <;> omega⟩
                  intro j hj
                  rcases Nat.lt_or_ge j k with h' | h'
                  · exact HALL.out j h'
                  · obtain rfl : j = k := by omega
                    exact HOK.out
                · have HJX := Lib.hid hJx3
                  clear hJx3
                  gi_wp2
                  go_wp2
                  first | rw [Exit.noGoto_ret] | skip
                  refine bodyPost_ret (results_none rfl _ _ _) rfl ?_
                  exact ⟨⟨_, rfl⟩, .inr ⟨_, ⟨k, by have := HLEN.out; rwa [List.length_range] at this, by rw [List.range_succ]⟩, HJX.out⟩⟩
              · have hok : okB X k = false := by unfold okB; rw [HQ.out, ho, hl]; simp; omega
                have HS := Lib.hid (HSTOP.out hok)
                rw [ho] at HOF
                rw [hl] at HLF
                clear hok hk0 ho hl
                go_upto_region 4 with (first
                  | (go_at_call 90; with_reducible refine (HV.out _).mono ?_; rintro e w2 ⟨rfl, h2⟩
                     obtain ⟨d0, d1, d2, d3, d4, d5⟩ := HC.out _ h2
                     have H2 := Lib.hid (bel_step (bel_alloc (Below.refl _ _) _) h2)
                     obtain ⟨z0, z1, z2, z3, z4⟩ := HY4.out _ H2.out))
                clear h2
                have RC : Hid (∀ W : World, Below w2.heap.size w2 W → (W.cell? ⟨wr.heap.size, 0, none⟩ = some (.int .i64 (X k 0)) ∧ W.cell? ⟨wr.heap.size, 1, none⟩ = some (.int .i64 (X k 1)) ∧ W.cell? ⟨wr.heap.size, 2, none⟩ = some (.int .i64 (X k 2)) ∧ W.cell? ⟨wr.heap.size, 3, none⟩ = some (.int .i64 (X k 3)) ∧ W.cell? ⟨wr.heap.size, 4, none⟩ = some (.int .u64 (X k 4)) ∧ W.cell? ⟨Bb, 0, none⟩ = some (.slice (some ⟨b, o, none⟩) m c)) ∧ W.cell? ⟨b, o + q * 5, none⟩ = some (.int .i64 (X q 0)) ∧ W.cell? ⟨b, o + q * 5 + 1, none⟩ = some (.int .i64 (X q 1)) ∧ W.cell? ⟨b, o + q * 5 + 2, none⟩ = some (.int .i64 (X q 2)) ∧ W.cell? ⟨b, o + q * 5 + 3, none⟩ = some (.int .i64 (X q 3)) ∧ W.cell? ⟨b, o + q * 5 + 4, none⟩ = some (.int .u64 (X q 4))) := Lib.hid fun W hW => ⟨⟨old_at d0 hW, old_at d1 hW, old_at d2 hW, old_at d3 hW, old_at d4 hW, old_at d5 hW⟩, old_at z0 hW, old_at z1 hW, old_at z2 hW, old_at z3 hW, old_at z4 hW⟩
                have HOC : Hid (∀ W : World, Below w2.heap.size w2 W → Calls Try.prog 91 #[.agg #[.int .i64 (X q 0), .int .i64 (X q 1), .int .i64 (X q 2), .int .i64 (X q 3), .int .u64 (X q 4)], .agg #[.int .i64 (X k 0), .int .i64 (X k 1), .int .i64 (X k 2), .int .i64 (X k 3), .int .u64 (X k 4)]] W fun e w3 => e = .returned (.bool false) ∧ Below w2.heap.size w2 w3) := Lib.hid fun W hW => (HOF.out W).mono fun e w3 hh => ⟨hh.1, bel_step hW hh.2⟩
                have HLC : Hid (∀ W : World, Below w2.heap.size w2 W → Calls Try.prog 92 #[.agg #[.int .i64 (X q 0), .int .i64 (X q 1), .int .i64 (X q 2), .int .i64 (X q 3), .int .u64 (X q 4)], .agg #[.int .i64 (X k 0), .int .i64 (X k 1), .int .i64 (X k 2), .int .i64 (X k 3), .int .u64 (X k 4)]] W fun e w3 => e = .returned (.bool true) ∧ Below w2.heap.size w2 w3) := Lib.hid fun W hW => (HLF.out W).mono fun e w3 hh => ⟨hh.1, bel_step hW hh.2⟩
                clear d0 d1 d2 d3 d4 d5 z0 z1 z2 z3 z4
                refine wp_region_cls (fun w9 => Below w2.heap.size w2 w9) (by kernel_rfl) (by kernel_rfl) (below_drewN (Below.refl _ _) 1) ?_
                repeat (first
                  | go_big_quiet_skip
                  | (go_big_quiet_want; first
                    | (go_big_quiet_op; go_big_quiet_on)
                    | (refine quiet_of_run (.bool true) ?_ ?_; (focus (intro w9 h9; obtain ⟨⟨k0, k1, k2, k3, k4, k5⟩, y0, y1, y2, y3, y4⟩ := RC.out w9 h9; go_simp; done)); go_simp; go_big_quiet_on)
                    | (refine quiet_of_run (.bool false) ?_ ?_; (focus (intro w9 h9; obtain ⟨⟨k0, k1, k2, k3, k4, k5⟩, y0, y1, y2, y3, y4⟩ := RC.out w9 h9; go_simp; done)); go_simp; go_big_quiet_on)
                    | (refine quiet_of_run (.int .i64 (q : Int)) ?_ ?_; (focus (intro w9 h9; obtain ⟨⟨k0, k1, k2, k3, k4, k5⟩, y0, y1, y2, y3, y4⟩ := RC.out w9 h9; go_simp; done)); go_simp; go_big_quiet_on)
                    | (refine quiet_of_run (.slice (some ⟨b, o, none⟩) m c) ?_ ?_; (focus (intro w9 h9; obtain ⟨⟨k0, k1, k2, k3, k4, k5⟩, y0, y1, y2, y3, y4⟩ := RC.out w9 h9; go_simp; done)); go_simp; go_big_quiet_on)
                    | (refine quiet_of_run (.pointer (some ⟨b, o + q * 5, none⟩)) ?_ ?_; (focus (intro w9 h9; obtain ⟨⟨k0, k1, k2, k3, k4, k5⟩, y0, y1, y2, y3, y4⟩ := RC.out w9 h9; go_simp; done)); go_simp; go_big_quiet_on)
                    | (refine quiet_of_run (.agg #[.int .i64 (X q 0), .int .i64 (X q 1), .int .i64 (X q 2), .int .i64 (X q 3), .int .u64 (X q 4)]) ?_ ?_; (focus (intro w9 h9; obtain ⟨⟨k0, k1, k2, k3, k4, k5⟩, y0, y1, y2, y3, y4⟩ := RC.out w9 h9; go_simp; done)); go_simp; go_big_quiet_on)
                    | (refine quiet_of_run (.agg #[.int .i64 (X k 0), .int .i64 (X k 1), .int .i64 (X k 2), .int .i64 (X k 3), .int .u64 (X k 4)]) ?_ ?_; (focus (intro w9 h9; obtain ⟨⟨k0, k1, k2, k3, k4, k5⟩, y0, y1, y2, y3, y4⟩ := RC.out w9 h9; go_simp; done)); go_simp; go_big_quiet_on)
                    | (refine quiet_of_call 91 #[.agg #[.int .i64 (X q 0), .int .i64 (X q 1), .int .i64 (X q 2), .int .i64 (X q 3), .int .u64 (X q 4)], .agg #[.int .i64 (X k 0), .int .i64 (X k 1), .int .i64 (X k 2), .int .i64 (X k 3), .int .u64 (X k 4)]] _ ?_ HOC.out ?_; (focus (intro w9 h9; go_simp; done)); go_simp; go_big_quiet_on)
                    | (refine quiet_of_call 92 #[.agg #[.int .i64 (X q 0), .int .i64 (X q 1), .int .i64 (X q 2), .int .i64 (X q 3), .int .u64 (X q 4)], .agg #[.int .i64 (X k 0), .int .i64 (X k 1), .int .i64 (X k 2), .int .i64 (X k 3), .int .u64 (X k 4)]] _ ?_ HLC.out ?_; (focus (intro w9 h9; go_simp; done)); go_simp; go_big_quiet_on)))
                refine wpQuiet_nil ?_
                intro w3 hbx
                go_wp2
                rw [Exit.noGoto_normal]
                go_end0
                exact ⟨⟨_, rfl⟩, HS.out _ (bel_step H2.out hbx)⟩
            · have hok : okB X k = false := by unfold okB; rw [HQ.out, ho]; simp; omega
              have HS := Lib.hid (HSTOP.out hok)
              rw [ho] at HOF
              clear hok hk0 ho
              go_upto_region 4 with (first
                | (go_at_call 90; with_reducible refine (HV.out _).mono ?_; rintro e w2 ⟨rfl, h2⟩
                   obtain ⟨d0, d1, d2, d3, d4, d5⟩ := HC.out _ h2
                   have H2 := Lib.hid (bel_step (bel_alloc (Below.refl _ _) _) h2)
                   obtain ⟨z0, z1, z2, z3, z4⟩ := HY4.out _ H2.out))
              clear h2
              have RC : Hid (∀ W : World, Below w2.heap.size w2 W → (W.cell? ⟨wr.heap.size, 0, none⟩ = some (.int .i64 (X k 0)) ∧ W.cell? ⟨wr.heap.size, 1, none⟩ = some (.int .i64 (X k 1)) ∧ W.cell? ⟨wr.heap.size, 2, none⟩ = some (.int .i64 (X k 2)) ∧ W.cell? ⟨wr.heap.size, 3, none⟩ = some (.int .i64 (X k 3)) ∧ W.cell? ⟨wr.heap.size, 4, none⟩ = some (.int .u64 (X k 4)) ∧ W.cell? ⟨Bb, 0, none⟩ = some (.slice (some ⟨b, o, none⟩) m c)) ∧ W.cell? ⟨b, o + q * 5, none⟩ = some (.int .i64 (X q 0)) ∧ W.cell? ⟨b, o + q * 5 + 1, none⟩ = some (.int .i64 (X q 1)) ∧ W.cell? ⟨b, o + q * 5 + 2, none⟩ = some (.int .i64 (X q 2)) ∧ W.cell? ⟨b, o + q * 5 + 3, none⟩ = some (.int .i64 (X q 3)) ∧ W.cell? ⟨b, o + q * 5 + 4, none⟩ = some (.int .u64 (X q 4))) := Lib.hid fun W hW => ⟨⟨old_at d0 hW, old_at d1 hW, old_at d2 hW, old_at d3 hW, old_at d4 hW, old_at d5 hW⟩, old_at z0 hW, old_at z1 hW, old_at z2 hW, old_at z3 hW, old_at z4 hW⟩
              have HOC : Hid (∀ W : World, Below w2.heap.size w2 W → Calls Try.prog 91 #[.agg #[.int .i64 (X q 0), .int .i64 (X q 1), .int .i64 (X q 2), .int .i64 (X q 3), .int .u64 (X q 4)], .agg #[.int .i64 (X k 0), .int .i64 (X k 1), .int .i64 (X k 2), .int .i64 (X k 3), .int .u64 (X k 4)]] W fun e w3 => e = .returned (.bool true) ∧ Below w2.heap.size w2 w3) := Lib.hid fun W hW => (HOF.out W).mono fun e w3 hh => ⟨hh.1, bel_step hW hh.2⟩
              have HLC : Hid (∀ W : World, Below w2.heap.size w2 W → Calls Try.prog 92 #[.agg #[.int .i64 (X q 0), .int .i64 (X q 1), .int .i64 (X q 2), .int .i64 (X q 3), .int .u64 (X q 4)], .agg #[.int .i64 (X k 0), .int .i64 (X k 1), .int .i64 (X k 2), .int .i64 (X k 3), .int .u64 (X k 4)]] W fun e w3 => e = .returned (.bool (latB (X q) (X k))) ∧ Below w2.heap.size w2 w3) := Lib.hid fun W hW => (HLF.out W).mono fun e w3 hh => ⟨hh.1, bel_step hW hh.2⟩
              clear d0 d1 d2 d3 d4 d5 z0 z1 z2 z3 z4
              refine wp_region_cls (fun w9 => Below w2.heap.size w2 w9) (by kernel_rfl) (by kernel_rfl) (below_drewN (Below.refl _ _) 1) ?_
              repeat (first
                | go_big_quiet_skip
                | (go_big_quiet_want; first
                  | (go_big_quiet_op; go_big_quiet_on)
                  | (refine quiet_of_run (.bool true) ?_ ?_; (focus (intro w9 h9; obtain ⟨⟨k0, k1, k2, k3, k4, k5⟩, y0, y1, y2, y3, y4⟩ := RC.out w9 h9; go_simp; done)); go_simp; go_big_quiet_on)
                  | (refine quiet_of_run (.bool false) ?_ ?_; (focus (intro w9 h9; obtain ⟨⟨k0, k1, k2, k3, k4, k5⟩, y0, y1, y2, y3, y4⟩ := RC.out w9 h9; go_simp; done)); go_simp; go_big_quiet_on)
                  | (refine quiet_of_run (.int .i64 (q : Int)) ?_ ?_; (focus (intro w9 h9; obtain ⟨⟨k0, k1, k2, k3, k4, k5⟩, y0, y1, y2, y3, y4⟩ := RC.out w9 h9; go_simp; done)); go_simp; go_big_quiet_on)
                  | (refine quiet_of_run (.slice (some ⟨b, o, none⟩) m c) ?_ ?_; (focus (intro w9 h9; obtain ⟨⟨k0, k1, k2, k3, k4, k5⟩, y0, y1, y2, y3, y4⟩ := RC.out w9 h9; go_simp; done)); go_simp; go_big_quiet_on)
                  | (refine quiet_of_run (.pointer (some ⟨b, o + q * 5, none⟩)) ?_ ?_; (focus (intro w9 h9; obtain ⟨⟨k0, k1, k2, k3, k4, k5⟩, y0, y1, y2, y3, y4⟩ := RC.out w9 h9; go_simp; done)); go_simp; go_big_quiet_on)
                  | (refine quiet_of_run (.agg #[.int .i64 (X q 0), .int .i64 (X q 1), .int .i64 (X q 2), .int .i64 (X q 3), .int .u64 (X q 4)]) ?_ ?_; (focus (intro w9 h9; obtain ⟨⟨k0, k1, k2, k3, k4, k5⟩, y0, y1, y2, y3, y4⟩ := RC.out w9 h9; go_simp; done)); go_simp; go_big_quiet_on)
                  | (refine quiet_of_run (.agg #[.int .i64 (X k 0), .int .i64 (X k 1), .int .i64 (X k 2), .int .i64 (X k 3), .int .u64 (X k 4)]) ?_ ?_; (focus (intro w9 h9; obtain ⟨⟨k0, k1, k2, k3, k4, k5⟩, y0, y1, y2, y3, y4⟩ := RC.out w9 h9; go_simp; done)); go_simp; go_big_quiet_on)
                  | (refine quiet_of_call 91 #[.agg #[.int .i64 (X q 0), .int .i64 (X q 1), .int .i64 (X q 2), .int .i64 (X q 3), .int .u64 (X q 4)], .agg #[.int .i64 (X k 0), .int .i64 (X k 1), .int .i64 (X k 2), .int .i64 (X k 3), .int .u64 (X k 4)]] _ ?_ HOC.out ?_; (focus (intro w9 h9; go_simp; done)); go_simp; go_big_quiet_on)
                  | (refine quiet_of_call 92 #[.agg #[.int .i64 (X q 0), .int .i64 (X q 1), .int .i64 (X q 2), .int .i64 (X q 3), .int .u64 (X q 4)], .agg #[.int .i64 (X k 0), .int .i64 (X k 1), .int .i64 (X k 2), .int .i64 (X k 3), .int .u64 (X k 4)]] _ ?_ HLC.out ?_; (focus (intro w9 h9; go_simp; done)); go_simp; go_big_quiet_on)))
              refine wpQuiet_nil ?_
              intro w3 hbx
              go_wp2
              rw [Exit.noGoto_normal]
              go_end0
              exact ⟨⟨_, rfl⟩, HS.out _ (bel_step H2.out hbx)⟩
        · have hok : okB X k = false := by simp [okB, hn1]
          have HS := Lib.hid (HSTOP.out hok)
          have e1 : (X k 1 != (k : Int) + 1) = true := by simpa using hn1
          clear hn1 hok
          go_wp2_with (go_at_call 90; with_reducible refine (HV.out _).mono ?_; rintro e w2 ⟨rfl, h2⟩
                       obtain ⟨d0, d1, d2, d3, d4, d5⟩ := HC.out _ h2)
          rw [Exit.noGoto_normal]
          go_end0
          exact ⟨⟨_, rfl⟩, HS.out _ (bel_step (bel_alloc (Below.refl _ _) _) h2)⟩
    · obtain rfl : k = m := by omega
      have hfi : fi (okB X) k = k := fi_eq (Nat.le_refl _) HALL.out (.inl rfl)
      have HF := Lib.hid hfi
      clear hfi
      go_wp2_with fail
      rw [Exit.noGoto_normal]
      go_end0
      exact ⟨⟨_, rfl⟩, .inl ⟨_, by rw [HF.out], HJ.out⟩⟩
theorem inOrder_seq (n : Nat) (hn : 1 ≤ n) (n₀ Bb : Nat) (A : Option Addr) (m c : Nat) (X : Nat → Nat → Int) (hm : m ≤ 1000) (w : World) (hn₀ : n₀ ≤ w.heap.size) (hBb : Bb < w.heap.size) (hR : Rb n₀ Bb A m c X w) :
    SeqStopsK Fence.wide n Try.prog 96 #[.pointer (some ⟨Bb, 0, none⟩)] (enc X) (Kb n₀ Bb) (fun xs => xs = List.range (fi (okB X) m)) (fun pre => ∃ k, k < fi (okB X) m ∧ pre = List.range (k + 1)) (fi (okB X) m) w :=
  fun l J Jx W hW hJA _ hY h0 => inOrder1 n hn l n₀ Bb A m c X J Jx hm _ hJA hY W (Nat.le_trans hn₀ hW.size) (Nat.lt_of_lt_of_le hBb hW.size) (hR.keep ⟨hW.mono hn₀, hW.block _ hBb⟩) h0
set_option maxHeartbeats 1000000 in
theorem inOrder_any (A : Option Addr) (m c : Nat) (w : World) :
    Calls Try.prog 35 #[.slice A m c] w
      fun e w' => e = .returned (.func (.func 96) #[] #[.pointer (some ⟨w.heap.size, 0, none⟩)]) ∧ w' = w.alloc (.cells #[.slice A m c] 29) := by
  have hmf : ∀ (fn : Fn) (first cap : Array Value) (w : World), (Instr.makeFunc fn first cap).run Try.prog w = .ok (.func fn first cap) w := fun _ _ _ _ => rfl
  go_enter Try.func35, Try.ntmps35
  go_wp2
  go_ret
  exact ⟨rfl, rfl⟩
end Go.Proofs.Ytkhmlbkkdflnoaa.Ch
