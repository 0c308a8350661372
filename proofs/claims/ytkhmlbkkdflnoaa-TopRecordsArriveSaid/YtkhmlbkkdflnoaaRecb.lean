/-
  THE WALKS over package record, second part: Close and Check.
-/
import Derived.Test.YtkhmlbkkdflnoaaRec
import Derived.Test.YtkhmlbkkdflnoaaEner
namespace Go.Proofs.Ytkhmlbkkdflnoaa.Rc
open Go.RowKit
open Ch (inB inB_iff lkf)
set_option linter.unusedVariables false
set_option linter.unusedSimpArgs false
attribute [local go_sem ↓] Go.wp_at_zero Go.wp_at_succ

/-- the cells of a record, and its value -/
def rcL (f : Nat → Int) : List Value := [.int .i64 (f 0), .int .i64 (f 1), .int .i64 (f 2), .int .i64 (f 3), .int .i64 (f 4), .int .i64 (f 5), .int .i64 (f 6), .int .i64 (f 7), .int .i64 (f 8), .int .u64 (f 9), .int .u64 (f 10), .int .u64 (f 11), .int .u64 (f 12)]
def rcV (f : Nat → Int) : Value := .agg #[.int .i64 (f 0), .int .i64 (f 1), .int .i64 (f 2), .int .i64 (f 3), .int .i64 (f 4), .int .i64 (f 5), .int .i64 (f 6), .int .i64 (f 7), .int .i64 (f 8), .int .u64 (f 9), .int .u64 (f 10), .int .u64 (f 11), .int .u64 (f 12)]
/-- a record's box -/
def RCB (W : World) (b : Nat) (f : Nat → Int) : Prop := W.heap[b]? = some (.cells (rcL f).toArray 53 (0, 0))
theorem RCB.lt {W : World} {b : Nat} {f : Nat → Int} (h : RCB W b f) : b < W.heap.size := (Array.getElem?_eq_some_iff.1 h).1
theorem RCB.keep {W W' : World} {b : Nat} {f : Nat → Int} (h : RCB W b f) (hb : Below W.heap.size W W') : RCB W' b f := (hb.block _ h.lt).trans h
theorem RCB.new (W : World) (f : Nat → Int) : RCB (W.alloc (.cells (rcL f).toArray 53)) W.heap.size f := heap_alloc_new _ _
theorem RCB.alloc {W : World} {b : Nat} {f : Nat → Int} (h : RCB W b f) (o : Obj) : RCB (W.alloc o) b f := h.keep (bel_alloc (Below.refl _ _) o)
theorem RCB.thaw {W : World} {b : Nat} {f : Nat → Int} (h : RCB W b f) (j : Nat) : W.frozen? ⟨b, j, none⟩ = false := by
  have h' : W.heap[b]? = some (.cells (rcL f).toArray 53 (0, 0)) := h
  simp [World.frozen?, h']
theorem RCB.far {W : World} {b : Nat} {f : Nat → Int} (h : RCB W b f) {p : Addr} (hp : b ≠ p.block) (v : Value) : RCB (W.setCell p v) b f := (Below.heap_setCell W p v b hp).trans h
theorem RCB.get {W : World} {b : Nat} {f : Nat → Int} (h : RCB W b f) : W.cell? ⟨b, 0, none⟩ = some (.int .i64 (f 0)) ∧ W.cell? ⟨b, 1, none⟩ = some (.int .i64 (f 1)) ∧ W.cell? ⟨b, 2, none⟩ = some (.int .i64 (f 2)) ∧ W.cell? ⟨b, 3, none⟩ = some (.int .i64 (f 3)) ∧ W.cell? ⟨b, 4, none⟩ = some (.int .i64 (f 4)) ∧ W.cell? ⟨b, 5, none⟩ = some (.int .i64 (f 5)) ∧ W.cell? ⟨b, 6, none⟩ = some (.int .i64 (f 6)) ∧ W.cell? ⟨b, 7, none⟩ = some (.int .i64 (f 7)) ∧ W.cell? ⟨b, 8, none⟩ = some (.int .i64 (f 8)) ∧ W.cell? ⟨b, 9, none⟩ = some (.int .u64 (f 9)) ∧ W.cell? ⟨b, 10, none⟩ = some (.int .u64 (f 10)) ∧ W.cell? ⟨b, 11, none⟩ = some (.int .u64 (f 11)) ∧ W.cell? ⟨b, 12, none⟩ = some (.int .u64 (f 12)) := by
  refine ⟨?_, ?_, ?_, ?_, ?_, ?_, ?_, ?_, ?_, ?_, ?_, ?_, ?_⟩ <;> rw [cell_of_row W b _ _ _ (0, 0) h] <;> rfl
def upd (f : Nat → Int) (k : Nat) (v : Int) : Nat → Int := fun j => if j = k then v else f j
theorem RCB.set7 {W : World} {b : Nat} {f : Nat → Int} (h : RCB W b f) (v : Int) : RCB (W.setCell ⟨b, 7, none⟩ (.int .i64 v)) b (upd f 7 v) := by
  have h' : W.heap[b]? = some (.cells (rcL f).toArray 53 (0, 0)) := h
  show _ = _
  simp [World.setCell, Array.getElem?_modify, h', rcL, upd]
theorem RCB.set9 {W : World} {b : Nat} {f : Nat → Int} (h : RCB W b f) {i : Nat} (hi : i < 4) (v : Int) : RCB (W.setCell ⟨b, 9 + i, none⟩ (.int .u64 v)) b (upd f (9 + i) v) := by
  have h' : W.heap[b]? = some (.cells (rcL f).toArray 53 (0, 0)) := h
  show _ = _
  rcases (by omega : i = 0 ∨ i = 1 ∨ i = 2 ∨ i = 3) with rfl | rfl | rfl | rfl <;> simp [World.setCell, Array.getElem?_modify, h', rcL, upd]
/-- the record that is given: no energy, no signatures -/
def clr (x : Nat → Int) : Nat → Int := fun j => if j = 7 then 0 else if j < 9 then x j else 0
/-- what holds while a record is signed -/
def CLI (w : World) (y : Nat → Int) (K : Nat → Int) (t : Value) (wr : World) : Prop :=
  ∃ (i : Nat) (f : Nat → Int), i ≤ 4 ∧ t = .int .i64 (i : Int) ∧ RCB wr w.heap.size f ∧ (∀ j, j < 9 → f j = y j) ∧ (∀ j, j < 4 → f (9 + j) = if j < i then sgn (K j) y else 0) ∧ RCB wr (w.heap.size + 1 + 1) (fun _ => 0) ∧ Below w.heap.size w wr
set_option maxRecDepth 100000 in
set_option maxHeartbeats 8000000 in
theorem close_ok (x K : Nat → Int) (A : Option Addr) (m c : Nat) (X : Nat → Nat → Int) (a b : Nat) (w : World) (hx : vRc (clr x)) (hm : m ≤ 64) (hR : RG w A m X) (hok : fi (Ch.okB X) m = m) (h5 : x 5 = a) (h6 : x 6 = b) (hab : a ≤ b) (ha : 1 ≤ a) (hb : b ≤ m) :
    Calls Try.prog 41 #[.agg #[.int .i64 (x 0), .int .i64 (x 1), .int .i64 (x 2), .int .i64 (x 3), .int .i64 (x 4), .int .i64 (x 5), .int .i64 (x 6), .int .i64 0, .int .i64 (x 8), .int .u64 0, .int .u64 0, .int .u64 0, .int .u64 0], .slice A m c, .agg #[.int .u64 (K 0), .int .u64 (K 1), .int .u64 (K 2), .int .u64 (K 3)]] w
      fun e w' => ∃ f, e = .returned (.tuple #[rcV f, .int .i64 0]) ∧ ((∀ j, j < 9 → f j = upd (clr x) 7 (Ch.eSum X a (b - a)) j) ∧ ∀ j, j < 4 → f (9 + j) = sgn (K j) (upd (clr x) 7 (Ch.eSum X a (b - a)))) ∧ Below w.heap.size w w' := by
  have HV : Hid (∀ W, Calls Try.prog 101 #[.agg #[.int .i64 (x 0), .int .i64 (x 1), .int .i64 (x 2), .int .i64 (x 3), .int .i64 (x 4), .int .i64 (x 5), .int .i64 (x 6), .int .i64 0, .int .i64 (x 8), .int .u64 0, .int .u64 0, .int .u64 0, .int .u64 0]] W fun e w' => e = .returned (.bool true) ∧ Below W.heap.size W w') := Lib.hid fun W => valid_ok (clr x) W hx
  have HEN : Hid (∀ W, RG W A m X → Calls Try.prog 11 #[.slice A m c, .int .i64 (clr x 5), .int .i64 (clr x 6)] W fun e w' => e = .returned (.tuple #[.int .i64 (Ch.eSum X a (b - a)), .int .i64 0]) ∧ Below W.heap.size W w') := Lib.hid fun W h => by
    rw [show clr x 5 = x 5 from rfl, show clr x 6 = x 6 from rfl, h5, h6]
    exact Ch.energy_ok A m c X a b W (by omega) h hok ha hab hb
  have HR := Lib.hid hR
  have HBX : Hid (RCB (((w.alloc (.cells (rcL (clr x)).toArray 53)).alloc (.cells #[.int .u64 (K 0), .int .u64 (K 1), .int .u64 (K 2), .int .u64 (K 3)] 40)).alloc (.cells (rcL fun _ => 0).toArray 53)) w.heap.size (clr x)) := Lib.hid (((RCB.new w _).alloc _).alloc _)
  have HBZ : Hid (RCB (((w.alloc (.cells (rcL (clr x)).toArray 53)).alloc (.cells #[.int .u64 (K 0), .int .u64 (K 1), .int .u64 (K 2), .int .u64 (K 3)] 40)).alloc (.cells (rcL fun _ => 0).toArray 53)) (w.heap.size + 1 + 1) (fun _ => 0)) := Lib.hid (by have := RCB.new ((w.alloc (.cells (rcL (clr x)).toArray 53)).alloc (.cells #[.int .u64 (K 0), .int .u64 (K 1), .int .u64 (K 2), .int .u64 (K 3)] 40)) (fun _ => 0); rwa [World.size_alloc, World.size_alloc] at this)
  have HKB : Hid (∀ j, j < 4 → (((w.alloc (.cells (rcL (clr x)).toArray 53)).alloc (.cells #[.int .u64 (K 0), .int .u64 (K 1), .int .u64 (K 2), .int .u64 (K 3)] 40)).alloc (.cells (rcL fun _ => 0).toArray 53)).cell? ⟨w.heap.size + 1, j, none⟩ = some (.int .u64 (K j))) := Lib.hid fun j hj => by
    have h1 := heap_alloc_new (w.alloc (.cells (rcL (clr x)).toArray 53)) (.cells #[.int .u64 (K 0), .int .u64 (K 1), .int .u64 (K 2), .int .u64 (K 3)] 40)
    rw [World.size_alloc] at h1
    rw [cell_of_row _ (w.heap.size + 1) _ _ _ (0, 0) ((Below.heap_alloc _ _ _ (by simp)).trans h1)]
    rcases (by omega : j = 0 ∨ j = 1 ∨ j = 2 ∨ j = 3) with rfl | rfl | rfl | rfl <;> rfl
  have hix : ∀ (i : Nat), i < 4 → ∀ W, (Instr.index 40 (.agg #[.int .u64 (K 0), .int .u64 (K 1), .int .u64 (K 2), .int .u64 (K 3)]) (.int .i64 i)).run Try.prog W = .ok (.int .u64 (K i)) W := fun i hi W => by
    rcases (by omega : i = 0 ∨ i = 1 ∨ i = 2 ∨ i = 3) with rfl | rfl | rfl | rfl <;> kernel_rfl
  have HIX := Lib.hid hix
  clear hix
  obtain ⟨en, hen⟩ : ∃ en, Ch.eSum X a (b - a) = en := ⟨_, rfl⟩
  rw [hen] at HEN ⊢
  clear hR hok hx h5 h6 hen
  go_enter Try.func41, Try.ntmps41
  go_wp2_with (first
    | (go_at_call 101; with_reducible refine (HV.out _).mono ?_; rintro e w1 ⟨rfl, h1⟩
       have B1 := Lib.hid (RCB.keep HBX.out h1)
       have Z1 := Lib.hid (RCB.keep HBZ.out h1)
       have H1 := Lib.hid (bel_step (bel_alloc (bel_alloc (bel_alloc (Below.refl _ _) _) _) _) h1)
       obtain ⟨c0, c1, c2, c3, c4, c5, c6, c7, c8, c9, c10, c11, c12⟩ := B1.out.get)
    | (go_at_call 11; with_reducible refine (HEN.out _ (HR.out.keep H1.out)).mono ?_; rintro e w2 ⟨rfl, h2⟩
       have B2 := Lib.hid (B1.out.keep h2)
       have Z2 := Lib.hid (Z1.out.keep h2)
       have H2 := Lib.hid (bel_step H1.out h2)
       have f7 := B2.out.thaw 7
       obtain ⟨d0, d1, d2, d3, d4, d5, d6, d7, d8, d9, d10, d11, d12⟩ := B2.out.get
       have k0 := old_at (old_at (HKB.out 0 (by omega)) h1) h2
       have k1 := old_at (old_at (HKB.out 1 (by omega)) h1) h2
       have k2 := old_at (old_at (HKB.out 2 (by omega)) h1) h2
       have k3 := old_at (old_at (HKB.out 3 (by omega)) h1) h2))
  all_goals (try (exfalso; omega))
  have hl : CLI w (upd (clr x) 7 en) K (.int .i64 0) (w2.setCell ⟨w.heap.size, 7, none⟩ (.int .i64 en)) := ⟨0, _, by omega, rfl, B2.out.set7 en, fun j hj => rfl, fun j hj => by simp [upd, clr]; omega, Z2.out.far (by simp; omega) _, H2.out.setCell (p := ⟨w.heap.size, 7, none⟩) (by simp) _⟩
  have HL := Lib.hid hl
  obtain ⟨y, hy⟩ : ∃ y, upd (clr x) 7 en = y := ⟨_, rfl⟩
  rw [hy] at HL
  have HY := Lib.hid hy
  clear hl hy c0 c1 c2 c3 c4 c5 c6 c7 c8 c9 c10 c11 c12 d0 d1 d2 d3 d4 d5 d6 d7 d8 d9 d10 d11 d12 k0 k1 k2 k3 f7 h1 h2
  go_loopw [33] (fun t wr => CLI w y K t wr) (fun t _ => 4 - (intOf t).toNat)
  case atStart => exact HL.out
  case round =>
    obtain ⟨i, f, hi, rfl, hb, hf, hs, hz, hbel⟩ := hrel
    by_cases hlt : i < 4
    · have hx := HIX.out i hlt
      have HSI := Lib.hid (fun W => Sign_any f (K i) W)
      have hsg : sgn (K i) f = sgn (K i) y := sgn_congr hf
      rw [hsg] at HSI
      obtain ⟨c0, c1, c2, c3, c4, c5, c6, c7, c8, c9, c10, c11, c12⟩ := hb.get
      have HB := Lib.hid hb
      have HZ := Lib.hid hz
      have HF := Lib.hid hf
      have HS := Lib.hid hs
      have HBEL := Lib.hid hbel
      have i0 : (0 : Int) ≤ (i : Int) := by omega
      have i1 : (i : Int) < 4 := by omega
      have hws := hbel.size
      clear hb hz hf hs hbel hsg
      go_wp2_with (first
        | (go_at_call 102; with_reducible refine (HSI.out _).mono ?_; rintro e w4 ⟨rfl, h4⟩
           have HB4 := Lib.hid (HB.out.keep h4)
           have HZ4 := Lib.hid (HZ.out.keep h4)
           have HBEL4 := Lib.hid (bel_step HBEL.out h4)
           have fr := HB4.out.thaw (9 + i)
           have ex : ∃ v, w4.cell? ⟨w.heap.size, 9 + i, none⟩ = some v := by
             obtain ⟨e0, e1, e2, e3, e4, e5, e6, e7, e8, e9, e10, e11, e12⟩ := HB4.out.get
             rcases (by omega : i = 0 ∨ i = 1 ∨ i = 2 ∨ i = 3) with rfl | rfl | rfl | rfl
             · exact ⟨_, e9⟩
             · exact ⟨_, e10⟩
             · exact ⟨_, e11⟩
             · exact ⟨_, e12⟩
           obtain ⟨vx, hvx⟩ := ex))
      all_goals (try (exfalso; omega))
      have hn : CLI w y K (.int .i64 ((i : Int) + 1)) (w4.setCell ⟨w.heap.size, 9 + i, none⟩ (.int .u64 (sgn (K i) y))) := by
        refine ⟨i + 1, upd f (9 + i) (sgn (K i) y), by omega, by go_num, HB4.out.set9 hlt _, fun j hj => ?_, fun j hj => ?_, HZ4.out.far (by simp; omega) _, HBEL4.out.setCell (p := ⟨w.heap.size, 9 + i, none⟩) (by simp) _⟩
        · unfold upd
          rw [if_neg (by omega)]
          exact HF.out j hj
        · unfold upd
          by_cases e : j = i
          · subst e
            rw [if_pos rfl, if_pos (by omega)]
          · rw [if_neg (by omega), HS.out j hj]
            by_cases e2 : j < i
            · rw [if_pos e2, if_pos (by omega)]
            · rw [if_neg e2, if_neg (by omega)]
      exact ⟨hn, by simp [intOf] <;> omega⟩
    · obtain rfl : i = 4 := by omega
      obtain ⟨c0, c1, c2, c3, c4, c5, c6, c7, c8, c9, c10, c11, c12⟩ := hb.get
      obtain ⟨d0, d1, d2, d3, d4, d5, d6, d7, d8, d9, d10, d11, d12⟩ := hz.get
      have fz := hz.thaw
      have hne : ¬ w.heap.size = w.heap.size + 1 + 1 := by omega
      have HF := Lib.hid hf
      have HS := Lib.hid hs
      have HBEL := Lib.hid hbel
      clear hf hs hbel hb hz
      go_wp2_with fail
      all_goals (try (exfalso; omega))
      refine bodyPost_ret (v := .tuple #[rcV f, .int .i64 0]) (by simp [results, Try.results41, go_sem, d0, d1, d2, d3, d4, d5, d6, d7, d8, d9, d10, d11, d12, rcV]) rfl ⟨f, rfl, ⟨fun j hj => by rw [HF.out j hj, HY.out], fun j hj => by rw [HS.out j hj, if_pos hj, HY.out]⟩, ?_⟩
      repeat (refine Below.setCell ?_ (by simp; omega) _)
      exact HBEL.out
set_option maxRecDepth 100000 in
set_option maxHeartbeats 8000000 in
theorem check_ok (f K : Nat → Int) (w : World) (hv : vRc f) (hs : ∀ j, j < 4 → f (9 + j) = sgn (K j) f) :
    Calls Try.prog 42 #[.agg #[.int .i64 (f 0), .int .i64 (f 1), .int .i64 (f 2), .int .i64 (f 3), .int .i64 (f 4), .int .i64 (f 5), .int .i64 (f 6), .int .i64 (f 7), .int .i64 (f 8), .int .u64 (f 9), .int .u64 (f 10), .int .u64 (f 11), .int .u64 (f 12)], .agg #[.int .u64 (K 0), .int .u64 (K 1), .int .u64 (K 2), .int .u64 (K 3)]] w
      fun e w' => e = .returned (.int .i64 (-1)) ∧ Below w.heap.size w w' := by
  have HV := Lib.hid (fun W => valid_ok f W hv)
  have HS := Lib.hid hs
  have hix : ∀ (i : Nat), i < 4 → ∀ W, (Instr.index 40 (.agg #[.int .u64 (K 0), .int .u64 (K 1), .int .u64 (K 2), .int .u64 (K 3)]) (.int .i64 i)).run Try.prog W = .ok (.int .u64 (K i)) W := fun i hi W => by
    rcases (by omega : i = 0 ∨ i = 1 ∨ i = 2 ∨ i = 3) with rfl | rfl | rfl | rfl <;> kernel_rfl
  have HIX := Lib.hid hix
  have HKB : Hid (∀ j, j < 4 → ((w.alloc (.cells (rcL f).toArray 53)).alloc (.cells #[.int .u64 (K 0), .int .u64 (K 1), .int .u64 (K 2), .int .u64 (K 3)] 40)).cell? ⟨w.heap.size + 1, j, none⟩ = some (.int .u64 (K j))) := Lib.hid fun j hj => by
    have h1 := heap_alloc_new (w.alloc (.cells (rcL f).toArray 53)) (.cells #[.int .u64 (K 0), .int .u64 (K 1), .int .u64 (K 2), .int .u64 (K 3)] 40)
    rw [World.size_alloc] at h1
    rw [cell_of_row _ (w.heap.size + 1) _ _ _ (0, 0) h1]
    rcases (by omega : j = 0 ∨ j = 1 ∨ j = 2 ∨ j = 3) with rfl | rfl | rfl | rfl <;> rfl
  have HBX : Hid (RCB ((w.alloc (.cells (rcL f).toArray 53)).alloc (.cells #[.int .u64 (K 0), .int .u64 (K 1), .int .u64 (K 2), .int .u64 (K 3)] 40)) w.heap.size f) := Lib.hid ((RCB.new w _).alloc _)
  clear hix hv hs
  go_enter Try.func42, Try.ntmps42
  go_wp2_with (first
    | (go_at_call 101; with_reducible refine (HV.out _).mono ?_; rintro e w1 ⟨rfl, h1⟩
       have B1 := Lib.hid (RCB.keep HBX.out h1)
       have H1 := Lib.hid (bel_step (bel_alloc (bel_alloc (Below.refl _ _) _) _) h1)
       have k0 := old_at (HKB.out 0 (by omega)) h1
       have k1 := old_at (HKB.out 1 (by omega)) h1
       have k2 := old_at (HKB.out 2 (by omega)) h1
       have k3 := old_at (HKB.out 3 (by omega)) h1))
  all_goals (try (exfalso; omega))
  clear k0 k1 k2 k3 h1
  go_loopw [11] (fun t wr => ∃ i : Nat, i ≤ 4 ∧ t = .int .i64 (i : Int) ∧ Below w1.heap.size w1 wr) (fun t _ => 4 - (intOf t).toNat)
  case atStart => exact ⟨0, by omega, rfl, Below.refl _ _⟩
  case round =>
    obtain ⟨i, hi, rfl, hbel⟩ := hrel
    by_cases hlt : i < 4
    · have hx := HIX.out i hlt
      have HSI := Lib.hid (fun W => Sign_any f (K i) W)
      have hb := B1.out.keep hbel
      obtain ⟨c0, c1, c2, c3, c4, c5, c6, c7, c8, c9, c10, c11, c12⟩ := hb.get
      have ex : wr.cell? ⟨w.heap.size, 9 + i, none⟩ = some (.int .u64 (sgn (K i) f)) := by
        rw [← HS.out i hlt]
        rcases (by omega : i = 0 ∨ i = 1 ∨ i = 2 ∨ i = 3) with rfl | rfl | rfl | rfl <;> assumption
      have i0 : (0 : Int) ≤ (i : Int) := by omega
      have i1 : (i : Int) < 4 := by omega
      obtain ⟨sg, hsg⟩ : ∃ sg, sgn (K i) f = sg := ⟨_, rfl⟩
      rw [hsg] at HSI ex
      have HB := Lib.hid hb
      have HBEL := Lib.hid hbel
      clear hsg hb hbel
      go_upto_region 6 with (fail)
      all_goals (try (exfalso; omega))
      go_region_with (first
        | (go_at_call 102; with_reducible refine (HSI.out _).mono ?_; rintro e w4 ⟨rfl, h4⟩
           have ey := old_at (w := wr.drew) ex h4))
      all_goals
        have HB4 : Hid (Below wr.heap.size wr w4) := Lib.hid ⟨h4.os, h4.tape, h4.output, h4.size, h4.block⟩
        clear h4
        go_wp2_with fail
        all_goals (try (exfalso; omega))
        exact ⟨⟨i + 1, by omega, by go_num, bel_step HBEL.out HB4.out⟩, by simp [intOf] <;> omega⟩
    · obtain rfl : i = 4 := by omega
      go_wp2_with fail
      all_goals (try (exfalso; omega))
      go_ret
      exact ⟨rfl, bel_step H1.out hbel⟩
end Go.Proofs.Ytkhmlbkkdflnoaa.Rc
