/-
  THE WALKS over money.Split, second part: the closures; an amount that is divided.
-/
import Derived.Test.YtkhmlbkkdflnoaaSpl
namespace Go.Proofs.Ytkhmlbkkdflnoaa.Sp
open Go.RowKit
open Ch (inB inB_iff)
open Mo (ins_any isAm_any need_yes)
set_option linter.unusedVariables false
set_option linter.unusedSimpArgs false
attribute [local go_sem ↓] Go.wp_at_zero Go.wp_at_succ

theorem run_store_func {P : Program} {w : World} {a : Addr} {m : Mode} (f : Fn) (x y : Array Value) : (store a (.func f x y) m).run P w = stored P w a (.func f x y) m := run_store P w a _ m rfl
attribute [local go_sem] run_store_func
/-- the floor of part i -/
def flo (am S : Int) (f : Nat → Int) (i : Nat) : Int := am * f i / S
/-- the rest of part i -/
def rsd (am S : Int) (f : Nat → Int) (i : Nat) : Int := am * f i % S
theorem floors {am S : Int} {f : Nat → Int} (hS : 0 < S) : ∀ k : Nat, am * tot f k = S * tot (flo am S f) k + tot (rsd am S f) k ∧ 0 ≤ tot (rsd am S f) k ∧ tot (rsd am S f) k ≤ S * k := by
  intro k
  induction k with
  | zero => simp [tot]
  | succ k ih =>
    obtain ⟨h1, h2, h3⟩ := ih
    have e1 : S * flo am S f k + rsd am S f k = am * f k := Int.mul_ediv_add_emod (am * f k) S
    have e2 : 0 ≤ rsd am S f k := Int.emod_nonneg _ (by omega)
    have e3 : rsd am S f k < S := Int.emod_lt_of_pos _ hS
    simp only [tot, Int.mul_add, Int.natCast_add, Int.natCast_one, Int.mul_one]
    refine ⟨?_, ?_, ?_⟩ <;> omega
theorem left_bd {am S : Int} {f : Nat → Int} {n : Nat} (hS : 0 < S) (he : tot f n = S) : 0 ≤ am - tot (flo am S f) n ∧ am - tot (flo am S f) n ≤ n := by
  obtain ⟨h1, h2, h3⟩ := floors (am := am) (f := f) hS n
  rw [he, Int.mul_comm] at h1
  have e : S * (am - tot (flo am S f) n) = tot (rsd am S f) n := by rw [Int.mul_sub]; omega
  constructor
  · rcases Int.lt_or_le (am - tot (flo am S f) n) 0 with h | h
    · have := Int.mul_neg_of_pos_of_neg hS h
      omega
    · exact h
  · rcases Int.lt_or_le (n : Int) (am - tot (flo am S f) n) with h | h
    · have := Int.mul_lt_mul_of_pos_left h hS
      omega
    · exact h
theorem flo_bd {am S : Int} {f : Nat → Int} {i : Nat} (ha : 0 ≤ am ∧ am ≤ 1000000000) (hf : 0 ≤ f i ∧ f i ≤ 1000000) (hS : 0 < S) : (0 ≤ am * f i ∧ am * f i ≤ 1000000000000000) ∧ (0 ≤ flo am S f i ∧ flo am S f i ≤ 1000000000000000) ∧ (0 ≤ rsd am S f i ∧ rsd am S f i ≤ 1000000000000000) := by
  have h1 : 0 ≤ am * f i := Int.mul_nonneg ha.1 hf.1
  have h2 : am * f i ≤ 1000000000 * 1000000 := Int.mul_le_mul ha.2 hf.2 hf.1 (by omega)
  have h3 : 0 ≤ flo am S f i := Int.ediv_nonneg h1 (by omega)
  have h4 : flo am S f i ≤ am * f i := Int.ediv_le_self _ h1
  have h5 : 0 ≤ rsd am S f i := Int.emod_nonneg _ (by omega)
  have h7 : S * flo am S f i + rsd am S f i = am * f i := Int.mul_ediv_add_emod (am * f i) S
  have h8 : 0 ≤ S * flo am S f i := Int.mul_nonneg (by omega) h3
  have h6 : rsd am S f i ≤ am * f i := by omega
  omega
theorem tot_inc {y : Nat → Int} {s : Nat} : ∀ n, tot (fun i => if i = s then y s + 1 else y i) n = tot y n + if s < n then 1 else 0 := by
  intro n
  induction n with
  | zero => simp [tot]
  | succ n ih =>
    simp only [tot]
    rw [ih]
    by_cases h : n = s
    · subst h; simp; omega
    · rw [if_neg h]
      by_cases h1 : s < n
      · rw [if_pos h1, if_pos (by omega)]; omega
      · rw [if_neg h1, if_neg (by omega)]; omega
theorem tot_ge {y : Nat → Int} {s : Nat} : ∀ n, (∀ i, i < n → 0 ≤ y i) → s < n → y s ≤ tot y n := by
  intro n
  induction n with
  | zero => intro _ h; omega
  | succ n ih =>
    intro h hs
    simp only [tot]
    have h0 := h n (by omega)
    rcases Nat.lt_or_ge s n with h1 | h1
    · have := ih (fun i hi => h i (by omega)) h1; omega
    · obtain rfl : s = n := by omega
      have := tot_nn s fun i hi => h i (by omega)
      omega
theorem tot_same {y z : Nat → Int} : ∀ n, (∀ i, i < n → y i = z i) → tot y n = tot z n := by
  intro n
  induction n with
  | zero => intro _; rfl
  | succ n ih => intro h; simp only [tot]; rw [ih fun i hi => h i (by omega), h n (by omega)]

/-- what the closures read: the boxes of the amount, of the weights, of the sum -/
def Bx (W : World) (b2 b3 b6 : Nat) (am S : Int) (A : Option Addr) (n c : Nat) (f : Nat → Int) : Prop :=
  W.cell? ⟨b2, 0, none⟩ = some (.int .i64 am) ∧ W.cell? ⟨b3, 0, none⟩ = some (.slice A n c) ∧ W.cell? ⟨b6, 0, none⟩ = some (.int .i64 S) ∧ RZ W A n f
set_option maxRecDepth 100000 in
theorem clo2 (b2 b3 b6 : Nat) (am S : Int) (A : Option Addr) (n c : Nat) (f : Nat → Int) (k : Nat) (W : World) (hk : k < n) (ha : 0 ≤ am ∧ am ≤ 1000000000) (hf : ∀ i, i < n → 0 ≤ f i ∧ f i ≤ 1000000) (hS : 0 < S) (hB : Bx W b2 b3 b6 am S A n c f) :
    Calls Try.prog 65 #[.int .i64 (k : Int), .pointer (some ⟨b2, 0, none⟩), .pointer (some ⟨b3, 0, none⟩), .pointer (some ⟨b6, 0, none⟩)] W fun e w' => e = .returned (.int .i64 (rsd am S f k)) ∧ ∃ m, w' = W.drewN m := by
  obtain ⟨c2, c3, c6, hR⟩ := hB
  obtain ⟨⟨p1, p2⟩, _, ⟨p3, p4⟩⟩ := flo_bd (f := f) ha (hf k hk) hS
  obtain ⟨b, o, rfl, hb, hc⟩ := hR k hk
  have i1 : (0 : Int) ≤ (k : Int) := by omega
  have i2 : (k : Int) < (n : Int) := by omega
  have u1 : IntKind.i64.wrap (am * f k) = am * f k := IntWalk.i64_in _ (by omega)
  have u2 : (am * f k).tmod S = rsd am S f k := Int.tmod_eq_emod_of_nonneg p1
  have u3 : IntKind.i64.wrap (rsd am S f k) = rsd am S f k := IntWalk.i64_in _ (by omega)
  have u4 : ¬ S = 0 := by omega
  clear hR hf ha p1 p2 p3 p4 hk hS
  go_enter Try.func65, Try.ntmps65
  go_wp2_with fail
  go_quiet (fail)
  go_wp2_with fail
  go_ret
  exact ⟨rfl, _, rfl⟩
set_option maxRecDepth 100000 in
theorem clo3 (b2 b3 b6 pb : Nat) (am S : Int) (A : Option Addr) (n c : Nat) (f : Nat → Int) (x y : Nat) (W : World) (hx : x < n) (hy : y < n) (ha : 0 ≤ am ∧ am ≤ 1000000000) (hf : ∀ i, i < n → 0 ≤ f i ∧ f i ≤ 1000000) (hS : 0 < S) (hB : ∀ q, Bx (W.drewN q) b2 b3 b6 am S A n c f)
    (hp : W.cell? ⟨pb, 0, none⟩ = some (.func (.func 65) #[] #[.pointer (some ⟨b2, 0, none⟩), .pointer (some ⟨b3, 0, none⟩), .pointer (some ⟨b6, 0, none⟩)])) :
    Calls Try.prog 67 #[.int .i64 (x : Int), .int .i64 (y : Int), .pointer (some ⟨pb, 0, none⟩)] W fun e w' => e = .returned (.int .i64 (cmpI (rsd am S f y) (rsd am S f x))) ∧ ∃ m, w' = W.drewN m := by
  have HX := Lib.hid fun q => clo2 b2 b3 b6 am S A n c f x (W.drewN q) hx ha hf hS (hB q)
  have HY := Lib.hid fun q => clo2 b2 b3 b6 am S A n c f y (W.drewN q) hy ha hf hS (hB q)
  clear hB hf
  go_enter Try.func67, Try.ntmps67
  go_wp2_with fail
  go_quiet (first
    | (go_at_call 68; with_reducible exact Calls.quiet_of_same (cmp_any _ _ _))
    | (go_at_call 65; with_reducible exact Calls.quiet_of (HY.out _))
    | (go_at_call 65; with_reducible exact Calls.quiet_of (HX.out _)))
  go_wp2_with fail
  go_ret
  exact ⟨rfl, _, rfl⟩

theorem Kb.bel {g B : Nat} {w W : World} (h : Kb g w W) (hg : B ≤ g) (hB : B ≤ w.heap.size) : Below B w W := ⟨h.os, h.tape, h.output, h.size, fun k hk => h.block k (by omega) (by omega)⟩
theorem bel_of {g B : Nat} {w W : World} (h : w.heap.size ≤ W.heap.size) (h1 : W.os = w.os) (h2 : W.tape = w.tape) (h3 : W.output = w.output) (h4 : ∀ k, k < B → W.heap[k]? = w.heap[k]?) : Below B w W := ⟨h1, h2, h3, h, h4⟩
/-- parts as far as they are laid -/
def PT (O D n : Nat) (am S : Int) (f : Nat → Int) (k : Nat) (W : World) : Prop := ∃ zo zd, OwnR W O n n zo ∧ OwnR W D n n zd ∧ (∀ i, i < k → zo i = flo am S f i ∧ zd i = i)
theorem PT.step {O D n : Nat} {am S : Int} {f : Nat → Int} {k : Nat} {W : World} (h : PT O D n am S f k W) (hOD : O ≠ D) (hk : k < n) :
    (∃ x, W.cell? ⟨O, k, none⟩ = some (.int .i64 x)) ∧ W.frozen? ⟨O, k, none⟩ = false ∧ (∃ y, (W.setCell ⟨O, k, none⟩ (.int .i64 (flo am S f k))).cell? ⟨D, k, none⟩ = some (.int .i64 y)) ∧ (W.setCell ⟨O, k, none⟩ (.int .i64 (flo am S f k))).frozen? ⟨D, k, none⟩ = false ∧
    PT O D n am S f (k + 1) ((W.setCell ⟨O, k, none⟩ (.int .i64 (flo am S f k))).setCell ⟨D, k, none⟩ (.int .i64 (k : Int))) ∧ ((W.setCell ⟨O, k, none⟩ (.int .i64 (flo am S f k))).setCell ⟨D, k, none⟩ (.int .i64 (k : Int))).cell? ⟨O, k, none⟩ = some (.int .i64 (flo am S f k)) := by
  obtain ⟨zo, zd, h1, h2, h3⟩ := h
  have o1 := h1.write hk (flo am S f k)
  have d1 : OwnR (W.setCell ⟨O, k, none⟩ (.int .i64 (flo am S f k))) D n n zd := h2.keep (Below.heap_setCell _ _ _ _ (fun e => hOD e.symm))
  have d2 := d1.write hk (k : Int)
  have o2 := o1.keep (W' := ((W.setCell ⟨O, k, none⟩ (.int .i64 (flo am S f k))).setCell ⟨D, k, none⟩ (.int .i64 (k : Int)))) (Below.heap_setCell _ _ _ _ hOD)
  refine ⟨⟨_, (h1.at hk).1⟩, (h1.at hk).2, ⟨_, (d1.at hk).1⟩, (d1.at hk).2, ⟨_, _, o2, d2, fun i hi => ?_⟩, ?_⟩
  · show (if i = k then _ else _) = _ ∧ (if i = k then _ else _) = _
    by_cases e : i = k
    · subst e; simp
    · rw [if_neg e, if_neg e]; exact h3 i (by omega)
  · have := (o2.at hk).1
    simpa using this
set_option maxRecDepth 100000 in
set_option maxHeartbeats 2000000 in
theorem split_ok (am : Int) (A : Option Addr) (n c : Nat) (f : Nat → Int) (w : World) (hn : 1 ≤ n ∧ n ≤ 7) (ha : inB am 0 1000000000 = true) (hR : RZ w A n f) (hok : ∀ i, i < n → okw (f i) = true) (hpos : 0 < tot f n) :
    Calls Try.prog 23 #[.int .i64 am, .slice A n c] w fun e w' => ∃ g z, e = .returned (.tuple #[.slice (some ⟨g, 0, none⟩) n n, .int .i64 0]) ∧ OwnR w' g n n z ∧ (∀ i, i < n → 0 ≤ z i) ∧ tot z n = am ∧ Below w.heap.size w w' := by
  have hmf : ∀ (fn : Fn) (first cap : Array Value) (w : World), (Instr.makeFunc fn first cap).run Try.prog w = .ok (.func fn first cap) w := fun _ _ _ _ => rfl
  obtain ⟨i0, hi, hz0, hz1, hz2⟩ := info_parts infoInt
  have hmk : ∀ W : World, (Instr.makeSlice 46 (.int .i64 (n : Int)) (.int .i64 (n : Int))).run Try.prog W = .ok (.slice (some ⟨W.heap.size, 0, none⟩) n n) (W.alloc (.cells (madeCells (Value.int .i64 0).cells n) 3)) := fun W => by
    have := run_make_rowN (P := Try.prog) 46 3 i0 _ Try.underlying46 hi hz0 .i64 .i64 n n (by omega) (by rw [hz2]; omega) (by omega) W
    rw [hz1, Nat.mul_one] at this
    exact this
  have HA := Lib.hid (fun W => isAm_any am W)
  rw [ha] at HA
  have HAM := Lib.hid (inB_iff.1 ha)
  clear ha hi hz0 hz1 hz2
  have HL := Lib.hid (fun W => ins_any (n : Int) 1 32 W)
  rw [inB_iff.2 (show (1 : Int) ≤ n ∧ (n : Int) ≤ 32 by omega)] at HL
  have HR := Lib.hid hR
  have HOK := Lib.hid hok
  have HPOS := Lib.hid hpos
  clear hR hok hpos
  go_enter_defers Try.func23, Try.ntmps23
  go_wp2_with (first
    | (go_at_call 63; with_reducible refine (HA.out _).mono ?_; rintro e w1 ⟨rfl, rfl⟩)
    | (go_at_call 64; with_reducible refine (HL.out _).mono ?_; rintro e w1 ⟨rfl, rfl⟩)
    | (go_at_call 62; with_reducible refine (need_yes _ _).mono ?_; rintro e w1 ⟨⟨v, rfl⟩, rfl⟩))
  obtain ⟨W, hW⟩ : ∃ W, ((((w.alloc (Obj.cells #[Value.int IntKind.i64 am] 3)).alloc (Obj.cells #[Value.slice A n c] 46)).alloc (Obj.cells #[Value.int IntKind.i64 0] 32)).alloc (Obj.cells #[Value.int IntKind.i64 0] 3)) = W := ⟨_, rfl⟩
  have hS := split_boxes am A n c w
  have hsz : W.heap.size = w.heap.size + 1 + 1 + 1 + 1 := by rw [← hW]; simp only [World.size_alloc]
  rw [hW] at hS ⊢
  have HSB := Lib.hid hS
  clear hS hW
  go_loopw [28] (fun i wr => ∃ k : Nat, k ≤ n ∧ i = .int .i64 k ∧ wr.heap[w.heap.size + 1 + 1 + 1]? = some (.cells #[.int .i64 (tot f k)] 3 (0, 0)) ∧ wr.heap.size = w.heap.size + 1 + 1 + 1 + 1 ∧ Below (w.heap.size + 1 + 1 + 1) W wr) (fun i _ => n - (intOf i).toNat)
  case atStart => exact ⟨0, by omega, rfl, HSB.out.2.2.2.1, hsz, Below.refl _ _⟩
  case round =>
    obtain ⟨k, hk, rfl, hs, hsr, hbw⟩ := hrel
    have HSM := Lib.hid hs
    have HBW := Lib.hid hbw
    obtain ⟨s0, s1, s2, s3, s4⟩ := HSB.out
    have k0 := (hbw.block _ (by omega)).trans s0
    have k1 := (hbw.block _ (by omega)).trans s1
    have k2 := (hbw.block _ (by omega)).trans s2
    have m1 := box_at k1
    have m3 := box_at hs
    have HK := Lib.hid (And.intro k0 (And.intro k1 k2))
    have HBB := Lib.hid (s4.trans (hbw.mono (by omega)))
    have x1 := m1.1
    have x3 := m3.1
    have y3 := m3.2.1
    clear s0 s1 s2 s3 s4 k0 k1 k2 m1 m3 hs hbw
    by_cases hlt : k < n
    · obtain ⟨b, o, rfl, hb, hc⟩ := (HR.out.keep HBB.out) k hlt
      have i1 : (0 : Int) ≤ (k : Int) := by omega
      have i2 : (k : Int) < (n : Int) := by omega
      have HI := Lib.hid (fun W => ins_any (f k) 0 1000000 W)
      rw [show inB (f k) 0 1000000 = true from HOK.out k hlt] at HI
      have hb1 := tot_bd (y := f) (B := 1000000) k fun i hi => by have := inB_iff.1 (HOK.out i (by omega)); omega
      have hb2 := inB_iff.1 (HOK.out k hlt)
      have hb3 : -(7 * 1000000) ≤ tot f k ∧ tot f k ≤ 7 * 1000000 := by
        constructor <;> omega
      clear hb1
      go_wp2_with (first
        | (go_at_call 64; with_reducible refine (HI.out _).mono ?_; rintro e w1 ⟨rfl, rfl⟩)
        | (go_at_call 62; with_reducible refine (need_yes _ _).mono ?_; rintro e w1 ⟨⟨v, rfl⟩, rfl⟩))
      go_roundw
      case rel => exact ⟨k + 1, by omega, by go_num, box_set HSM.out _, by rw [World.size_setCell]; exact hsr, HBW.out.setCell (Nat.le_refl _) _⟩
      case measure => simp [intOf] <;> omega
    · obtain rfl : k = n := by omega
      have hp := HPOS.out
      have e1 : decide (0 < tot f k) = true := decide_eq_true hp
      have hSbd : 0 < tot f k ∧ tot f k ≤ 7000000 := by
        have h0 := tot_bd (y := f) (B := 1000000) k fun i hi => by have := inB_iff.1 (HOK.out i hi); omega
        omega
      have HSE : Hid (∃ S, tot f k = S) := Lib.hid ⟨_, rfl⟩
      obtain ⟨S, hS⟩ := HSE.out
      rw [hS] at hp e1 hSbd x3 HSM
      have HSS := Lib.hid hS
      clear hS HSE
      have x0 := (box_at HK.out.1).1
      go_upto_region 13 with (first
        | (go_at_call 62; with_reducible refine (need_yes _ _).mono ?_; rintro e w1 ⟨⟨v, rfl⟩, rfl⟩))
      all_goals (try (exfalso; omega))
      have hw2 : Hid (∃ W2, (wr.alloc (Obj.cells (madeCells #[Value.int IntKind.i64 0] k) 3)).alloc (Obj.cells (madeCells #[Value.int IntKind.i64 0] k) 3) = W2) := Lib.hid ⟨_, rfl⟩
      obtain ⟨W2, hW2⟩ := hw2.out
      have hsz2 : W2.heap.size = w.heap.size + 1 + 1 + 1 + 1 + 1 + 1 := by rw [← hW2]; simp only [World.size_alloc]; omega
      have hPT : PT (w.heap.size + 1 + 1 + 1 + 1) (w.heap.size + 1 + 1 + 1 + 1 + 1) k am S f 0 W2 := by
        refine ⟨_, _, OwnR.made (by omega) ?_, OwnR.made (by omega) ?_, fun i hi => by omega⟩
        · rw [← hW2, Below.heap_alloc _ _ _ (by simp only [World.size_alloc]; omega), ← hsr]
          exact heap_alloc_new _ _
        · have := heap_alloc_new (wr.alloc (Obj.cells (madeCells #[Value.int IntKind.i64 0] k) 3)) (Obj.cells (madeCells #[Value.int IntKind.i64 0] k) 3)
          rw [World.size_alloc, hsr, hW2] at this
          exact this
      have hbl : Below (w.heap.size + 1 + 1 + 1 + 1) wr W2 := by
        rw [← hW2]
        exact ((Below.refl _ _).alloc (by omega) _).alloc (by simp only [World.size_alloc]; omega) _
      rw [hW2]
      have HPT := Lib.hid hPT
      have j0 := (hbl.block _ (by omega)).trans HK.out.1
      have j1 := (hbl.block _ (by omega)).trans HK.out.2.1
      have j2 := (hbl.block _ (by omega)).trans HK.out.2.2
      have j3 := (hbl.block _ (by omega)).trans HSM.out
      have HJ := Lib.hid (And.intro j0 (And.intro j1 (And.intro j2 j3)))
      have HB2 := Lib.hid (HBB.out.trans (hbl.mono (by omega)))
      have HSR := Lib.hid hsr
      have x9 := (box_at j0).1
      have x8 := (box_at j1).1
      clear hw2 hW2 hPT hbl j0 j1 j2 j3 hsr hsz x0 x1 x3 y3 HK HSM HBB HBW HSB hlt hk
      have HFB : Hid (∀ i, i < k → 0 ≤ f i ∧ f i ≤ 1000000) := Lib.hid fun i hi => inB_iff.1 (HOK.out i hi)
      have ham := HAM.out
      go_wp2_with fail
      go_loopw [11, 51] (fun l i wr2 => ∃ q : Nat, q ≤ k ∧ i = .int .i64 q ∧ l = .int .i64 (am - tot (flo am S f) q) ∧ PT (w.heap.size + 1 + 1 + 1 + 1) (w.heap.size + 1 + 1 + 1 + 1 + 1) k am S f q wr2 ∧ wr2.heap.size = w.heap.size + 1 + 1 + 1 + 1 + 1 + 1 ∧ Below (w.heap.size + 1 + 1 + 1 + 1) W2 wr2) (fun _ i _ => k - (intOf i).toNat)
      case atStart => exact ⟨0, by omega, rfl, by simp [tot], HPT.out, hsz2, Below.refl _ _⟩
      case round =>
        obtain ⟨q, hq, rfl, rfl, hpt, hs3, hb3⟩ := hrel
        have HPQ := Lib.hid hpt
        have HB3 := Lib.hid hb3
        have z0 := (box_at ((hb3.block _ (by omega)).trans HJ.out.1)).1
        have z3 := (box_at ((hb3.block _ (by omega)).trans HJ.out.2.2.2)).1
        have HBB3 := Lib.hid (HB2.out.trans (hb3.mono (by omega)))
        clear hpt hb3
        by_cases hlt : q < k
        · obtain ⟨b, o, rfl, hb, hc⟩ := (HR.out.keep HBB3.out) q hlt
          have i1 : (0 : Int) ≤ (q : Int) := by omega
          have i2 : (q : Int) < (k : Int) := by omega
          obtain ⟨⟨p1, p2⟩, ⟨p3, p4⟩, _⟩ := flo_bd (f := f) ham (HFB.out q hlt) hp
          have u1 : IntKind.i64.wrap (am * f q) = am * f q := IntWalk.i64_in _ (by omega)
          have u2 : (am * f q).tdiv S = flo am S f q := Int.tdiv_eq_ediv_of_nonneg p1
          have u3 : IntKind.i64.wrap (flo am S f q) = flo am S f q := IntWalk.i64_in _ (by omega)
          have u4 : ¬ S = 0 := by omega
          have ht := tot_bd (y := flo am S f) (B := 1000000000000000) q fun i hi => by have := flo_bd (f := f) ham (HFB.out i (by omega)) hp; omega
          have ht2 : -7000000000000000 ≤ tot (flo am S f) q ∧ tot (flo am S f) q ≤ 7000000000000000 := by constructor <;> omega
          have u5 : IntKind.i64.wrap (am - tot (flo am S f) q - flo am S f q) = am - tot (flo am S f) q - flo am S f q := IntWalk.i64_in _ (by omega)
          obtain ⟨⟨v1, y1⟩, y2, ⟨v2, y3⟩, y4, hnx, y5⟩ := HPQ.out.step (by omega) hlt
          have HNX := Lib.hid hnx
          have HU : Hid (am - tot (flo am S f) (q + 1) = am - tot (flo am S f) q - flo am S f q) := Lib.hid (by simp only [tot]; omega)
          clear hnx ht ht2 p1 p2 p3 p4
          go_wp2_with fail
          go_roundw
          case rel => exact ⟨q + 1, by omega, by go_num, by rw [HU.out], HNX.out, by rw [World.size_setCell, World.size_setCell]; exact hs3, (HB3.out.setCell (Nat.le_refl _) _).setCell (by show w.heap.size + 1 + 1 + 1 + 1 ≤ w.heap.size + 1 + 1 + 1 + 1 + 1; omega) _⟩
          case measure => simp [intOf] <;> omega
        · obtain rfl : q = k := by omega
          obtain ⟨l1, l2⟩ := left_bd (am := am) hp HSS.out
          obtain ⟨L, hL⟩ : ∃ L : Nat, am - tot (flo am S f) q = (L : Int) := ⟨(am - tot (flo am S f) q).toNat, by omega⟩
          have hLq : L ≤ q := by omega
          rw [hL]
          have HLE := Lib.hid hL
          have HS3 := Lib.hid hs3
          clear hL l1 l2 hs3
          go_upto_region 20 with (fail)
          all_goals (try (exfalso; omega))
          have hs3 := HS3.out
          have n0 := (HB3.out.block _ (by omega)).trans HJ.out.1
          have n1 := (HB3.out.block _ (by omega)).trans HJ.out.2.1
          have n2 := (HB3.out.block _ (by omega)).trans HJ.out.2.2.1
          have n3 := (HB3.out.block _ (by omega)).trans HJ.out.2.2.2
          have HN := Lib.hid (And.intro n0 (And.intro n1 (And.intro n2 n3)))
          clear n0 n1 n2 n3 z0 z3 hs3
          go_upto_region 21 with (fail)
          have hw4 : Hid (∃ W4, wr.alloc (.cells #[.func (.func 65) #[] #[.pointer (some ⟨w.heap.size, 0, none⟩), .pointer (some ⟨w.heap.size + 1, 0, none⟩), .pointer (some ⟨w.heap.size + 1 + 1 + 1, 0, none⟩)]] 140) = W4) := Lib.hid ⟨_, rfl⟩
          obtain ⟨W4, hW4⟩ := hw4.out
          have hs3 := HS3.out
          rw [hW4]
          have hb4 : Below (w.heap.size + 1 + 1 + 1 + 1 + 1 + 1) wr W4 := by rw [← hW4]; exact (Below.refl _ _).alloc (by omega) _
          have hs4 : W4.heap.size = w.heap.size + 1 + 1 + 1 + 1 + 1 + 1 + 1 := by rw [← hW4, World.size_alloc]; omega
          have hp4 := heap_alloc_new wr (.cells #[.func (.func 65) #[] #[.pointer (some ⟨w.heap.size, 0, none⟩), .pointer (some ⟨w.heap.size + 1, 0, none⟩), .pointer (some ⟨w.heap.size + 1 + 1 + 1, 0, none⟩)]] 140)
          rw [hs3, hW4] at hp4
          have HP4 := Lib.hid (box_at hp4)
          have HB4 := Lib.hid (HBB3.out.trans (hb4.mono (by omega)))
          have m0 := (hb4.block _ (by omega)).trans HN.out.1
          have m1 := (hb4.block _ (by omega)).trans HN.out.2.1
          have m2 := (hb4.block _ (by omega)).trans HN.out.2.2.1
          have m3 := (hb4.block _ (by omega)).trans HN.out.2.2.2
          have HM := Lib.hid (And.intro (box_at m0) (And.intro (box_at m1) (And.intro m2 (box_at m3))))
          have hSO : ∃ zo, OwnR W4 (w.heap.size + 1 + 1 + 1 + 1) q q zo ∧ (∀ i, i < q → zo i = flo am S f i) ∧ SR W4 (w.heap.size + 1 + 1 + 1 + 1 + 1) q q W4 := by
            obtain ⟨zo, zd, o1, o2, o3⟩ := HPQ.out
            refine ⟨zo, o1.keep (hb4.block _ (by omega)), fun i hi => (o3 i hi).1, ⟨zd, o2.keep (hb4.block _ (by omega)), fun i hi => ?_⟩, Kb.refl _ _⟩
            rw [(o3 i hi).2]
            omega
          obtain ⟨zo, hzo, hzf, hsr4⟩ := hSO
          have HZO := Lib.hid hzo
          have HZF := Lib.hid hzf
          have HC4 : Hid (∀ V, Kb (w.heap.size + 1 + 1 + 1 + 1 + 1) W4 V → ∀ x y : Int, (0 ≤ x ∧ x < q) → (0 ≤ y ∧ y < q) → Calls Try.prog 67 #[.int .i64 x, .int .i64 y, .pointer (some ⟨w.heap.size + 1 + 1 + 1 + 1 + 1 + 1, 0, none⟩)] V fun e w' => e = .returned (.int .i64 (cmpI (rsd am S f y.toNat) (rsd am S f x.toNat))) ∧ ∃ k, w' = V.drewN k) := Lib.hid fun V hV x y hx hy => by
            obtain ⟨xn, rfl⟩ : ∃ xn : Nat, x = xn := ⟨x.toNat, by omega⟩
            obtain ⟨yn, rfl⟩ : ∃ yn : Nat, y = yn := ⟨y.toNat, by omega⟩
            exact clo3 w.heap.size (w.heap.size + 1) (w.heap.size + 1 + 1 + 1) (w.heap.size + 1 + 1 + 1 + 1 + 1 + 1) am S A q c f xn yn V (by omega) (by omega) HAM.out HFB.out hp
              (fun p => ⟨(hV.drewN p).cell (by show w.heap.size ≠ _; omega) HM.out.1.1, (hV.drewN p).cell (by show w.heap.size + 1 ≠ _; omega) HM.out.2.1.1, (hV.drewN p).cell (by show w.heap.size + 1 + 1 + 1 ≠ _; omega) HM.out.2.2.2.1, HR.out.keep (HB4.out.trans ((hV.drewN p).bel (by omega) (by omega)))⟩)
              (hV.cell (by show w.heap.size + 1 + 1 + 1 + 1 + 1 + 1 ≠ _; omega) HP4.out.1)
          have HST := Lib.hid (sort_any (w.heap.size + 1 + 1 + 1 + 1 + 1) q q (w.heap.size + 1 + 1 + 1 + 1 + 1 + 1) _ W4 (by omega) (by omega) HC4.out hsr4)
          have HSZ := Lib.hid (And.intro hs3 hs4)
          clear hw4 hW4 hb4 hp4 m0 m1 m2 m3 hzo hzf hsr4 hs3 hs4 hsz2 hlt hq
          rw [HSZ.out.1]
          go_upto_region 22 with (first
            | (go_at_call 66; with_reducible refine HST.out.mono ?_; rintro e5 W5 ⟨⟨v5, rfl⟩, h5⟩))
          obtain ⟨⟨zd, hzd, hzr⟩, hk5⟩ := h5
          have hs7 := HSZ.out.2
          have HZD := Lib.hid hzd
          have HZR := Lib.hid hzr
          have HO5 := Lib.hid (HZO.out.keep (hk5.block _ (by omega) (by omega)))
          have HE5 := Lib.hid ((hk5.block _ (by omega) (by omega)).trans HM.out.2.2.1)
          have HB5 := Lib.hid (HB4.out.trans (hk5.bel (by omega) (by omega)))
          have hs5 := hk5.size
          have i1 : (0 : Int) ≤ (L : Int) := by omega
          have i2 : (L : Int) ≤ (q : Int) := by omega
          have HL5 := Lib.hid hs5
          clear hzd hzr hk5 hs5 hs7
          go_wp2_with fail
          all_goals (try (exfalso; omega))
          go_loopw [83] (fun i wx => ∃ j : Nat, j ≤ L ∧ i = .int .i64 j ∧ (∃ zp : Nat → Int, OwnR wx (w.heap.size + 1 + 1 + 1 + 1) q q zp ∧ (∀ i, i < q → 0 ≤ zp i) ∧ tot zp q = tot (flo am S f) q + j) ∧ Kb (w.heap.size + 1 + 1 + 1 + 1) W5 wx) (fun i _ => L - (intOf i).toNat)
          case atStart =>
            refine ⟨0, by omega, rfl, ⟨_, HO5.out, fun i hi => ?_, ?_⟩, Kb.refl _ _⟩
            · rw [HZF.out i hi]
              exact (flo_bd (f := f) HAM.out (HFB.out i hi) hp).2.1.1
            · rw [tot_same q HZF.out]; simp
          case round =>
            obtain ⟨j, hj, rfl, ⟨zp, hzp, hzn, hzt⟩, hk6⟩ := hrel
            have HZT := Lib.hid hzt
            have HZP := Lib.hid hzp
            have HZN := Lib.hid hzn
            have HK6 := Lib.hid hk6
            by_cases hlt : j < L
            · have hs6 := HL5.out
              have hs7 := HSZ.out.2
              have c1 := ((HZD.out.keep (hk6.block _ (by omega) (by omega))).at (show j < q by omega)).1
              obtain ⟨s, hs⟩ : ∃ s : Nat, zd j = (s : Int) := ⟨(zd j).toNat, by have := HZR.out j (by omega); omega⟩
              have hsq : s < q := by have := HZR.out j (by omega); omega
              rw [hs] at c1
              obtain ⟨c2, f2⟩ := hzp.at hsq
              have hge := tot_ge (y := zp) q hzn hsq
              have hle := HLE.out
              have ham2 := HAM.out
              have hzs := hzn s hsq
              have hbd : 0 ≤ zp s ∧ zp s ≤ 1000000000 := by omega
              have HW := Lib.hid (hzp.write hsq (zp s + 1))
              have HTI := Lib.hid (tot_inc (y := zp) (s := s) q)
              have i3 : (0 : Int) ≤ (j : Int) := by omega
              have i4 : (j : Int) < (L : Int) := by omega
              have i5 : (0 : Int) ≤ (s : Int) := by omega
              have i6 : (s : Int) < (q : Int) := by omega
              clear hzp hzn hzt hk6 hs6 hs7 hge hle ham2 hzs hs
              go_wp2_with fail
              go_roundw
              case rel =>
                refine ⟨j + 1, by omega, by go_num, ⟨_, HW.out, fun i hi => ?_, ?_⟩, HK6.out.set _ _⟩
                · show 0 ≤ if i = s then zp s + 1 else zp i
                  split
                  · omega
                  · exact HZN.out i hi
                · have h1 := HTI.out
                  have h2 := HZT.out
                  rw [if_pos hsq] at h1
                  push_cast
                  omega
              case measure => simp [intOf] <;> omega
            · obtain rfl : j = L := by omega
              have hs6 := HL5.out
              have hs7 := HSZ.out.2
              have e6 := (hk6.block _ (by omega) (by omega)).trans HE5.out
              have hbx := box_at e6
              have b1 := hbx.1
              have b2 := hbx.2.1
              have HFIN : Hid (∀ v, OwnR (wr.setCell ⟨w.heap.size + 1 + 1, 0, none⟩ v) (w.heap.size + 1 + 1 + 1 + 1) q q zp ∧ Below w.heap.size w (wr.setCell ⟨w.heap.size + 1 + 1, 0, none⟩ v)) := Lib.hid fun v => ⟨hzp.keep (Below.heap_setCell _ _ _ _ (by show w.heap.size + 1 + 1 + 1 + 1 ≠ w.heap.size + 1 + 1; omega)), (HB5.out.trans (hk6.bel (by omega) (by omega))).setCell (by show w.heap.size ≤ w.heap.size + 1 + 1; omega) v⟩
              have hte : tot zp q = am := by
                have h1 := HLE.out
                omega
              have HTE := Lib.hid hte
              clear hzp hzn hzt hk6 hs6 hs7 e6 hbx hte
              go_wp2_with fail
              all_goals (try (exfalso; omega))
              obtain ⟨hf1, hf2⟩ := HFIN.out (.int .i64 0)
              have hcl := World.cell?_setCell_same _ _ (.int .i64 0) b1
              obtain ⟨WF, hWF⟩ : ∃ WF, wr.setCell ⟨w.heap.size + 1 + 1, 0, none⟩ (.int .i64 0) = WF := ⟨_, rfl⟩
              rw [hWF] at hf1 hf2 hcl ⊢
              clear hWF
              refine leaves_cons (f := 60) (args := #[.pointer (some ⟨w.heap.size + 1 + 1, 0, none⟩)]) (by simp) (by simp [go_sem]) ?_
              refine (split1_idle ⟨w.heap.size + 1 + 1, 0, none⟩ _).mono ?_
              rintro e u' w'' ⟨⟨v9, rfl⟩, rfl, rfl⟩
              have hex : ∃ g z, Ending.returned (.tuple #[.slice (some ⟨w.heap.size + 1 + 1 + 1 + 1, 0, none⟩) q q, .int .i64 0]) = Ending.returned (.tuple #[.slice (some ⟨g, 0, none⟩) q q, .int .i64 0]) ∧ OwnR w'' g q q z ∧ (∀ i, i < q → 0 ≤ z i) ∧ tot z q = am ∧ Below w.heap.size w w'' := ⟨_, _, rfl, hf1, HZN.out, HTE.out, hf2⟩
              refine ⟨_, ?_, hex⟩
              simp [settle, results, Try.results23, go_sem, hcl]
end Go.Proofs.Ytkhmlbkkdflnoaa.Sp
