/-
  THE WALKS OF THE LAWS over package meter, fifth part: MeterSums.
-/
import Derived.Test.YtgbmbpllfjpdmaaSumsPlain
import Derived.Deep.RegionHeld3
import Derived.Deep.DeepCutAuto
namespace Go.Proofs.Ytgbmbpllfjpdmaa
open Go.RowKit
set_option linter.unusedVariables false

theorem tickInfo : (Try.prog.info? 46).map (fun i => (i.zero, i.size, i.bytes)) = some (some (.agg #[.int .u8 0, .int .u8 0]), 2, 2) := by kernel_rfl
theorem heap_second (w : World) (X Y : Obj) : ((w.alloc X).alloc Y).heap[w.heap.size + 1]? = some Y := by
  have q := heap_alloc_new (w.alloc X) Y
  simpa using q
theorem own_empty {w : World} {b base : Nat} (h : w.heap[b]? = some (.cells #[] 46)) (hb : base ≤ b) : w.ownsRow base 46 2 (.slice (some ⟨b, 0, none⟩) 0 0) 0 [] :=
  ⟨rfl, .inr ⟨b, 0, #[], rfl, hb, h, Nat.le_refl _, Nat.zero_le _, rfl, rfl⟩⟩

theorem grow_h {w W wA : World} {row : Option Nat} (h : Below w.heap.size w W) (hg : W.grownBy wA row) (hr : ∀ x, row = some x → w.heap.size ≤ x) : Below w.heap.size w wA := h.grown hg h.size hr
theorem row_ge {g n cap B : Nat} (h : B + 1 ≤ g) : ∀ x, (Value.slice (some ⟨g, 0, none⟩) n cap).ownBlock = some x → B ≤ x := by
  intro x e
  have : g = x := by simpa [Value.ownBlock] using e
  omega
theorem row_ne {g n cap B : Nat} (h : B ≠ g) : some B ≠ (Value.slice (some ⟨g, 0, none⟩) n cap).ownBlock := by
  simp [Value.ownBlock]; exact h

set_option maxHeartbeats 4000000 in
set_option maxRecDepth 100000 in
theorem sums_no (s r : Int) (k : Bool) (A : Option Addr) (n c : Nat) (f g : Nat → Int) (u : Int) (w : World) (hT : TK w A n f g) (hnc : n ≤ c) (hc : c ≤ 9223372036854775807) (u0 : 0 ≤ u) (u1 : u ≤ 65535) (hu : useB s r n = false) :
    Calls Try.prog 4 #[.agg #[.int .i64 s, .int .i64 r, .bool k], .slice A n c, .int .u16 u] w fun e w' => e = .returned (.bool true) ∧ Below w.heap.size w w' := by
  go_enter Try.func4, Try.ntmps4
  go_wp2_with fail
  refine (head_any _).mono ?_
  rintro e w1 ⟨rfl, hb⟩
  have ma := (MB.new w s r k).keep hb
  have h := bel_step (bel_alloc (Below.refl w.heap.size w) _) hb
  clear hb
  obtain ⟨a0, a1, a2, a3, a4⟩ := ma.get
  go_wp2_with fail
  refine (usable_any s r k A n c _ (by omega)).mono ?_
  rintro e w2 ⟨rfl, hb⟩
  have ma := (ma).keep hb
  have h := bel_step h hb
  clear hb
  clear a0 a1 a2 a3 a4
  rw [hu]
  go_wp2
  go_ret
  exact ⟨rfl, h⟩
set_option maxHeartbeats 4000000 in
set_option maxRecDepth 100000 in
theorem sums_empty (s r : Int) (k : Bool) (A : Option Addr) (n c : Nat) (f g : Nat → Int) (u : Int) (w : World) (hT : TK w A n f g) (hnc : n ≤ c) (hc : c ≤ 9223372036854775807) (u0 : 0 ≤ u) (u1 : u ≤ 65535) (hu : useB s r n = true) (hz : n = 0) :
    Calls Try.prog 4 #[.agg #[.int .i64 s, .int .i64 r, .bool k], .slice A n c, .int .u16 u] w fun e w' => e = .returned (.bool true) ∧ Below w.heap.size w w' := by
  subst hz
  go_enter Try.func4, Try.ntmps4
  go_wp2_with fail
  refine (head_any _).mono ?_
  rintro e w1 ⟨rfl, hb⟩
  have ma := (MB.new w s r k).keep hb
  have h := bel_step (bel_alloc (Below.refl w.heap.size w) _) hb
  clear hb
  obtain ⟨a0, a1, a2, a3, a4⟩ := ma.get
  go_wp2_with fail
  refine (usable_any s r k A 0 c _ (by omega)).mono ?_
  rintro e w2 ⟨rfl, hb⟩
  have ma := (ma).keep hb
  have h := bel_step h hb
  clear hb
  clear a0 a1 a2 a3 a4
  rw [hu]
  go_wp2
  go_ret
  exact ⟨rfl, h⟩
set_option maxHeartbeats 4000000 in
set_option maxRecDepth 100000 in
theorem sums_yes (s r : Int) (k : Bool) (b o : Nat) (n c j : Nat) (f g : Nat → Int) (u : Int) (w : World) (hT : TK w (some ⟨b, o, none⟩) n f g) (hnc : n ≤ c) (hc : c ≤ 9223372036854775807) (u0 : 0 ≤ u) (u1 : u ≤ 65535) (hu : useB s r n = true) (hz : 0 < n) (hj : u % (n : Int) = (j : Int)) (hjn : j < n) :
    Calls Try.prog 4 #[.agg #[.int .i64 s, .int .i64 r, .bool k], .slice (some ⟨b, o, none⟩) n c, .int .u16 u] w fun e w' => e = .returned (.bool true) ∧ Below w.heap.size w w' := by
  have ub := useB_iff.1 hu
  have tb := tsum_bd f g n
  have z1 : ((n : Int) == 0) = false := by simp; omega
  have z2 : ¬ (n : Int) = 0 := by omega
  have HJ := Lib.hid hj
  clear hj
  have hbd := hT.bds
  have HB := Lib.hid hbd
  clear hbd
  have HT := Lib.hid (tsum_turn f g (n := n) (k := j) (by omega))
  obtain ⟨S, hS⟩ : ∃ S, S = tsum f g n := ⟨_, rfl⟩
  obtain ⟨R, hR⟩ : ∃ R, R = reg r k f g n := ⟨_, rfl⟩
  have HR2 : Hid (reg r k (turn f n j) (turn g n j) n = R) := by show _ = _; rw [hR]; unfold reg; rw [HT.out]
  have HR := Lib.hid hR
  have HS := Lib.hid hS
  rw [← hS] at tb
  clear hR hS
  obtain ⟨i0, hi, hz0, hz1, hz2⟩ := info_parts tickInfo
  go_enter Try.func4, Try.ntmps4
  go_wp2_with fail
  refine (head_any _).mono ?_
  rintro e w1 ⟨rfl, hb⟩
  have ma := (MB.new w s r k).keep hb
  have h := bel_step (bel_alloc (Below.refl w.heap.size w) _) hb
  clear hb
  obtain ⟨a0, a1, a2, a3, a4⟩ := ma.get
  go_wp2_with fail
  refine (usable_any s r k (some ⟨b, o, none⟩) n c _ (by omega)).mono ?_
  rintro e w2 ⟨rfl, hb⟩
  have ma := (ma).keep hb
  have h := bel_step h hb
  clear hb
  clear a0 a1 a2 a3 a4
  rw [hu]
  obtain ⟨a0, a1, a2, a3, a4⟩ := ma.get
  go_wp2_with fail
  rw [HJ.out]
  refine (ticks_ok s r k _ n c f g _ (hT.keep h) ub.2.2 ub.1 (by omega)).mono ?_
  rintro e w3 ⟨rfl, hb⟩
  have ma := ma.keep hb
  have h := bel_step h hb
  clear hb a0 a1 a2 a3 a4
  rw [← HR.out, ← HS.out]
  go_upto_region 6 with (fail)
  have mx := MB.new w3 s R k
  have ma := ma.alloc (.cells #[.int .i64 s, .int .i64 R, .bool k] 23)
  have h := bel_alloc h (.cells #[.int .i64 s, .int .i64 R, .bool k] 23)
  generalize w3.heap.size = B3 at *
  generalize w3.alloc (.cells #[.int .i64 s, .int .i64 R, .bool k] 23) = w4 at *
  obtain ⟨a0, a1, a2, a3, a4⟩ := ma.get
  obtain ⟨x0, x1, x2, x3, x4⟩ := mx.get
  have i1 : (0 : Int) ≤ (j : Int) := by omega
  have i2 : (j : Int) ≤ (c : Int) := by omega
  have i3 : (j : Int) ≤ (n : Int) := by omega
  have hcj : ¬ c = j := by omega
  have ne := World.new_ne w4 _ a0
  go_cut [12, 13, 14] (fun p t ok wx => ∃ B : Nat, p = .pointer (some ⟨B, 0, none⟩) ∧ t = .int .i64 S ∧ ok = .bool true ∧ MB wx B s R k ∧ MB wx B3 s R k ∧ MB wx w.heap.size s r k ∧ Below w.heap.size w wx)
  case first =>
    go_region_held3 (fun w' => w'.cell? ⟨w.heap.size, 0, none⟩ = some (.int .i64 s) ∧ w'.cell? ⟨w.heap.size, 1, none⟩ = some (.int .i64 r) ∧ w'.cell? ⟨w.heap.size, 2, none⟩ = some (.bool k)) (exact cells_of (by repeat (first | exact ma | apply MB.alloc | apply MB.drew | refine MB.far ?_ (by simp; omega) _)))
      (first
        | (refine step_app _ (by rfl) (.tmp 41) (.tmp 44) 31 (by rfl) (w.heap.size + 1) 46 i0 _ 2 2 Try.underlying31 hi hz0 hz1 hz2 (by rfl) (by omega) _ 0 [] (by rfl) (own_empty (by first | exact heap_alloc_new w4 _ | exact (Below.heap_alloc _ _ _ (by simp)).trans (heap_alloc_new w4 _) | exact heap_second w4 _ _) (by first | omega | (simp; omega))) ⟨b, o + j * 2, none⟩ (n - j) (c - j) (cellsOf f g j (n - j)) (by rfl) (cellsOf_length _ _ _ _) (TK.cellsAt (hT.keep (by repeat (first | exact h | apply bel_alloc | apply Below.drew))) (by omega)) (cellsOf_one _ _ _ _) (n - j) (by omega) (by omega) (by unfold maxLen; omega) (by omega) (by first | omega | (simp; omega)) ?_; intro g1 cap1 wA hown1 hgrow1 hg1 hlt1; rw [List.nil_append] at hown1; have h := grow_h (by repeat (first | exact h | apply bel_alloc | apply Below.drew)) hgrow1 (row_ge (by first | omega | (simp; omega))); have ma := MB.grown (by repeat (first | exact ma | apply MB.alloc | apply MB.drew)) hgrow1 (row_ne (by first | omega | (simp; omega))); have mx := MB.grown (by repeat (first | exact mx | apply MB.alloc | apply MB.drew)) hgrow1 (row_ne (by first | omega | (simp; omega))); (try (first | (have mz : MB wA w4.heap.size 0 0 false := MB.grown (((MB.new w4 0 0 false).alloc _).drew) hgrow1 (row_ne (by first | omega | (simp; omega)))) | (have mz : MB wA (w4.heap.size + 1) 0 0 false := MB.grown ((MB.new2 w4 _ 0 0 false).drew) hgrow1 (row_ne (by first | omega | (simp; omega)))))); have lA := mx.lt; have lA' := ma.lt; clear hgrow1)
        | (refine step_app _ (by rfl) (.tmp 45) (.tmp 48) 31 (by rfl) (w.heap.size + 1) 46 i0 _ 2 2 Try.underlying31 hi hz0 hz1 hz2 (by rfl) (by omega) _ (n - j) _ (by rfl) (by first | exact hown1 | exact hown1.alloc _) ⟨b, o + 0 * 2, none⟩ j c (cellsOf f g 0 j) (by rfl) (cellsOf_length _ _ _ _) (TK.cellsAt (hT.keep (by repeat (first | exact h | apply bel_alloc | apply Below.drew))) (by omega)) (cellsOf_one _ _ _ _) n (by omega) (by omega) (by unfold maxLen; omega) (by omega) (by have q := h.size; first | omega | (simp; omega)) ?_; intro g2 cap2 wB hown2 hgrow2 hg2 hlt2; have h := grow_h (by repeat (first | exact h | apply bel_alloc | apply Below.drew)) hgrow2 (row_ge hg1); (try (first | (have mz := MB.grown mz hgrow2 (mz.ne_row hown1)) | (have mz : MB wB wA.heap.size 0 0 false := MB.grown (MB.new wA 0 0 false) hgrow2 (row_ne (by omega))))); have ma := MB.grown (by repeat (first | exact ma | apply MB.alloc | apply MB.drew)) hgrow2 (row_ne (by omega)); have mx := MB.grown (by repeat (first | exact mx | apply MB.alloc | apply MB.drew)) hgrow2 (by first | exact mx.ne_row hown1 | exact (mx.alloc _).ne_row (hown1.alloc _)); have lB := mx.lt; have lB' := ma.lt; clear hgrow2 hown1)
        | (go_at_call 17; refine (ticks_ok s r k _ n _ (turn f n j) (turn g n j) _ (by first | exact TK.of_row HB.out (by omega) 46 hown2 hlt2 | exact TK.of_row HB.out (by omega) 46 (hown2.alloc _) (by simp; omega)) ub.2.2 ub.1 (by omega)).mono ?_; rintro e w5 ⟨rfl, hb⟩; have h := bel_step (by repeat (first | exact h | apply bel_alloc | apply Below.drew)) hb; (try (first | (have mz := mz.keep hb) | (have mz : MB w5 wB.heap.size 0 0 false := MB.keep (MB.new wB 0 0 false) hb))); have ma := MB.keep (by repeat (first | exact ma | apply MB.alloc | apply MB.drew)) hb; have mx := MB.keep (by repeat (first | exact mx | apply MB.alloc | apply MB.drew)) hb; rw [HR2.out, HT.out, ← HS.out]; (try (obtain ⟨z0, z1, z2, z3, z4⟩ := mz.get; obtain ⟨y0, y1, y2⟩ := mz.frz)); clear hb))
    all_goals (go_wp2_with fail; go_meet)
    all_goals first
      | exact ⟨_, rfl, rfl, rfl, mz.set, ((mx.far (by simp; omega) _).far (by simp; omega) _).far (by simp; omega) _, ((ma.far (by simp; omega) _).far (by simp; omega) _).far (by simp; omega) _, ((h.setCell (by simp; omega) _).setCell (by simp; omega) _).setCell (by simp; omega) _⟩
      | exact ⟨_, rfl, rfl, rfl, MB.new _ _ _ _, mx.alloc _, ma.alloc _, bel_alloc h _⟩
  case rest =>
    obtain ⟨B, rfl, rfl, rfl, my, mx, ma, h⟩ := hcut
    clear a0 a1 a2 a3 a4 x0 x1 x2 x3 x4 ne
    obtain ⟨a0, a1, a2, a3, a4⟩ := ma.get
    obtain ⟨x0, x1, x2, x3, x4⟩ := mx.get
    obtain ⟨y0, y1, y2, y3, y4⟩ := my.get
    cases k
    · obtain rfl : R = r + 2300 * S := by rw [HR.out, HS.out]; simp [reg]
      go_wp2
      go_ret
      exact ⟨rfl, h⟩
    · obtain rfl : R = r - 2300 * S := by rw [HR.out, HS.out]; simp [reg]
      go_wp2
      go_ret
      exact ⟨rfl, h⟩
theorem walk_sums (s r : Int) (k : Bool) (A : Option Addr) (n c : Nat) (f g : Nat → Int) (u : Int) (w : World) (hT : TK w A n f g) (hnc : n ≤ c) (hc : c ≤ 9223372036854775807) (u0 : 0 ≤ u) (u1 : u ≤ 65535) :
    Calls Try.prog 4 #[.agg #[.int .i64 s, .int .i64 r, .bool k], .slice A n c, .int .u16 u] w fun e w' => e = .returned (.bool true) ∧ Below w.heap.size w w' := by
  cases hu : useB s r n
  · exact sums_no s r k A n c f g u w hT hnc hc u0 u1 hu
  · rcases Nat.eq_zero_or_pos n with hz | hz
    · exact sums_empty s r k A n c f g u w hT hnc hc u0 u1 hu hz
    · obtain ⟨b, o, rfl, _⟩ := hT 0 hz
      have h1 : 0 ≤ u % (n : Int) := Int.emod_nonneg _ (by omega)
      have h2 : u % (n : Int) < n := Int.emod_lt_of_pos _ (by omega)
      exact sums_yes s r k b o n c (u % (n : Int)).toNat f g u w hT hnc hc u0 u1 hu hz (by omega) (by omega)
end Go.Proofs.Ytgbmbpllfjpdmaa
