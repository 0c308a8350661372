/-
  THE WALKS OF THE LAWS over package meter, fourth part: MeterParts.
-/
import Derived.Test.YtgbmbpllfjpdmaaLawsc
import Derived.Deep.RegionHeld3
import Derived.Deep.DeepCutAuto
import Derived.Deep.DrawnRows
namespace Go.Proofs.Ytgbmbpllfjpdmaa
open Go.RowKit
set_option linter.unusedVariables false

theorem tsum_split (f g : Nat → Int) (k m : Nat) : tsum f g (k + m) = tsum f g k + tsum (fun i => f (k + i)) (fun i => g (k + i)) m := by
  induction m with
  | zero => simp [tsum]
  | succ m ih =>
    rw [← Nat.add_assoc]
    simp only [tsum, ih, tick]
    omega
theorem cells_of {w : World} {b : Nat} {s r : Int} {k : Bool} (h : MB w b s r k) : w.cell? ⟨b, 0, none⟩ = some (.int .i64 s) ∧ w.cell? ⟨b, 1, none⟩ = some (.int .i64 r) ∧ w.cell? ⟨b, 2, none⟩ = some (.bool k) := by
  obtain ⟨a, c, d, _, _, _⟩ := blk3 h
  exact ⟨a, c, d⟩
theorem TK.take {w : World} {A : Option Addr} {n k : Nat} {f g : Nat → Int} (h : TK w A n f g) (hk : k ≤ n) : TK w A k f g := fun i hi => h i (by omega)
theorem TK.drop {w : World} {b o n k : Nat} {f g : Nat → Int} (h : TK w (some ⟨b, o, none⟩) n f g) (hk : k ≤ n) : TK w (some ⟨b, o + k * 2, none⟩) (n - k) (fun i => f (k + i)) (fun i => g (k + i)) := by
  intro i hi
  obtain ⟨b', o', e, h1, h2, h3, h4, h5⟩ := h (k + i) (by omega)
  simp at e
  obtain ⟨rfl, rfl⟩ := e
  have e1 : o + k * 2 + i * 2 = o + (k + i) * 2 := by omega
  refine ⟨b, o + k * 2, rfl, h1, ?_, ?_, h4, h5⟩
  · rw [e1]; exact h2
  · rw [e1]; exact h3

set_option maxHeartbeats 2000000 in
set_option maxRecDepth 100000 in
theorem parts_no (s r : Int) (k : Bool) (A : Option Addr) (n c : Nat) (f g : Nat → Int) (u : Int) (w : World) (hT : TK w A n f g) (hnc : n ≤ c) (hc : c ≤ 9223372036854775807) (u0 : 0 ≤ u) (u1 : u ≤ 65535) (hu : useB s r n = false) :
    Calls Try.prog 6 #[.agg #[.int .i64 s, .int .i64 r, .bool k], .slice A n c, .int .u16 u] w fun e w' => e = .returned (.bool true) ∧ Below w.heap.size w w' := by
  go_enter Try.func6, Try.ntmps6
  go_wp2_with fail
  refine (head_any _).mono ?_
  rintro e w1 ⟨rfl, hb⟩
  have ma := (MB.new w s r k).keep hb
  have h := bel_step (bel_alloc (Below.refl w.heap.size w) _) hb
  clear hb
  obtain ⟨a0, a1, a2, a3, a4⟩ := ma.get
  obtain ⟨ga0, ga1, ga2⟩ := ma.frz
  go_wp2_with fail
  refine (usable_any s r false A n c _ (by omega)).mono ?_
  rintro e w2 ⟨rfl, hb⟩
  have ma := (ma.set2).keep hb
  have h := bel_step (h.setCell (Nat.le_refl _) _) hb
  clear hb
  clear a0 a1 a2 a3 a4 ga0 ga1 ga2
  rw [hu]
  go_wp2
  go_ret
  exact ⟨rfl, h⟩
set_option maxHeartbeats 2000000 in
set_option maxRecDepth 100000 in
theorem parts_empty (s r : Int) (k : Bool) (A : Option Addr) (n c : Nat) (f g : Nat → Int) (u : Int) (w : World) (hT : TK w A n f g) (hnc : n ≤ c) (hc : c ≤ 9223372036854775807) (u0 : 0 ≤ u) (u1 : u ≤ 65535) (hu : useB s r n = true) (hz : n = 0) :
    Calls Try.prog 6 #[.agg #[.int .i64 s, .int .i64 r, .bool k], .slice A n c, .int .u16 u] w fun e w' => e = .returned (.bool true) ∧ Below w.heap.size w w' := by
  subst hz
  go_enter Try.func6, Try.ntmps6
  go_wp2_with fail
  refine (head_any _).mono ?_
  rintro e w1 ⟨rfl, hb⟩
  have ma := (MB.new w s r k).keep hb
  have h := bel_step (bel_alloc (Below.refl w.heap.size w) _) hb
  clear hb
  obtain ⟨a0, a1, a2, a3, a4⟩ := ma.get
  obtain ⟨ga0, ga1, ga2⟩ := ma.frz
  go_wp2_with fail
  refine (usable_any s r false A 0 c _ (by omega)).mono ?_
  rintro e w2 ⟨rfl, hb⟩
  have ma := (ma.set2).keep hb
  have h := bel_step (h.setCell (Nat.le_refl _) _) hb
  clear hb
  clear a0 a1 a2 a3 a4 ga0 ga1 ga2
  rw [hu]
  go_wp2
  go_ret
  exact ⟨rfl, h⟩
set_option maxHeartbeats 2000000 in
set_option maxRecDepth 100000 in
theorem parts_yes (s r : Int) (k : Bool) (b o : Nat) (n c j : Nat) (f g : Nat → Int) (u : Int) (w : World) (hT : TK w (some ⟨b, o, none⟩) n f g) (hnc : n ≤ c) (hc : c ≤ 9223372036854775807) (u0 : 0 ≤ u) (u1 : u ≤ 65535) (hu : useB s r n = true) (hz : 0 < n) (hj : u % (n : Int) = (j : Int)) (hjn : j < n) :
    Calls Try.prog 6 #[.agg #[.int .i64 s, .int .i64 r, .bool k], .slice (some ⟨b, o, none⟩) n c, .int .u16 u] w fun e w' => e = .returned (.bool true) ∧ Below w.heap.size w w' := by
  have ub := useB_iff.1 hu
  have tb := tsum_bd f g n
  have tj := tsum_bd f g j
  have ts := tsum_split f g j (n - j)
  rw [show j + (n - j) = n by omega] at ts
  have td := tsum_bd (fun i => f (j + i)) (fun i => g (j + i)) (n - j)
  have z1 : ((n : Int) == 0) = false := by simp; omega
  have z2 : ¬ (n : Int) = 0 := by omega
  have HJ := Lib.hid hj
  clear hj
  obtain ⟨S1, hS1⟩ : ∃ S, S = tsum f g j := ⟨_, rfl⟩
  obtain ⟨S2, hS2⟩ : ∃ S, S = tsum (fun i => f (j + i)) (fun i => g (j + i)) (n - j) := ⟨_, rfl⟩
  have HR1 : Hid (reg r false f g j = r + 2300 * S1) := by show _ = _; simp [reg, hS1]
  have HR2 : Hid (reg (r + 2300 * S1) false (fun i => f (j + i)) (fun i => g (j + i)) (n - j) = r + 2300 * S1 + 2300 * S2) := by show _ = _; simp [reg, hS2]
  have HS1 := Lib.hid hS1
  have HS2 := Lib.hid hS2
  rw [← hS1, ← hS2] at ts
  rw [← hS1] at tj
  rw [← hS2] at td
  have ht : tsum f g n = S1 + S2 := ts
  rw [ht] at tb
  clear hS1 hS2 ts ht
  have v0 : vM s r = true := vM_iff.2 ⟨ub.1, by omega⟩
  have v1 : vM s (r + 2300 * S1) = true := vM_iff.2 ⟨ub.1, by omega⟩
  have v2 : vM s (r + 2300 * S1 + 2300 * S2) = true := vM_iff.2 ⟨ub.1, by omega⟩
  go_enter Try.func6, Try.ntmps6
  go_wp2_with fail
  refine (head_any _).mono ?_
  rintro e w1 ⟨rfl, hb⟩
  have ma := (MB.new w s r k).keep hb
  have h := bel_step (bel_alloc (Below.refl w.heap.size w) _) hb
  clear hb
  obtain ⟨a0, a1, a2, a3, a4⟩ := ma.get
  obtain ⟨ga0, ga1, ga2⟩ := ma.frz
  go_wp2_with fail
  refine (usable_any s r false (some ⟨b, o, none⟩) n c _ (by omega)).mono ?_
  rintro e w2 ⟨rfl, hb⟩
  have ma := (ma.set2).keep hb
  have h := bel_step (h.setCell (Nat.le_refl _) _) hb
  clear hb
  clear a0 a1 a2 a3 a4 ga0 ga1 ga2
  rw [hu]
  obtain ⟨a0, a1, a2, a3, a4⟩ := ma.get
  go_upto_region 6 with (fail)
  rw [HJ.out]
  have i1 : (0 : Int) ≤ (j : Int) := by omega
  have i2 : (j : Int) ≤ (c : Int) := by omega
  have i3 : (j : Int) ≤ (n : Int) := by omega
  have ne := World.new_ne w2 _ a0
  go_cut [9, 10, 11] (fun p t ok wx => ∃ B : Nat, p = .pointer (some ⟨B, 0, none⟩) ∧ t = .int .i64 S1 ∧ ok = .bool true ∧ MB wx B s (r + 2300 * S1) false ∧ MB wx w.heap.size s r false ∧ Below w.heap.size w wx)
  case first =>
    go_region_held3 (fun w' => w'.cell? ⟨w.heap.size, 0, none⟩ = some (.int .i64 s) ∧ w'.cell? ⟨w.heap.size, 1, none⟩ = some (.int .i64 r) ∧ w'.cell? ⟨w.heap.size, 2, none⟩ = some (.bool false)) (exact cells_of (by repeat (first | exact ma | apply MB.alloc | apply MB.drew | refine MB.far ?_ (by simp; omega) _)))
      (first
        | (go_at_call 17; refine (ticks_ok s r false _ j c f g _ (TK.keep (hT.take (by omega)) (by repeat (first | exact h | apply bel_alloc | apply Below.drew))) (by omega) ub.1 (by omega)).mono ?_; rintro e w3 ⟨rfl, hb⟩; have h := bel_step (by repeat (first | exact h | apply bel_alloc | apply Below.drew)) hb; have ma := MB.keep (by repeat (first | exact ma | apply MB.alloc | apply MB.drew)) hb; rw [HR1.out, ← HS1.out]; (try (have mz : MB w3 w2.heap.size 0 0 false := MB.keep (MB.drew (MB.new w2 0 0 false)) hb; obtain ⟨z0, z1, z2, z3, z4⟩ := mz.get; obtain ⟨y0, y1, y2⟩ := mz.frz)); clear hb))
    all_goals (go_wp2_with fail; go_meet)
    · exact ⟨w3.heap.size, rfl, rfl, rfl, MB.new _ _ _ _, ma.alloc _, bel_alloc h _⟩
    · exact ⟨w2.heap.size, rfl, rfl, rfl, mz.set, ((ma.far (by simp; omega) _).far (by simp; omega) _).far (by simp; omega) _, ((h.setCell (by simp; omega) _).setCell (by simp; omega) _).setCell (by simp; omega) _⟩
  case rest =>
    obtain ⟨B, rfl, rfl, rfl, mx, ma, h⟩ := hcut
    clear a0 a1 a2 a3 a4 ne
    obtain ⟨x0, x1, x2, x3, x4⟩ := mx.get
    have hwc := ma.lt
    have hcj : ¬ c = j := by omega
    go_upto_region 7 with (fail)
    have ne := World.new_ne wc _ x0
    go_cut [12, 13, 14] (fun p t ok wx => ∃ C : Nat, p = .pointer (some ⟨C, 0, none⟩) ∧ t = .int .i64 S2 ∧ ok = .bool true ∧ MB wx C s (r + 2300 * S1 + 2300 * S2) false ∧ MB wx B s (r + 2300 * S1) false ∧ MB wx w.heap.size s r false ∧ Below w.heap.size w wx)
    case first =>
      go_region_held3 (fun w' => w'.cell? ⟨B, 0, none⟩ = some (.int .i64 s) ∧ w'.cell? ⟨B, 1, none⟩ = some (.int .i64 (r + 2300 * S1)) ∧ w'.cell? ⟨B, 2, none⟩ = some (.bool false)) (exact cells_of (by repeat (first | exact mx | apply MB.alloc | apply MB.drew | refine MB.far ?_ (by simp; omega) _)))
        (first
          | (go_at_call 17; refine (ticks_ok s (r + 2300 * S1) false _ (n - j) _ (fun i => f (j + i)) (fun i => g (j + i)) _ (TK.keep (hT.drop (by omega)) (by repeat (first | exact h | apply bel_alloc | apply Below.drew))) (by omega) ub.1 (by omega)).mono ?_; rintro e w3 ⟨rfl, hb⟩; have h := bel_step (by repeat (first | exact h | apply bel_alloc | apply Below.drew)) hb; have ma := MB.keep (by repeat (first | exact ma | apply MB.alloc | apply MB.drew)) hb; have mx := MB.keep (by repeat (first | exact mx | apply MB.alloc | apply MB.drew)) hb; rw [HR2.out, ← HS2.out]; (try (have mz : MB w3 wc.heap.size 0 0 false := MB.keep (MB.drew (MB.new wc 0 0 false)) hb; obtain ⟨z0, z1, z2, z3, z4⟩ := mz.get; obtain ⟨y0, y1, y2⟩ := mz.frz)); clear hb))
      all_goals (go_wp2_with fail; go_meet)
      · exact ⟨w3.heap.size, rfl, rfl, rfl, MB.new _ _ _ _, mx.alloc _, ma.alloc _, bel_alloc h _⟩
      · exact ⟨wc.heap.size, rfl, rfl, rfl, mz.set, ((mx.far (by simp; omega) _).far (by simp; omega) _).far (by simp; omega) _, ((ma.far (by simp; omega) _).far (by simp; omega) _).far (by simp; omega) _, ((h.setCell (by simp; omega) _).setCell (by simp; omega) _).setCell (by simp; omega) _⟩
    case rest =>
      clear x0 x1 x2 x3 x4 ne hwc
      obtain ⟨C, rfl, rfl, rfl, my, mx, ma, h⟩ := hcut
      obtain ⟨a0, a1, a2, a3, a4⟩ := ma.get
      obtain ⟨x0, x1, x2, x3, x4⟩ := mx.get
      go_wp2_with fail
      refine (energy_y s r s (r + 2300 * S1) false false _ v0 v1 rfl (by omega)).mono ?_
      rintro e w4 ⟨rfl, hb⟩
      have ma := (ma).keep hb
      have mx := (mx).keep hb
      have my := (my).keep hb
      have h := bel_step h hb
      clear hb
      clear a0 a1 a2 a3 a4 x0 x1 x2 x3 x4
      obtain ⟨x0, x1, x2, x3, x4⟩ := mx.get
      obtain ⟨y0, y1, y2, y3, y4⟩ := my.get
      go_wp2_with fail
      refine (energy_y s (r + 2300 * S1) s (r + 2300 * S1 + 2300 * S2) false false _ v1 v2 rfl (by omega)).mono ?_
      rintro e w5 ⟨rfl, hb⟩
      have ma := (ma).keep hb
      have my := (my).keep hb
      have h := bel_step h hb
      clear hb
      clear x0 x1 x2 x3 x4 y0 y1 y2 y3 y4
      obtain ⟨a0, a1, a2, a3, a4⟩ := ma.get
      obtain ⟨y0, y1, y2, y3, y4⟩ := my.get
      go_wp2_with fail
      refine (energy_y s r s (r + 2300 * S1 + 2300 * S2) false false _ v0 v2 rfl (by omega)).mono ?_
      rintro e w6 ⟨rfl, hb⟩
      have h := bel_step h hb
      clear hb
      clear a0 a1 a2 a3 a4 y0 y1 y2 y3 y4
      have p1 : (r + 2300 * S1 - r) / 3600 + (r + 2300 * S1 + 2300 * S2 - (r + 2300 * S1)) / 3600 ≤ (r + 2300 * S1 + 2300 * S2 - r) / 3600 := by omega
      have p2 : (r + 2300 * S1 + 2300 * S2 - r) / 3600 ≤ (r + 2300 * S1 - r) / 3600 + (r + 2300 * S1 + 2300 * S2 - (r + 2300 * S1)) / 3600 + 1 := by omega
      have p3 : 0 ≤ (r + 2300 * S1 - r) / 3600 ∧ (r + 2300 * S1 - r) / 3600 ≤ 1000000 := by omega
      have p4 : 0 ≤ (r + 2300 * S1 + 2300 * S2 - (r + 2300 * S1)) / 3600 ∧ (r + 2300 * S1 + 2300 * S2 - (r + 2300 * S1)) / 3600 ≤ 1000000 := by omega
      have p5 : 0 ≤ (r + 2300 * S1 + 2300 * S2 - r) / 3600 ∧ (r + 2300 * S1 + 2300 * S2 - r) / 3600 ≤ 1000000 := by omega
      generalize (r + 2300 * S1 - r) / 3600 = q1 at *
      generalize (r + 2300 * S1 + 2300 * S2 - (r + 2300 * S1)) / 3600 = q2 at *
      generalize (r + 2300 * S1 + 2300 * S2 - r) / 3600 = q3 at *
      go_wp2
      go_ret
      exact ⟨rfl, h⟩
theorem walk_parts (s r : Int) (k : Bool) (A : Option Addr) (n c : Nat) (f g : Nat → Int) (u : Int) (w : World) (hT : TK w A n f g) (hnc : n ≤ c) (hc : c ≤ 9223372036854775807) (u0 : 0 ≤ u) (u1 : u ≤ 65535) :
    Calls Try.prog 6 #[.agg #[.int .i64 s, .int .i64 r, .bool k], .slice A n c, .int .u16 u] w fun e w' => e = .returned (.bool true) ∧ Below w.heap.size w w' := by
  cases hu : useB s r n
  · exact parts_no s r k A n c f g u w hT hnc hc u0 u1 hu
  · rcases Nat.eq_zero_or_pos n with hz | hz
    · exact parts_empty s r k A n c f g u w hT hnc hc u0 u1 hu hz
    · obtain ⟨b, o, rfl, _⟩ := hT 0 hz
      have h1 : 0 ≤ u % (n : Int) := Int.emod_nonneg _ (by omega)
      have h2 : u % (n : Int) < n := Int.emod_lt_of_pos _ (by omega)
      exact parts_yes s r k b o n c (u % (n : Int)).toNat f g u w hT hnc hc u0 u1 hu hz (by omega) (by omega)
end Go.Proofs.Ytgbmbpllfjpdmaa
