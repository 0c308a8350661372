/-
  THE ITERATOR of package fuse: the heats after ticks with some currents.
-/
import Derived.Test.YthjclpfddfjfhaaWalks
import Derived.Test.YthjclpfddfjfhaaRange
import Derived.OwnWalkIn
import Derived.TacticsInMore
import Derived.LoopNIn
import Derived.LoopIn
import Derived.Shelf.Abstract
import Derived.Shelf.RegionOpen
namespace Go.Proofs.Ythjclpfddfjfhaa
open Go.RowKit Go.Shelf
attribute [local go_sem] Oper.semAt_some
set_option linter.unusedVariables false

/-- the heat after k ticks with the currents z -/
def ht (r : Int) (z : Nat → Int) : Nat → Int
  | 0 => 0
  | k + 1 => nH r (ht r z k) (z k)
theorem nH_bd {r n a : Int} (hr : 0 ≤ r ∧ r ≤ 1000) (ha : 0 ≤ a ∧ a ≤ 1000) (hn : 0 ≤ n) : 0 ≤ nH r n a ∧ nH r n a ≤ n + 1000000 := by
  have h1 := sq_bd ha
  have h2 := sq_bd hr
  unfold nH
  split <;> omega
theorem ht_bd {r : Int} {z : Nat → Int} {len : Nat} (hr : 0 ≤ r ∧ r ≤ 1000) (hz : ∀ i, i < len → 0 ≤ z i ∧ z i ≤ 1000) : ∀ k, k ≤ len → 0 ≤ ht r z k ∧ ht r z k ≤ 1000000 * k := by
  intro k
  induction k with
  | zero => intro _; simp [ht]
  | succ k ih =>
    intro hk
    have h1 := ih (by omega)
    have h2 := nH_bd hr (hz k (by omega)) h1.1
    simp only [ht]
    omega

/-- what the iterator reads: its two boxes and the currents, none of them the warm fuse bw -/
def Rd (n₀ Ba Bw bw : Nat) (A : Option Addr) (len cap : Nat) (z : Nat → Int) (W : World) : Prop :=
  W.cell? ⟨Ba, 0, none⟩ = some (.slice A len cap) ∧ W.cell? ⟨Bw, 0, none⟩ = some (.pointer (some ⟨bw, 0, none⟩)) ∧ ∀ i, i < len → ∃ b o, A = some ⟨b, o, none⟩ ∧ b < n₀ ∧ b ≠ bw ∧ W.cell? ⟨b, o + i, none⟩ = some (.int .i64 (z i))
theorem Rd.keep {n₀ Ba Bw bw : Nat} {A : Option Addr} {len cap : Nat} {z : Nat → Int} {W W' : World} (h : Rd n₀ Ba Bw bw A len cap z W) (hk : Below n₀ W W') (h1 : Ba < n₀) (h2 : Bw < n₀) : Rd n₀ Ba Bw bw A len cap z W' :=
  ⟨(hk.cell (p := ⟨Ba, 0, none⟩) h1).trans h.1, (hk.cell (p := ⟨Bw, 0, none⟩) h2).trans h.2.1, fun i hi => by
    obtain ⟨b, o, e, hb, hn, hc⟩ := h.2.2 i hi
    exact ⟨b, o, e, hb, hn, (hk.cell (p := ⟨b, o + i, none⟩) hb).trans hc⟩⟩
theorem grown_cell {W W' : World} {bw : Nat} (hg : W.grownBy W' (some bw)) {p : Addr} {v : Value} (hc : W.cell? p = some v) (hne : p.block ≠ bw) : W'.cell? p = some v :=
  (World.cell?_of_block (hg.block p.block (World.block_lt_of_cell? W p hc) (fun e => hne (by injection e)))).trans hc
theorem Rd.grown {n₀ Ba Bw bw : Nat} {A : Option Addr} {len cap : Nat} {z : Nat → Int} {W W' : World} (h : Rd n₀ Ba Bw bw A len cap z W) (hg : W.grownBy W' (some bw)) (h1 : Ba ≠ bw) (h2 : Bw ≠ bw) : Rd n₀ Ba Bw bw A len cap z W' :=
  ⟨grown_cell hg h.1 h1, grown_cell hg h.2.1 h2, fun i hi => by
    obtain ⟨b, o, e, hb, hn, hc⟩ := h.2.2 i hi
    exact ⟨b, o, e, hb, hn, grown_cell hg hc hn⟩⟩

theorem WB.keepB {w w' : World} {b B : Nat} {r h n : Int} (x : WB w b r h n) (hb : Below B w w') (hB : b < B) : WB w' b r h n := (hb.block b hB).trans x
/-- the iterator's own step -/
def St (bw : Nat) (r h : Int) (z : Nat → Int) (pre : List (Int × Int)) (x : Int × Int) (W0 W1 : World) : Prop :=
  x = ((pre.length : Int), ht r z (pre.length + 1)) ∧ WB W1 bw r h (ht r z (pre.length + 1)) ∧ W0.grownBy W1 (some bw) ∧ WB W0 bw r h (ht r z pre.length)

set_option maxRecDepth 100000 in
set_option maxHeartbeats 2000000 in
theorem heats1 (n : Nat) (hn : 1 ≤ n) (l n₀ Ba Bw bw : Nat) (A : Option Addr) (len cap : Nat) (r h : Int) (z : Nat → Int) (J Jx : List (Int × Int) → World → Prop) (Jy : List (Int × Int) → Int × Int → World → Prop)
    (hlen : len ≤ 10000) (hr : 0 ≤ r ∧ r ≤ 1000) (hz : ∀ i, i < len → 0 ≤ z i ∧ z i ≤ 1000) (hBa : Ba < n₀) (hBw : Bw < n₀) (hbw : bw < n₀) (hBa' : Ba ≠ bw) (hBw' : Bw ≠ bw)
    (hT : ∀ pre x W0 W1, J pre W0 → St bw r h z pre x W0 W1 → Jy pre x W1)
    (hY : ∀ pre x W1, Jy pre x W1 → pre.length < len → YieldAt Fence.wide (n - 1) Try.prog l #[.int .i64 x.1, .int .i64 x.2] W1 fun e W' =>
      (e = .returned (.bool true) ∧ J (pre ++ [x]) W' ∧ Below n₀ W1 W') ∨ (e = .returned (.bool false) ∧ Jx (pre ++ [x]) W'))
    (W : World) (hR : Rd n₀ Ba Bw bw A len cap z W) (hW : WB W bw r h 0) (h0 : J [] W) :
    CallsIn Fence.wide n Try.prog 31 #[.func (.yield l) #[] #[], .pointer (some ⟨Ba, 0, none⟩), .pointer (some ⟨Bw, 0, none⟩)] W fun e W' => (∃ v, e = .returned v) ∧
      ((∃ xs, xs.length = len ∧ J xs W') ∨ (∃ pre, pre.length ≤ len ∧ Jx pre W')) := by
  have HR := Lib.hid hR
  have HT := Lib.hid hT
  have HY := Lib.hid hY
  have HZ := Lib.hid hz
  clear hT hY hz
  obtain ⟨ca, cw, _⟩ := hR
  refine callsIn_of_wp Try.func31 rfl trivial ?_ rfl
  simp only [Try.ntmps31, List.size_toArray, List.length_cons, List.length_nil, Nat.reduceAdd, Nat.reduceSub, Array.replicate_succ, Array.replicate_zero, List.push_toArray, List.append_toArray, List.nil_append, List.cons_append]
  gi_wp2
  gi_loopw [8] (fun i wr => ∃ (k : Nat) (pre : List (Int × Int)), k ≤ len ∧ i = .int .i64 k ∧ pre.length = k ∧ J pre wr ∧ WB wr bw r h (ht r z k) ∧ Rd n₀ Ba Bw bw A len cap z wr) (fun i _ => len - (intOf i).toNat)
  case atStart => exact ⟨0, [], Nat.zero_le _, rfl, rfl, h0, hW, HR.out⟩
  case round =>
    obtain ⟨k, pre, hk, rfl, hpre, hJ, hw, hrd⟩ := hrel
    by_cases hlt : k < len
    · obtain ⟨b, o, rfl, hb, hnb, hc⟩ := hrd.2.2 k hlt
      have ca := hrd.1
      have cw := hrd.2.1
      have hzk := HZ.out k hlt
      have hb1 := ht_bd hr HZ.out k hk
      gi_wp2_with (refine ⟨trivial, ?_⟩; gi_at_call 23; refine (callsIn_wide.2 (tick_any r h (ht r z k) (z k) bw _ hw hzk hr (by omega))).mono ?_; rintro e w1 ⟨rfl, x1, g1⟩; have rd1 := hrd.grown g1 hBa' hBw'; have cw1 := rd1.2.1; have x2 : WB w1 bw r h (ht r z (k + 1)) := x1; obtain ⟨d0, d1, d2, _⟩ := x2.get; clear ca cw hc; obtain ⟨fn, tmps, assign, body, hy, hRd⟩ := HY.out pre ((k : Int), ht r z (k + 1)) w1 (HT.out pre _ wr w1 hJ ⟨by rw [hpre], by rw [hpre]; exact x2, g1, by rw [hpre]; exact hw⟩) (by omega); dsimp only at hy)
      refine hRd.mono ?_
      rintro e W3 (⟨rfl, hJ3, hk3⟩ | ⟨rfl, hJx3⟩)
      · gi_wp2
        go_roundw
        case rel => exact ⟨k + 1, pre ++ [((k : Int), ht r z (k + 1))], by omega, by go_num, by simp [hpre], hJ3, x2.keepB hk3 hbw, rd1.keep hk3 hBa hBw⟩
        case measure => simp [intOf]; omega
      · gi_wp2
        refine bodyPost_ret (results_none rfl _ _ _) rfl ?_
        exact ⟨⟨_, rfl⟩, .inr ⟨pre ++ [((k : Int), ht r z (k + 1))], by simp [hpre]; omega, hJx3⟩⟩
    · gi_wp2
      go_end0
      exact ⟨⟨_, rfl⟩, .inl ⟨pre, by omega, hJ⟩⟩

theorem heats_seq (n : Nat) (hn : 1 ≤ n) (n₀ Ba Bw bw : Nat) (A : Option Addr) (len cap : Nat) (r h : Int) (z : Nat → Int) (hlen : len ≤ 10000) (hr : 0 ≤ r ∧ r ≤ 1000) (hz : ∀ i, i < len → 0 ≤ z i ∧ z i ≤ 1000)
    (hBa : Ba < n₀) (hBw : Bw < n₀) (hbw : bw < n₀) (hBa' : Ba ≠ bw) (hBw' : Bw ≠ bw) (w : World) (hn₀ : n₀ ≤ w.heap.size) (hR : Rd n₀ Ba Bw bw A len cap z w) (hW : WB w bw r h 0) :
    SeqT Fence.wide n Try.prog 31 #[.pointer (some ⟨Ba, 0, none⟩), .pointer (some ⟨Bw, 0, none⟩)] (fun x : Int × Int => #[Value.int .i64 x.1, .int .i64 x.2]) (Below n₀) (St bw r h z)
      (fun xs => xs.length = len) (fun pre => pre.length ≤ len) len w := fun l J Jx Jy W hB hT hY h0 =>
  heats1 n hn l n₀ Ba Bw bw A len cap r h z J Jx Jy hlen hr hz hBa hBw hbw hBa' hBw' hT hY W (hR.keep (hB.mono hn₀) hBa hBw) (hW.keepB (hB.mono hn₀) hbw) h0
end Go.Proofs.Ythjclpfddfjfhaa
