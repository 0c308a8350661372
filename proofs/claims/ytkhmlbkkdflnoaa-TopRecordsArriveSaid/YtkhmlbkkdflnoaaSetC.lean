/-
  CONTRACTS of settle, of the comparisons of its reference: out of the chapter's texts.
-/
import Derived.Test.YtkhmlbkkdflnoaaNet
import Derived.Test.YtkhmlbkkdflnoaaPay
namespace Go.Proofs.Ytkhmlbkkdflnoaa
open Go.RowKit
set_option linter.unusedVariables false
attribute [local go_sem ↓] Go.wp_at_zero Go.wp_at_succ

theorem net_ok (A : Option Addr) (n c : Nat) (X : Nat → Nat → Int) (m : Nat) (w : World) (hn : n ≤ 64) (hm : 1 ≤ m ∧ m ≤ 8) (hR : RR w A n X) (hw : ∀ i, i < n → (Lit.int .i64 (X i 0)).wf = true) (ha : allR m X n) (hd : ¬ dup X n) :
    Calls Try.prog 17 #[.slice A n c, .int .i64 (m : Int)] w fun e w' => ∃ g, e = .returned (.tuple #[.slice (some ⟨g, 0, none⟩) m m, .int .i64 0]) ∧ OwnR w' g m m (get X n) ∧ Below w.heap.size w w' := by
  refine (net_any A n c X m w hn hm hR hw).mono ?_
  rintro e w' ⟨⟨v, er, rfl, h⟩, hb⟩
  rcases h with ⟨_, _, h⟩ | ⟨_, _, _, h⟩ | ⟨rfl, _, _, g, rfl, h⟩
  · exact absurd ha h
  · exact absurd h hd
  · exact ⟨g, rfl, h, hb⟩
theorem pay_ok (A : Option Addr) (n c : Nat) (y : Nat → Int) (w : World) (T : Nat) (hR : RZ w A n y) (hB : balB y n = true) (hp : Paid n y T) (ha : am (Yt n y T) n ≤ 0) :
    Calls Try.prog 18 #[.slice A n c] w fun e w' => ∃ A' c', e = .returned (.tuple #[.slice A' T c', .int .i64 0]) ∧ RP w' A' T (pym n y) ∧ Below w.heap.size w w' := by
  refine (pay_any A n c y w hR hB).mono ?_
  rintro e w' ⟨⟨T', A', c', rfl, h1, h2, h3, _⟩, hb⟩
  obtain rfl := paid_one h1 h2 hp ha
  exact ⟨A', c', rfl, h3, hb⟩
theorem RZ.congr {w : World} {A : Option Addr} {n : Nat} {y z : Nat → Int} (h : RZ w A n y) (e : ∀ i, i < n → y i = z i) : RZ w A n z := fun i hi => by rw [← e i hi]; exact h i hi
theorem RZ_lit {w : World} {g : Nat} {cs : Array Value} {t : TypeId} {n : Nat} {z : Nat → Int} (hg : w.heap[g]? = some (.cells cs t (0, 0))) (h : ∀ i, i < n → cs[i]? = some (.int .i64 (z i))) : RZ w (some ⟨g, 0, none⟩) n z := fun i hi => by
  refine ⟨g, 0, rfl, (Array.getElem?_eq_some_iff.1 hg).1, ?_⟩
  rw [Nat.zero_add, cell_of_row w g i cs _ (0, 0) hg]
  exact h i hi
theorem RP_lit {w : World} {g : Nat} {cs : Array Value} {t : TypeId} {n : Nat} {X : Nat → Nat → Int} (hg : w.heap[g]? = some (.cells cs t (0, 0))) (h : ∀ i, i < n → cs[i * 3]? = some (.int .i64 (X i 0)) ∧ cs[i * 3 + 1]? = some (.int .i64 (X i 1)) ∧ cs[i * 3 + 2]? = some (.int .i64 (X i 2))) : RP w (some ⟨g, 0, none⟩) n X := fun i hi => by
  refine ⟨g, 0, rfl, (Array.getElem?_eq_some_iff.1 hg).1, ?_, ?_, ?_⟩ <;> rw [Nat.zero_add, cell_of_row w g _ cs _ (0, 0) hg]
  · exact (h i hi).1
  · exact (h i hi).2.1
  · exact (h i hi).2.2
theorem two {P : Nat → Prop} (h0 : P 0) (h1 : P 1) : ∀ i, i < 2 → P i := fun i hi => by
  have : i = 0 ∨ i = 1 := by omega
  rcases this with rfl | rfl <;> assumption
theorem three {P : Nat → Prop} (h0 : P 0) (h1 : P 1) (h2 : P 2) : ∀ i, i < 3 → P i := fun i hi => by
  have : i = 0 ∨ i = 1 ∨ i = 2 := by omega
  rcases this with rfl | rfl | rfl <;> assumption
theorem OwnR.below {W W' : World} {g l c : Nat} {f : Nat → Int} (h : OwnR W g l c f) (hb : Below W.heap.size W W') : OwnR W' g l c f := h.keep (hb.block _ h.lt)
theorem one1 {P : Nat → Prop} (h0 : P 0) : ∀ i, i < 1 → P i := fun i hi => by
  obtain rfl : i = 0 := by omega
  exact h0
theorem bel_a (w : World) (o : Obj) : Below w.heap.size w (w.alloc o) := bel_alloc (Below.refl _ _) o
theorem drewN_below (w : World) (k : Nat) : Below w.heap.size w (w.drewN k) := below_drewN (Below.refl _ _) k
set_option maxRecDepth 100000 in
set_option maxHeartbeats 2000000 in
theorem ints_yes (A B : Option Addr) (n c d : Nat) (z : Nat → Int) (w : World) (hn : n ≤ 100) (hA : RZ w A n z) (hB : RZ w B n z) :
    Calls Try.prog 22 #[.slice A n c, .slice B n d] w fun e w' => e = .returned (.bool true) ∧ Below w.heap.size w w' := by
  have HA := Lib.hid hA
  have HB := Lib.hid hB
  clear hA hB
  go_enter Try.func22, Try.ntmps22
  go_wp2_with fail
  go_loopw [5] (fun i wr => ∃ k d : Nat, k ≤ n ∧ i = .int .i64 k ∧ wr = w.drewN d) (fun i _ => n - (intOf i).toNat)
  case atStart => exact ⟨0, 0, Nat.zero_le _, rfl, rfl⟩
  case round =>
    obtain ⟨k, d0, hk, rfl, rfl⟩ := hrel
    by_cases hlt : k < n
    · obtain ⟨b, o, rfl, hb, hc⟩ := HA.out k hlt
      obtain ⟨b', o', rfl, hb', hc'⟩ := HB.out k hlt
      have i1 : (0 : Int) ≤ (k : Int) := by omega
      have i2 : (k : Int) < (n : Int) := by omega
      have c1 : (w.drewN d0).cell? ⟨b, o + k, none⟩ = some (.int .i64 (z k)) := hc
      have c2 : (w.drewN d0).cell? ⟨b', o' + k, none⟩ = some (.int .i64 (z k)) := hc'
      obtain ⟨wx, hwx⟩ : ∃ wx, w.drewN d0 = wx := ⟨_, rfl⟩
      rw [hwx] at c1 c2 ⊢
      have HW := Lib.hid hwx
      clear hwx hc hc'
      go_wp2_with fail
      go_quiet (fail)
      go_wp2_with fail
      go_roundw
      case rel => exact ⟨k + 1, _, by omega, by go_num, by rw [← HW.out, World.drewN_drewN]⟩
      case measure => simp [intOf] <;> omega
    · obtain rfl : k = n := by omega
      go_wp2_with fail
      go_ret
      exact ⟨rfl, drewN_below _ _⟩
theorem eqA (a b c : Int) (w : World) : (Op.equalIn 10000 54 (.agg #[.int .i64 a, .int .i64 b, .int .i64 c]) (.agg #[.int .i64 a, .int .i64 b, .int .i64 c])).run Try.prog w = .ok true w := by
  have u3 := Try.underlying3
  have a3 := Try.isAgg3
  have z3 := Try.sizeOf3
  rw [show (10000 : Nat) = 9999 + 1 from rfl, Op.equalIn]
  simp only [Sem.run_bind, run_underlying Try.underlying54, Result.andThen_ok]
  simp only [Std.Legacy.Range.forIn_eq_forIn_range', Std.Legacy.Range.size, Nat.sub_zero, Nat.add_sub_cancel, Nat.div_one, List.range'_succ, List.range'_zero, List.forIn_cons, List.forIn_nil]
  go_simp
attribute [local go_sem] eqA
set_option maxRecDepth 100000 in
set_option maxHeartbeats 2000000 in
theorem same_yes (A B : Option Addr) (n c d : Nat) (X : Nat → Nat → Int) (w : World) (hn : n ≤ 100) (hA : RP w A n X) (hB : RP w B n X) :
    Calls Try.prog 39 #[.slice A n c, .slice B n d] w fun e w' => e = .returned (.bool true) ∧ Below w.heap.size w w' := by
  have HA := Lib.hid hA
  have HB := Lib.hid hB
  clear hA hB
  go_enter Try.func39, Try.ntmps39
  go_wp2_with fail
  go_loopw [5] (fun i wr => ∃ k d : Nat, k ≤ n ∧ i = .int .i64 k ∧ wr = w.drewN d) (fun i _ => n - (intOf i).toNat)
  case atStart => exact ⟨0, 0, Nat.zero_le _, rfl, rfl⟩
  case round =>
    obtain ⟨k, d0, hk, rfl, rfl⟩ := hrel
    by_cases hlt : k < n
    · obtain ⟨b, o, rfl, hb, h0, h1, h2⟩ := HA.out k hlt
      obtain ⟨b', o', rfl, hb', h0', h1', h2'⟩ := HB.out k hlt
      have i1 : (0 : Int) ≤ (k : Int) := by omega
      have i2 : (k : Int) < (n : Int) := by omega
      have c0 : (w.drewN d0).cell? ⟨b, o + k * 3, none⟩ = some (.int .i64 (X k 0)) := h0
      have c1 : (w.drewN d0).cell? ⟨b, o + k * 3 + 1, none⟩ = some (.int .i64 (X k 1)) := h1
      have c2 : (w.drewN d0).cell? ⟨b, o + k * 3 + 2, none⟩ = some (.int .i64 (X k 2)) := h2
      have c0' : (w.drewN d0).cell? ⟨b', o' + k * 3, none⟩ = some (.int .i64 (X k 0)) := h0'
      have c1' : (w.drewN d0).cell? ⟨b', o' + k * 3 + 1, none⟩ = some (.int .i64 (X k 1)) := h1'
      have c2' : (w.drewN d0).cell? ⟨b', o' + k * 3 + 2, none⟩ = some (.int .i64 (X k 2)) := h2'
      obtain ⟨wx, hwx⟩ : ∃ wx, w.drewN d0 = wx := ⟨_, rfl⟩
      rw [hwx] at c0 c1 c2 c0' c1' c2' ⊢
      have HW := Lib.hid hwx
      clear hwx h0 h1 h2 h0' h1' h2'
      go_wp2_with fail
      go_quiet (fail)
      go_wp2_with fail
      go_roundw
      case rel => exact ⟨k + 1, _, by omega, by go_num, by rw [← HW.out, World.drewN_drewN]⟩
      case measure => simp [intOf] <;> omega
    · obtain rfl : k = n := by omega
      go_wp2_with fail
      go_ret
      exact ⟨rfl, drewN_below _ _⟩
end Go.Proofs.Ytkhmlbkkdflnoaa
