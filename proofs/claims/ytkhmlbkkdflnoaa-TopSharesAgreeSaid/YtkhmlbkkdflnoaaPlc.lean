/-
  package limits: places (an iterator).
-/
import Derived.Test.YtkhmlbkkdflnoaaTre1
namespace Go.Proofs.Ytkhmlbkkdflnoaa.Nm
open Go.RowKit Go.Shelf Go.Proofs.Ytkhmlbkkdflnoaa Go
attribute [local go_sem] Oper.semAt_some
set_option linter.unusedVariables false

/-- the place x, of m conductors -/
def clP (m x : Nat) : Nat := if x < 3 * m then x else 0
def encP (m x : Nat) : Array Value := #[.agg #[.int .i64 ((clP m x / 3 : Nat) : Int), .int .i64 ((clP m x % 3 : Nat) : Int)]]
theorem encP_at (m c p : Nat) (hc : c < m) (hp : p < 3) : encP m (3 * c + p) = #[.agg #[.int .i64 ((c : Nat) : Int), .int .i64 ((p : Nat) : Int)]] := by
  have h1 : clP m (3 * c + p) = 3 * c + p := by unfold clP; rw [if_pos (by omega)]
  have h2 : (3 * c + p) / 3 = c := by omega
  have h3 : (3 * c + p) % 3 = p := by omega
  unfold encP
  rw [h1, h2, h3]
theorem range_pre {k n : Nat} (h : k ≤ n) : List.range k <+: List.range n := by
  obtain ⟨d, rfl⟩ : ∃ d, n = k + d := ⟨n - k, by omega⟩
  rw [List.range_add]
  exact List.prefix_append _ _
/-- nothing that is read while it yields -/
def KT (_ _ : World) : Prop := True
set_option maxRecDepth 100000 in
set_option maxHeartbeats 2000000 in
theorem places1 (n : Nat) (hn : 1 ≤ n) (l Bs : Nat) (A : Option Addr) (m cc : Nat) (J Jx : List Nat → World → Prop) (hm : m ≤ 16)
    (hY : ∀ pre x W1, J pre W1 → pre.length < 3 * m → YieldAt Fence.wide (n - 1) Try.prog l (encP m x) W1 fun e W' =>
      (e = .returned (.bool true) ∧ J (pre ++ [x]) W' ∧ KT W1 W') ∨ (e = .returned (.bool false) ∧ Jx (pre ++ [x]) W'))
    (W : World) (hR : W.cell? ⟨Bs, 0, none⟩ = some (.slice A m cc)) (h0 : J [] W) :
    CallsIn Fence.wide n Try.prog 114 #[.func (.yield l) #[] #[], .pointer (some ⟨Bs, 0, none⟩)] W fun e W' => (∃ v, e = .returned v) ∧
      ((∃ ys, ys = List.range (3 * m) ∧ J ys W') ∨ (∃ pre, pre <+: List.range (3 * m) ∧ Jx pre W')) := by
  have HY := Lib.hid hY
  have H0 := Lib.hid h0
  clear hY h0
  refine callsIn_of_wp Try.func114 rfl trivial ?_ rfl
  simp only [Try.ntmps114, List.size_toArray, List.length_cons, List.length_nil, Nat.reduceAdd, Nat.reduceSub, Array.replicate_succ, Array.replicate_zero, List.push_toArray, List.append_toArray, List.nil_append, List.cons_append]
  gi_wp2
  gi_loopw [8] (fun i wr => ∃ c : Nat, c ≤ m ∧ i = .int .i64 c ∧ J (List.range (3 * c)) wr) (fun i _ => m - (intOf i).toNat)
  case atStart => exact ⟨0, by omega, rfl, by simpa using H0.out⟩
  case round =>
    obtain ⟨c, hc, rfl, hJ⟩ := hrel
    have HJ := Lib.hid hJ
    clear hJ H0 hR
    by_cases hlt : c < m
    · gi_wp2
      gi_loopw [11] (fun i wr => ∃ p : Nat, p ≤ 3 ∧ i = .int .i64 p ∧ J (List.range (3 * c + p)) wr) (fun i _ => 3 - (intOf i).toNat)
      case atStart => exact ⟨0, by omega, rfl, HJ.out⟩
      case round =>
        obtain ⟨p, hp, rfl, hJp⟩ := hrel
        have HJp := Lib.hid hJp
        clear hJp
        by_cases hlp : p < 3
        · have hR1 : Hid (List.range (3 * c + p) ++ [3 * c + p] = List.range (3 * c + (p + 1))) := Lib.hid (by rw [show 3 * c + (p + 1) = (3 * c + p) + 1 by omega, List.range_succ])
          obtain ⟨fn, tmps, assign, body, hy, hRd⟩ := HY.out (List.range (3 * c + p)) (3 * c + p) _ HJp.out (by rw [List.length_range]; omega)
          rw [encP_at m c p hlt hlp] at hy
          gi_wp2
          refine hRd.mono ?_
          rintro e W3 (⟨rfl, hJ3, hk3⟩ | ⟨rfl, hJx3⟩)
          · rw [hR1.out] at hJ3
            gi_wp2
            go_roundw
            case rel => exact ⟨p + 1, by omega, by go_num, hJ3⟩
            case measure => simp [intOf] <;> omega
          · rw [hR1.out] at hJx3
            gi_wp2
            refine bodyPost_ret (results_none rfl _ _ _) rfl ?_
            exact ⟨⟨_, rfl⟩, .inr ⟨_, range_pre (by omega), hJx3⟩⟩
        · obtain rfl : p = 3 := by omega
          gi_wp2
          go_roundw
          case rel => exact ⟨c + 1, by omega, by go_num, HJp.out⟩
          case measure => simp [intOf] <;> omega
    · obtain rfl : c = m := by omega
      gi_wp2
      go_end0
      exact ⟨⟨_, rfl⟩, .inl ⟨_, rfl, HJ.out⟩⟩
theorem places_seq (n : Nat) (hn : 1 ≤ n) (Bs : Nat) (A : Option Addr) (m cc : Nat) (hm : m ≤ 16) (w : World) (hR : w.cell? ⟨Bs, 0, none⟩ = some (.slice A m cc)) :
    SeqStopsK Fence.wide n Try.prog 114 #[.pointer (some ⟨Bs, 0, none⟩)] (encP m) KT (fun ys => ys = List.range (3 * m)) (fun pre => pre <+: List.range (3 * m)) (3 * m) w :=
  fun l J Jx W hW _ _ hY h0 => places1 n hn l Bs A m cc J Jx hm hY W (old_at hR hW) h0
theorem places_any (S : Sit) (w : World) :
    Calls Try.prog 74 #[.agg #[.slice (S.A 0) (S.n 0) (S.c 0), .slice (S.A 1) (S.n 1) (S.c 1), .slice (S.A 2) (S.n 2) (S.c 2), .slice (S.A 3) (S.n 3) (S.c 3), .slice (S.A 4) (S.n 4) (S.c 4)]] w
      fun e w' => e = .returned (.func (.func 114) #[] #[.pointer (some ⟨w.heap.size, 0, none⟩)]) ∧
        w' = w.alloc (.cells #[.slice (S.A 0) (S.n 0) (S.c 0), .slice (S.A 1) (S.n 1) (S.c 1), .slice (S.A 2) (S.n 2) (S.c 2), .slice (S.A 3) (S.n 3) (S.c 3), .slice (S.A 4) (S.n 4) (S.c 4)] 80) := by
  have hmf : ∀ (fn : Fn) (first cap : Array Value) (w : World), (Instr.makeFunc fn first cap).run Try.prog w = .ok (.func fn first cap) w := fun _ _ _ _ => rfl
  go_enter Try.func74, Try.ntmps74
  go_wp2
  go_ret
  exact ⟨rfl, rfl⟩
end Go.Proofs.Ytkhmlbkkdflnoaa.Nm
