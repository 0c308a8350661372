/-
  THE WALKS over number, Text and Alike.
-/
import Derived.Test.YtkmjflkodckflaaCovP
import Derived.Test.YtkmjflkodckflaaJoinsc
import Derived.Laws.BytesString
import Derived.Laws.BytesArg
namespace Go.Proofs.Ytkmjflkodckflaa
open Go.RowKit
set_option linter.unusedVariables false
set_option linter.unusedSimpArgs false
attribute [local go_sem ↓] Go.wp_at_zero Go.wp_at_succ

theorem u49 : Try.prog.underlying 49 = some (.slice 5) := by kernel_rfl
theorem u5 : Try.prog.underlying 5 = some (.int .u8) := by kernel_rfl
theorem u9 : Try.prog.underlying 9 = some .string := by kernel_rfl
/-- one byte, as a string -/
theorem conv_at (W : World) (b n : Nat) (d : Int) (hd : d = (n : Int)) (hn : n < 256) (h : W.cell? ⟨b, 0, none⟩ = some (.int .u8 d)) :
    (convert 49 9 (.slice (some ⟨b, 0, none⟩) 1 1)).run Try.prog W = .ok (.string (ba [n])) W := by
  subst hd
  have := run_convert_bytes_arg (P := Try.prog) W 49 5 u49 u5 b 0 1 1 [(n : Int)] rfl (fun i hi => by
    obtain rfl : i = 0 := by omega
    simpa using h) 9 u9
  rw [this]
  simp [strOfNums, ba, Nat.toUInt8]
theorem digs_sz : ∀ (N n : Nat), n < 10 ^ (N + 1) → (digs n).length ≤ N + 1 := by
  intro N
  induction N with
  | zero => intro n h; rw [digs_lt (by simpa using h)]; simp
  | succ N ih =>
    intro n h
    by_cases h10 : n < 10
    · rw [digs_lt h10]; simp
    · rw [digs_ge h10, List.length_append]
      have := ih (n / 10) (by rw [Nat.pow_succ] at h; omega)
      simp
      omega
theorem ba_app (a b : List Nat) : ba a ++ ba b = ba (a ++ b) := by
  simp [ba]
  rfl
theorem ba_size (a : List Nat) : (ba a).size = a.length := by
  show (ba a).data.size = _
  simp [ba]
set_option maxRecDepth 100000 in
set_option maxHeartbeats 4000000 in
theorem num_lt (n : Nat) (w : World) (hn : n < 10) :
    Calls Try.prog 24 #[.int .i64 n] w fun e w' => e = .returned (.string (ba (digs n))) ∧ Below w.heap.size w w' := by
  rw [digs_lt hn]
  have HC : ∀ t, (convert 49 9 (.slice (some ⟨w.heap.size, 0, none⟩) 1 1)).run Try.prog (w.alloc (Obj.cells #[Value.int IntKind.u8 (48 + ↑n)] t)) = .ok (.string (ba [48 + n])) (w.alloc (Obj.cells #[Value.int IntKind.u8 (48 + ↑n)] t)) := fun t => conv_at _ _ (48 + n) (48 + (n : Int)) (by omega) (by omega) (by simp [go_sem])
  go_enter Try.func24, Try.ntmps24
  go_wp2_with fail
  all_goals (try (exfalso; omega))
  go_ret
  exact ⟨rfl, bel_a _ _⟩
set_option maxRecDepth 100000 in
set_option maxHeartbeats 4000000 in
theorem num_ge (n : Nat) (w : World) (hn : ¬ n < 10) (hb : n < 100000000) (hs : (digs (n / 10)).length ≤ 20) (ih : ∀ W, Calls Try.prog 24 #[.int .i64 ((n / 10 : Nat) : Int)] W fun e w' => e = .returned (.string (ba (digs (n / 10)))) ∧ Below W.heap.size W w') :
    Calls Try.prog 24 #[.int .i64 n] w fun e w' => e = .returned (.string (ba (digs n))) ∧ Below w.heap.size w w' := by
  rw [digs_ge hn]
  obtain ⟨ds, hds⟩ : ∃ ds, digs (n / 10) = ds := ⟨_, rfl⟩
  rw [hds] at ih hs ⊢
  obtain ⟨r, hr⟩ : ∃ r, n % 10 = r := ⟨_, rfl⟩
  rw [hr]
  have HR := Lib.hid hr
  clear hr
  have HI := Lib.hid ih
  clear ih hds
  go_enter Try.func24, Try.ntmps24
  go_upto_region 3 with (fail)
  all_goals (try (exfalso; omega))
  obtain ⟨q, hq⟩ : ∃ q, n / 10 = q := ⟨_, rfl⟩
  have hr := HR.out
  rw [hq] at HI
  have hr9 : r < 10 := by omega
  have a1 : IntKind.i64.wrap ((n : Int) / 10) = (q : Int) := by rw [show (n : Int) / 10 = (q : Int) by omega]; exact IntWalk.i64_in _ (by omega)
  have a2 : (n : Int) % 10 = (r : Int) := by omega
  have a2' : (n : Int).tmod 10 = (r : Int) := by rw [Int.tmod_eq_emod_of_nonneg (by omega)]; exact a2
  have a3 : IntKind.i64.wrap (48 + (r : Int)) = 48 + (r : Int) := IntWalk.i64_in _ (by omega)
  have a4 : IntKind.u8.wrap (48 + (r : Int)) = 48 + (r : Int) := by simp only [IntKind.wrap, IntKind.signed, IntKind.bits]; simp; omega
  have HC : ∀ W b, W.cell? ⟨b, 0, none⟩ = some (.int .u8 (48 + (r : Int))) → (convert 49 9 (.slice (some ⟨b, 0, none⟩) 1 1)).run Try.prog W = .ok (.string (ba [48 + r])) W := fun W b h => conv_at W b (48 + r) _ (by omega) (by omega) h
  have lz : ¬ 9223372036854775807 < (ba ds).size + (ba [48 + r]).size := by rw [ba_size, ba_size]; simp only [List.length_cons, List.length_nil]; omega
  clear hq hr
  go_region_with (first
    | (go_at_call 24; with_reducible refine (HI.out _).mono ?_; rintro e w1 ⟨rfl, h1⟩
       first
       | (have hk : w1.cell? ⟨w.heap.size, 0, none⟩ = some (.int .u8 (48 + (r : Int))) := by
           refine old_at ?_ h1
           simp [go_sem]
           done)
       | skip))
  all_goals
    go_wp2
    go_ret
    refine ⟨by rw [← ba_app]; rfl, ?_⟩
  all_goals first
    | exact bel_step (below_drewN (Below.refl _ _) 1) (by
        refine Below.alloc (h1 : Below _ _ _) ?_ _
        exact h1.size)
    | exact bel_step (below_drewN (bel_a _ _) 1) h1
theorem num_any : ∀ (N n : Nat) (w : World), n ≤ N → n < 100000000 →
    Calls Try.prog 24 #[.int .i64 n] w fun e w' => e = .returned (.string (ba (digs n))) ∧ Below w.heap.size w w' := by
  intro N
  induction N with
  | zero => intro n w h hb; exact num_lt n w (by omega)
  | succ N ih =>
    intro n w h hb
    by_cases h10 : n < 10
    · exact num_lt n w h10
    · exact num_ge n w h10 hb (by have := digs_sz 7 (n / 10) (by omega); omega) (fun W => ih (n / 10) W (by omega) (by omega))
set_option maxRecDepth 100000 in
set_option maxHeartbeats 4000000 in
theorem text_any (K : Int) (t : List Nat) (n : Nat) (a : Nat) (w : World) (hn : n ≤ 1000000) :
    Calls Try.prog 13 #[.agg #[.int .i64 K, .string (ba t), .int .i64 n, .int .i64 a]] w fun e w' => e = .returned (.string (ba (txt (K, t, (n : Int), a)))) ∧ Below w.heap.size w w' := by
  by_cases hK : K = 2
  · subst hK
    have ht : txt (2, t, (n : Int), a) = digs n := by simp [txt]
    rw [ht]
    have hmx : ((if (0 : Int) < (n : Int) then (n : Int) else 0)) = (n : Int) := by split <;> omega
    have HN := Lib.hid (fun W => num_any n n W (Nat.le_refl _) (by omega))
    by_cases h0 : 0 < n
    · have h0' : (0 : Int) < (n : Int) := by omega
      go_enter Try.func13, Try.ntmps13
      go_wp2_with (first
        | (go_at_call 24; with_reducible refine (HN.out _).mono ?_; rintro e w1 ⟨rfl, h1⟩))
      all_goals (try (exfalso; omega))
      go_ret
      exact ⟨rfl, bel_step (bel_a _ _) h1⟩
    · obtain rfl : n = 0 := by omega
      have HN0 : Hid (∀ W, Calls Try.prog 24 #[.int .i64 0] W fun e w' => e = .returned (.string (ba (digs 0))) ∧ Below W.heap.size W w') := Lib.hid fun W => num_lt 0 W (by omega)
      go_enter Try.func13, Try.ntmps13
      go_wp2_with (first
        | (go_at_call 24; with_reducible refine (HN0.out _).mono ?_; rintro e w1 ⟨rfl, h1⟩))
      all_goals (try (exfalso; omega))
      go_ret
      exact ⟨rfl, bel_step (bel_a _ _) h1⟩
  · have ht : txt (K, t, (n : Int), a) = t := by simp [txt, hK]
    rw [ht]
    have hK' : (K == 2) = false := by simpa using hK
    go_enter Try.func13, Try.ntmps13
    go_wp2_with fail
    all_goals (try (exfalso; omega))
    go_ret
    exact ⟨rfl, bel_a _ _⟩
set_option maxRecDepth 100000 in
set_option maxHeartbeats 4000000 in
theorem alike_k (A B : Option Addr) (n m c d : Nat) (la lb : List Tok) (w : World) (hn : n ≤ 5000) (hna : la.length = n) (hnb : lb.length = m) (hA : RL w A (cK la)) (hB : RL w B (cK lb)) (hsame : AlikeT la lb) :
    Calls Try.prog 15 #[.slice A n c, .slice B m d] w fun e w' => e = .returned (.bool true) ∧ Below w.heap.size w w' := by
  obtain rfl : n = m := by have := hsame.1; omega
  have HA := Lib.hid hA
  have HB := Lib.hid hB
  have HNA := Lib.hid hna
  have HNB := Lib.hid hnb
  have HS := Lib.hid hsame.2
  clear hA hB hna hnb hsame
  go_enter Try.func15, Try.ntmps15
  go_wp2_with fail
  go_loopw [5] (fun i wr => ∃ k e : Nat, k ≤ n ∧ i = .int .i64 k ∧ wr = w.drewN e) (fun i _ => n - (intOf i).toNat)
  case atStart => exact ⟨0, 0, Nat.zero_le _, rfl, rfl⟩
  case round =>
    obtain ⟨k, e0, hk, rfl, rfl⟩ := hrel
    by_cases hlt : k < n
    · obtain ⟨b, o, rfl, hb, x0, x1, x2, _⟩ := HA.out.k (i := k) (by have := HNA.out; omega)
      obtain ⟨b', o', rfl, hb', y0, y1, y2, _⟩ := HB.out.k (i := k) (by have := HNB.out; omega)
      obtain ⟨s1, s2, s3⟩ := HS.out k (by have := HNA.out; omega)
      rw [← s1] at y0
      rw [← s2] at y1
      rw [← s3] at y2
      have c0 : (w.drewN e0).cell? ⟨b, o + k * 4, none⟩ = some (.int .i64 (atK la k).1) := x0
      have c1 : (w.drewN e0).cell? ⟨b, o + k * 4 + 1, none⟩ = some (.string (ba (atK la k).2.1)) := x1
      have c2 : (w.drewN e0).cell? ⟨b, o + k * 4 + 2, none⟩ = some (.int .i64 (atK la k).2.2.1) := x2
      have d0 : (w.drewN e0).cell? ⟨b', o' + k * 4, none⟩ = some (.int .i64 (atK la k).1) := y0
      have d1 : (w.drewN e0).cell? ⟨b', o' + k * 4 + 1, none⟩ = some (.string (ba (atK la k).2.1)) := y1
      have d2 : (w.drewN e0).cell? ⟨b', o' + k * 4 + 2, none⟩ = some (.int .i64 (atK la k).2.2.1) := y2
      obtain ⟨wx, hwx⟩ : ∃ wx, w.drewN e0 = wx := ⟨_, rfl⟩
      rw [hwx] at c0 c1 c2 d0 d1 d2 ⊢
      have HW := Lib.hid hwx
      clear hwx x0 x1 x2 y0 y1 y2 s1 s2 s3
      generalize (atK la k).1 = K1 at *
      generalize ba (atK la k).2.1 = T1 at *
      generalize (atK la k).2.2.1 = N1 at *
      have i0 : (0 : Int) ≤ (k : Int) := by omega
      have i1 : (k : Int) < (n : Int) := by omega
      go_wp2_with fail
      go_quiet (fail)
      go_wp2_with fail
      go_roundw
      case rel => exact ⟨k + 1, _, by omega, by go_num, by rw [← HW.out, World.drewN_drewN]⟩
      case measure => simp [intOf] <;> omega
    · obtain rfl : k = n := by omega
      go_wp2_with fail
      all_goals (try (exfalso; omega))
      go_ret
      exact ⟨rfl, below_drewN (Below.refl _ _) _⟩
end Go.Proofs.Ytkmjflkodckflaa
