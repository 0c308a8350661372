/-
  THE WALKS over package hub, fifth part: the iterator over what is handed over.
-/
import Derived.Test.YtkhmlbkkdflnoaaHubd
import Derived.Test.YtkhmlbkkdflnoaaIter
namespace Go.Proofs.Ytkhmlbkkdflnoaa.Hb
open Go.RowKit Go.Shelf
open Ch (wp_region_cls quiet_of_run quiet_of_call abides)
attribute [local go_sem] Oper.semAt_some
set_option linter.unusedVariables false
set_option linter.unusedSimpArgs false

/-- as RP, in blocks below n₀ -/
def RPn (n₀ : Nat) (w : World) (A : Option Addr) (n : Nat) (X : Nat → Nat → Int) : Prop := ∀ i, i < n → ∃ b o, A = some ⟨b, o, none⟩ ∧ b < n₀ ∧
  w.cell? ⟨b, o + i * 3, none⟩ = some (.int .i64 (X i 0)) ∧ w.cell? ⟨b, o + i * 3 + 1, none⟩ = some (.int .i64 (X i 1)) ∧ w.cell? ⟨b, o + i * 3 + 2, none⟩ = some (.int .i64 (X i 2))
theorem RPn.keep {n₀ : Nat} {w w' : World} {A : Option Addr} {n : Nat} {X : Nat → Nat → Int} (x : RPn n₀ w A n X) (hb : Below n₀ w w') : RPn n₀ w' A n X := fun i hi => by
  obtain ⟨b, o, e, hl, c0, c1, c2⟩ := x i hi
  have hc : ∀ j, w'.cell? ⟨b, j, none⟩ = w.cell? ⟨b, j, none⟩ := fun j => hb.cell (p := ⟨b, j, none⟩) hl
  exact ⟨b, o, e, hl, (hc _).trans c0, (hc _).trans c1, (hc _).trans c2⟩
/-- what the iterator reads -/
def Rb (n₀ Bm Bb : Nat) (N : Int) (A : Option Addr) (q c : Nat) (f : Nat → Int) (W : World) : Prop :=
  (W.cell? ⟨Bm, 0, none⟩ = some (.int .i64 3) ∧ W.cell? ⟨Bm, 1, none⟩ = some (.int .i64 N) ∧ W.cell? ⟨Bm, 2, none⟩ = some (.int .i64 (N - 1))) ∧ W.cell? ⟨Bb, 0, none⟩ = some (.slice A q c) ∧ RPn n₀ W A q (mg f)
/-- what a round keeps: all below n₀, and the two boxes -/
def Kb2 (n₀ Bm Bb : Nat) (W W' : World) : Prop := Below n₀ W W' ∧ W'.heap[Bm]? = W.heap[Bm]? ∧ W'.heap[Bb]? = W.heap[Bb]?
theorem Rb.keep {n₀ Bm Bb : Nat} {N : Int} {A : Option Addr} {q c : Nat} {f : Nat → Int} {W W' : World} (h : Rb n₀ Bm Bb N A q c f W) (hk : Kb2 n₀ Bm Bb W W') : Rb n₀ Bm Bb N A q c f W' :=
  ⟨⟨(World.cell?_of_block hk.2.1).trans h.1.1, (World.cell?_of_block hk.2.1).trans h.1.2.1, (World.cell?_of_block hk.2.1).trans h.1.2.2⟩, (World.cell?_of_block hk.2.2).trans h.2.1, h.2.2.keep hk.1⟩
theorem Kb2.trans {n₀ Bm Bb : Nat} {A B C : World} (h : Kb2 n₀ Bm Bb A B) (k : Kb2 n₀ Bm Bb B C) : Kb2 n₀ Bm Bb A C := ⟨h.1.trans k.1, k.2.1.trans h.2.1, k.2.2.trans h.2.2⟩
theorem Kb2.grow {n₀ Bm Bb : Nat} {W W' : World} (hn : n₀ ≤ W.heap.size) (hM : Bm < W.heap.size) (hB : Bb < W.heap.size) (h : Below W.heap.size W W') : Kb2 n₀ Bm Bb W W' := ⟨h.mono hn, h.block _ hM, h.block _ hB⟩
/-- how many follow -/
def rn (N : Int) (f : Nat → Int) (q : Nat) : Nat := fi (fun i => decide (f i = N + 1 + i)) q
/-- what is yielded -/
def enc (N : Int) (x : Nat) : Array Value := #[.agg #[.int .i64 3, .int .i64 (N + x), .int .i64 (N + x - 1)]]
theorem rn_eq {N : Int} {f : Nat → Int} {q k : Nat} (hk : k ≤ q) (h : ∀ j, j < k → f j = N + 1 + j) (hs : k = q ∨ ¬ f k = N + 1 + k) : rn N f q = k :=
  fi_eq hk (fun j hj => by simpa using h j hj) (hs.imp id fun h => by simpa using h)
theorem rn_gt {N : Int} {f : Nat → Int} {q k : Nat} (hk : k < q) (h : ∀ j, j < k + 1 → f j = N + 1 + j) : k < rn N f q :=
  Ch.fi_gt hk fun j hj => by simpa using h j hj

set_option maxRecDepth 100000 in
set_option maxHeartbeats 8000000 in
theorem ready1 (n : Nat) (hn : 1 ≤ n) (l n₀ Bm Bb : Nat) (N : Int) (A : Option Addr) (q c : Nat) (f : Nat → Int) (J Jx : List Nat → World → Prop) (hq : q ≤ 60) (hN : 1 ≤ N ∧ N ≤ 1000) (B0 : Nat) (hJA : AbidesFrom B0 J)
    (hY : ∀ pre x W1, J pre W1 → pre.length < rn N f q + 1 → YieldAt Fence.wide (n - 1) Try.prog l (enc N x) W1 fun e W' =>
      (e = .returned (.bool true) ∧ J (pre ++ [x]) W' ∧ Kb2 n₀ Bm Bb W1 W') ∨ (e = .returned (.bool false) ∧ Jx (pre ++ [x]) W'))
    (W : World) (hn₀ : n₀ ≤ W.heap.size) (hBm : Bm < W.heap.size) (hBb : Bb < W.heap.size) (hR : Rb n₀ Bm Bb N A q c f W) (h0 : J [] W) :
    CallsIn Fence.wide n Try.prog 106 #[.func (.yield l) #[] #[], .pointer (some ⟨Bm, 0, none⟩), .pointer (some ⟨Bb, 0, none⟩)] W fun e W' => (∃ v, e = .returned v) ∧
      ((∃ xs, xs = List.range (rn N f q + 1) ∧ J xs W') ∨ (∃ pre, (∃ k, k < rn N f q + 1 ∧ pre = List.range (k + 1)) ∧ Jx pre W')) := by
  have HR := Lib.hid hR
  have HY := Lib.hid hY
  clear hY
  obtain ⟨⟨a0, a1, a2⟩, ab, _⟩ := hR
  refine callsIn_of_wp Try.func106 rfl trivial ?_ rfl
  simp only [Try.ntmps106, List.size_toArray, List.length_cons, List.length_nil, Nat.reduceAdd, Nat.reduceSub, Array.replicate_succ, Array.replicate_zero, List.push_toArray, List.append_toArray, List.nil_append, List.cons_append]
  obtain ⟨fn, tmps, assign, body, hy, hRd⟩ := HY.out [] 0 W h0 (by simp)
  unfold enc at hy
  rw [show N + ((0 : Nat) : Int) = N by simp] at hy
  gi_wp2
  refine hRd.mono ?_
  rintro e W1 (⟨rfl, hJ1, hk1⟩ | ⟨rfl, hJx1⟩)
  · have HK1 := Lib.hid hk1
    have HJ1 := Lib.hid hJ1
    have HR1 := Lib.hid (HR.out.keep hk1)
    obtain ⟨⟨a0, a1, a2⟩, ab, _⟩ := HR1.out
    have HS1 : Hid (W.heap.size ≤ W1.heap.size) := Lib.hid hk1.1.size
    clear hJ1 hk1 a0 a1 a2
    gi_wp2
    refine wpIn_wide.2 ?_
    go_loopw [12] (fun i wr => ∃ (k : Nat), k ≤ q ∧ i = .int .i64 (k : Int) ∧ (∀ j, j < k → f j = N + 1 + j) ∧ J (List.range (k + 1)) wr ∧ Rb n₀ Bm Bb N A q c f wr ∧ W.heap.size ≤ wr.heap.size) (fun i _ => q - (intOf i).toNat)
    case atStart => exact ⟨0, Nat.zero_le _, rfl, fun j hj => by omega, HJ1.out, HR1.out, HS1.out⟩
    case round =>
      obtain ⟨k, hk, rfl, hall, hJ, hrd, hsz⟩ := hrel
      have HALL := Lib.hid hall
      have HJ := Lib.hid hJ
      have HRD := Lib.hid hrd
      clear hall hJ hrd
      rcases Nat.lt_or_ge k q with hlt | hge
      · obtain ⟨b, o, rfl, hb, c0, c1, c2⟩ := HRD.out.2.2 k hlt
        have i0 : (0 : Int) ≤ (k : Int) := by omega
        have i1 : (k : Int) < (q : Int) := by omega
        have cb := HRD.out.1.2.1
        rw [show mg f k 0 = 3 from rfl] at c0
        rw [show mg f k 1 = f k from rfl] at c1
        rw [show mg f k 2 = f k - 1 from rfl] at c2
        by_cases hfk : f k = N + 1 + k
        · have hlen : (List.range (k + 1)).length < rn N f q + 1 := by
            rw [List.length_range]
            have := rn_gt hlt (all_snoc HALL.out hfk)
            omega
          have HLEN := Lib.hid hlen
          have HFK := Lib.hid hfk
          rw [hfk] at c1 c2
          clear hfk hlen
          have x0 : (wr.alloc (.cells #[.int .i64 3, .int .i64 (N + 1 + k), .int .i64 (N + 1 + k - 1)] 69)).cell? ⟨wr.heap.size, 0, none⟩ = some (.int .i64 3) := Mt.cell_new rfl rfl
          have x1 : (wr.alloc (.cells #[.int .i64 3, .int .i64 (N + 1 + k), .int .i64 (N + 1 + k - 1)] 69)).cell? ⟨wr.heap.size, 1, none⟩ = some (.int .i64 (N + 1 + k)) := Mt.cell_new rfl rfl
          have x2 : (wr.alloc (.cells #[.int .i64 3, .int .i64 (N + 1 + k), .int .i64 (N + 1 + k - 1)] 69)).cell? ⟨wr.heap.size, 2, none⟩ = some (.int .i64 (N + 1 + k - 1)) := Mt.cell_new rfl rfl
          have x3 := old_at cb (bel_alloc (Below.refl _ wr) (.cells #[.int .i64 3, .int .i64 (N + 1 + k), .int .i64 (N + 1 + k - 1)] 69))
          have H3 := Lib.hid (bel_alloc (Below.refl _ wr) (.cells #[.int .i64 3, .int .i64 (N + 1 + k), .int .i64 (N + 1 + k - 1)] 69))
          have u1 : IntKind.i64.wrap (N + 1) = N + 1 := IntWalk.i64_in _ (by omega)
          have u2 : IntKind.i64.wrap (N + 1 + k) = N + 1 + k := IntWalk.i64_in _ (by omega)
          have e1 : (N + 1 + (k : Int) != N + 1 + (k : Int)) = false := by simp
          go_upto_region 4 with (fail)
          obtain ⟨pb, hpb⟩ : ∃ pb, wr.heap.size = pb := ⟨_, rfl⟩
          obtain ⟨w3, hw3⟩ : ∃ w3, wr.alloc (.cells #[.int .i64 3, .int .i64 (N + 1 + k), .int .i64 (N + 1 + k - 1)] 69) = w3 := ⟨_, rfl⟩
          rw [hw3] at x0 x1 x2 x3 H3 ⊢
          rw [hpb] at x0 x1 x2 ⊢
          clear hw3 hpb c0 c1 c2
          obtain ⟨fn2, tmps2, assign2, body2, hy2, hRd2⟩ := HY.out _ (k + 1) w3 (abides hJA HJ.out H3.out) HLEN.out
          unfold enc at hy2
          rw [show N + ((k + 1 : Nat) : Int) = N + 1 + (k : Int) by omega] at hy2
          refine (wpIn_wide (n := n)).1 ?_
          gi_wp2
          refine hRd2.mono ?_
          rintro e W3 (⟨rfl, hJ3, hk3⟩ | ⟨rfl, hJx3⟩)
          · have hkb := (Kb2.grow (n₀ := n₀) (Bm := Bm) (Bb := Bb) (by omega) (by omega) (by omega) H3.out).trans hk3
            have HKB := Lib.hid hkb
            have HJ3 := Lib.hid hJ3
            have HS3 : Hid (W.heap.size ≤ W3.heap.size) := Lib.hid (Nat.le_trans hsz hkb.1.size)
            clear hJ3 hk3 hkb
            gi_wp2
            go_wp2
            refine ⟨⟨k + 1, by omega, by go_num, all_snoc HALL.out HFK.out, by rw [List.range_succ]; exact HJ3.out, HRD.out.keep HKB.out, HS3.out⟩, by simp [intOf] <;> omega⟩
          · have HJX := Lib.hid hJx3
            clear hJx3
            gi_wp2
            go_wp2
            refine bodyPost_ret (results_none rfl _ _ _) rfl ?_
            exact ⟨⟨_, rfl⟩, .inr ⟨_, ⟨k + 1, by have := HLEN.out; rwa [List.length_range] at this, List.range_succ.symm⟩, HJX.out⟩⟩
        · have hr : rn N f q = k := rn_eq (by omega) HALL.out (.inr hfk)
          have HRN := Lib.hid hr
          have e1 : (f k != N + 1 + (k : Int)) = true := by simpa using hfk
          have x1 : (wr.alloc (.cells #[.int .i64 3, .int .i64 (f k), .int .i64 (f k - 1)] 69)).cell? ⟨wr.heap.size, 1, none⟩ = some (.int .i64 (f k)) := Mt.cell_new rfl rfl
          have u1 : IntKind.i64.wrap (N + 1) = N + 1 := IntWalk.i64_in _ (by omega)
          have u2 : IntKind.i64.wrap (N + 1 + k) = N + 1 + k := IntWalk.i64_in _ (by omega)
          have y1 := old_at HRD.out.1.2.1 (bel_alloc (Below.refl _ wr) (.cells #[.int .i64 3, .int .i64 (f k), .int .i64 (f k - 1)] 69))
          clear hr hfk
          go_wp2
          refine bodyPost_ret (results_none rfl _ _ _) rfl ?_
          exact ⟨⟨_, rfl⟩, .inl ⟨_, by rw [HRN.out], abides hJA HJ.out (bel_alloc (Below.refl _ wr) _)⟩⟩
      · obtain rfl : k = q := by omega
        have hr : rn N f k = k := rn_eq (Nat.le_refl _) HALL.out (.inl rfl)
        have HRN := Lib.hid hr
        clear hr
        go_wp2
        all_goals (try (exfalso; omega))
        go_end0
        exact ⟨⟨_, rfl⟩, .inl ⟨_, by rw [HRN.out], HJ.out⟩⟩
  · have HJX := Lib.hid hJx1
    clear hJx1
    gi_wp2
    refine bodyPost_ret (results_none rfl _ _ _) rfl ?_
    exact ⟨⟨_, rfl⟩, .inr ⟨_, ⟨0, by omega, rfl⟩, HJX.out⟩⟩
theorem ready_seq (n : Nat) (hn : 1 ≤ n) (n₀ Bm Bb : Nat) (N : Int) (A : Option Addr) (q c : Nat) (f : Nat → Int) (hq : q ≤ 60) (hN : 1 ≤ N ∧ N ≤ 1000) (w : World) (hn₀ : n₀ ≤ w.heap.size) (hBm : Bm < w.heap.size) (hBb : Bb < w.heap.size) (hR : Rb n₀ Bm Bb N A q c f w) :
    SeqStopsK Fence.wide n Try.prog 106 #[.pointer (some ⟨Bm, 0, none⟩), .pointer (some ⟨Bb, 0, none⟩)] (enc N) (Kb2 n₀ Bm Bb) (fun xs => xs = List.range (rn N f q + 1)) (fun pre => ∃ k, k < rn N f q + 1 ∧ pre = List.range (k + 1)) (rn N f q + 1) w :=
  fun l J Jx W hW hJA _ hY h0 => ready1 n hn l n₀ Bm Bb N A q c f J Jx hq hN _ hJA hY W (Nat.le_trans hn₀ hW.size) (Nat.lt_of_lt_of_le hBm hW.size) (Nat.lt_of_lt_of_le hBb hW.size) (hR.keep ⟨hW.mono hn₀, hW.block _ hBm, hW.block _ hBb⟩) h0
set_option maxHeartbeats 1000000 in
theorem ready_any (N : Int) (A : Option Addr) (q c : Nat) (w : World) :
    Calls Try.prog 59 #[.agg #[.int .i64 3, .int .i64 N, .int .i64 (N - 1)], .slice A q c] w
      fun e w' => e = .returned (.func (.func 106) #[] #[.pointer (some ⟨w.heap.size, 0, none⟩), .pointer (some ⟨w.heap.size + 1, 0, none⟩)]) ∧ w' = (w.alloc (.cells #[.int .i64 3, .int .i64 N, .int .i64 (N - 1)] 69)).alloc (.cells #[.slice A q c] 65) := by
  have hmf : ∀ (fn : Fn) (first cap : Array Value) (w : World), (Instr.makeFunc fn first cap).run Try.prog w = .ok (.func fn first cap) w := fun _ _ _ _ => rfl
  go_enter Try.func59, Try.ntmps59
  go_wp2
  go_ret
  exact ⟨rfl, rfl⟩
end Go.Proofs.Ytkhmlbkkdflnoaa.Hb
