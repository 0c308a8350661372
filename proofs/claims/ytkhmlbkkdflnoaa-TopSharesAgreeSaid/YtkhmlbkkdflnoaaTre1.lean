/-
  package tree: path (an iterator) and has.
-/
import Derived.Test.YtkhmlbkkdflnoaaRfn
import Derived.RangeFuncNested
import Derived.RangeFuncBound
import Derived.RangeFuncCalls
import Derived.RangeFuncLeaves
import Derived.RangeFuncBox
import Derived.Shelf.Abstract
import Derived.Shelf.RegionOpen
import Derived.OwnWalkIn
import Derived.TacticsInMore
import Derived.LoopNIn
import Derived.LoopIn
import Derived.Maps.AppendAt
namespace Go.Proofs.Ytkhmlbkkdflnoaa.Nm
open Go.RowKit Go.Shelf Go.Proofs.Ytkhmlbkkdflnoaa Go
attribute [local go_sem] Oper.semAt_some
set_option linter.unusedVariables false

/-- a list goes from c up to the feeder -/
def isPath (U : Nat → Int) : List Nat → Int → Prop
  | [], c => c < 0
  | x :: l, c => c = (x : Int) ∧ isPath U l (U x)
/-- the way from c up to the feeder -/
def pt (U : Nat → Int) : Nat → Int → List Nat
  | 0, _ => []
  | f + 1, c => if c < 0 then [] else c.toNat :: pt U f (U c.toNat)
theorem pt_path {U : Nat → Int} {m : Nat} (hU : ∀ x, x < m → U x < (x : Int)) : ∀ (f : Nat) (c : Int), c < f → c < m → isPath U (pt U f c) c ∧ ∀ x ∈ pt U f c, x < m := by
  intro f
  induction f with
  | zero => intro c h1 h2; exact ⟨by simpa [pt, isPath] using h1, by simp [pt]⟩
  | succ f ih =>
    intro c h1 h2
    by_cases hc : c < 0
    · simp [pt, hc, isPath]
    · have h3 := hU c.toNat (by omega)
      obtain ⟨i1, i2⟩ := ih (U c.toNat) (by omega) (by omega)
      simp only [pt, if_neg hc]
      refine ⟨⟨by omega, i1⟩, fun x hx => ?_⟩
      simp only [List.mem_cons] at hx
      rcases hx with rfl | hx
      · omega
      · exact i2 x hx
/-- what the iterator reads -/
def Rp (n₀ Bc Bs : Nat) (A : Option Addr) (m cc : Nat) (U : Nat → Int) (c : Int) (W : World) : Prop :=
  W.cell? ⟨Bc, 0, none⟩ = some (.int .i64 c) ∧ W.cell? ⟨Bs, 0, none⟩ = some (.slice A m cc) ∧ ∀ i, i < m → ∃ b o, A = some ⟨b, o, none⟩ ∧ b < n₀ ∧ W.cell? ⟨b, o + i * 11 + 1, none⟩ = some (.int .i64 (U i))
theorem Rp.keep {n₀ Bc Bs : Nat} {A : Option Addr} {m cc : Nat} {U : Nat → Int} {c : Int} {W W' : World} (h : Rp n₀ Bc Bs A m cc U c W) (h1 : Bc < n₀) (h2 : Bs < n₀) (hb : Below n₀ W W') : Rp n₀ Bc Bs A m cc U c W' :=
  ⟨(hb.cell (p := ⟨Bc, 0, none⟩) h1).trans h.1, (hb.cell (p := ⟨Bs, 0, none⟩) h2).trans h.2.1, fun i hi => by
    obtain ⟨b, o, e, hl, hc⟩ := h.2.2 i hi
    exact ⟨b, o, e, hl, (hb.cell (p := ⟨b, o + i * 11 + 1, none⟩) hl).trans hc⟩⟩
def encN (x : Nat) : Array Value := #[.int .i64 ((x : Nat) : Int)]
set_option maxRecDepth 100000 in
set_option maxHeartbeats 2000000 in
theorem path1 (n : Nat) (hn : 1 ≤ n) (l n₀ Bc Bs : Nat) (A : Option Addr) (m cc : Nat) (U : Nat → Int) (c : Int) (xs : List Nat) (J Jx : List Nat → World → Prop) (hm : m ≤ 40) (h1 : Bc < n₀) (h2 : Bs < n₀) (hU : ∀ x, x < m → U x < (x : Int)) (hp : isPath U xs c) (hx : ∀ x ∈ xs, x < m)
    (hY : ∀ pre x W1, J pre W1 → pre.length < xs.length → YieldAt Fence.wide (n - 1) Try.prog l (encN x) W1 fun e W' =>
      (e = .returned (.bool true) ∧ J (pre ++ [x]) W' ∧ Below n₀ W1 W') ∨ (e = .returned (.bool false) ∧ Jx (pre ++ [x]) W'))
    (W : World) (hR : Rp n₀ Bc Bs A m cc U c W) (h0 : J [] W) :
    CallsIn Fence.wide n Try.prog 139 #[.func (.yield l) #[] #[], .pointer (some ⟨Bc, 0, none⟩), .pointer (some ⟨Bs, 0, none⟩)] W fun e W' => (∃ v, e = .returned v) ∧
      ((∃ ys, ys = xs ∧ J ys W') ∨ (∃ pre, pre <+: xs ∧ Jx pre W')) := by
  have HR := Lib.hid hR
  have HY := Lib.hid hY
  have HP := Lib.hid hp
  have HX := Lib.hid hx
  have HU := Lib.hid hU
  clear hY hp hx hU
  obtain ⟨ca, cw, _⟩ := hR
  refine callsIn_of_wp Try.func139 rfl trivial ?_ rfl
  simp only [Try.ntmps139, List.size_toArray, List.length_cons, List.length_nil, Nat.reduceAdd, Nat.reduceSub, Array.replicate_succ, Array.replicate_zero, List.push_toArray, List.append_toArray, List.nil_append, List.cons_append]
  gi_wp2
  gi_loopw [4] (fun i wr => ∃ (cur : Int) (pre rest : List Nat), i = .int .i64 cur ∧ pre ++ rest = xs ∧ isPath U rest cur ∧ J pre wr ∧ Rp n₀ Bc Bs A m cc U c wr) (fun i _ => (intOf i + 1).toNat)
  case atStart => exact ⟨c, [], xs, rfl, rfl, HP.out, h0, HR.out⟩
  case round =>
    obtain ⟨cur, pre, rest, rfl, hpre, hpath, hJ, hrd⟩ := hrel
    have HPR := Lib.hid hpre
    have HRD := Lib.hid hrd
    clear hpre
    cases rest with
    | nil =>
      have hc : cur < 0 := hpath
      have hc' : ¬ (0 ≤ cur) := by omega
      gi_wp2
      go_end0
      exact ⟨⟨_, rfl⟩, .inl (by rw [← (List.append_nil pre).symm.trans HPR.out]; exact hJ)⟩
    | cons x rest =>
      obtain ⟨rfl, hpath'⟩ := hpath
      have HPT := Lib.hid hpath'
      have hxm : x < m := HX.out x (by rw [← HPR.out]; simp)
      have hux := HU.out x hxm
      have i0 : (0 : Int) ≤ (x : Int) := by omega
      obtain ⟨b, o, rfl, hb, hc⟩ := hrd.2.2 x hxm
      have hlen : pre.length < xs.length := by rw [← HPR.out]; simp
      obtain ⟨fn, tmps, assign, body, hy, hRd⟩ := HY.out pre x wr hJ hlen
      unfold encN at hy
      clear hpath' hrd hc
      gi_wp2
      refine hRd.mono ?_
      rintro e W3 (⟨rfl, hJ3, hk3⟩ | ⟨rfl, hJx3⟩)
      · have HR3 := Lib.hid (HRD.out.keep h1 h2 hk3)
        obtain ⟨cs, rows⟩ := HR3.out.2
        obtain ⟨b', o', hA', _, hc⟩ := rows x hxm
        cases hA'
        clear rows
        gi_wp2
        go_roundw
        case rel => exact ⟨U x, pre ++ [x], rest, rfl, by rw [← HPR.out]; simp, HPT.out, hJ3, HR3.out⟩
        case measure => simp [intOf] <;> omega
      · gi_wp2
        refine bodyPost_ret (results_none rfl _ _ _) rfl ?_
        exact ⟨⟨_, rfl⟩, .inr ⟨pre ++ [x], ⟨rest, by rw [← HPR.out]; simp⟩, hJx3⟩⟩
theorem path_seq (n : Nat) (hn : 1 ≤ n) (n₀ Bc Bs : Nat) (A : Option Addr) (m cc : Nat) (U : Nat → Int) (c : Int) (xs : List Nat) (hm : m ≤ 40) (h1 : Bc < n₀) (h2 : Bs < n₀) (hU : ∀ x, x < m → U x < (x : Int)) (hp : isPath U xs c) (hx : ∀ x ∈ xs, x < m) (w : World) (hn₀ : n₀ ≤ w.heap.size) (hR : Rp n₀ Bc Bs A m cc U c w) :
    SeqStopsK Fence.wide n Try.prog 139 #[.pointer (some ⟨Bc, 0, none⟩), .pointer (some ⟨Bs, 0, none⟩)] encN (Below n₀) (fun ys => ys = xs) (fun pre => pre <+: xs) xs.length w :=
  fun l J Jx W hW _ _ hY h0 => path1 n hn l n₀ Bc Bs A m cc U c xs J Jx hm h1 h2 hU hp hx hY W (hR.keep h1 h2 (hW.mono hn₀)) h0
set_option maxHeartbeats 1000000 in
theorem path_any (S : Sit) (c : Int) (w : World) :
    Calls Try.prog 117 #[.agg #[.slice (S.A 0) (S.n 0) (S.c 0), .slice (S.A 1) (S.n 1) (S.c 1), .slice (S.A 2) (S.n 2) (S.c 2), .slice (S.A 3) (S.n 3) (S.c 3), .slice (S.A 4) (S.n 4) (S.c 4)], .int .i64 c] w
      fun e w' => e = .returned (.func (.func 139) #[] #[.pointer (some ⟨w.heap.size + 1, 0, none⟩), .pointer (some ⟨w.heap.size, 0, none⟩)]) ∧
        w' = (w.alloc (.cells #[.slice (S.A 0) (S.n 0) (S.c 0), .slice (S.A 1) (S.n 1) (S.c 1), .slice (S.A 2) (S.n 2) (S.c 2), .slice (S.A 3) (S.n 3) (S.c 3), .slice (S.A 4) (S.n 4) (S.c 4)] 80)).alloc (.cells #[.int .i64 c] 3) := by
  have hmf : ∀ (fn : Fn) (first cap : Array Value) (w : World), (Instr.makeFunc fn first cap).run Try.prog w = .ok (.func fn first cap) w := fun _ _ _ _ => rfl
  go_enter Try.func117, Try.ntmps117
  go_wp2
  go_ret
  exact ⟨rfl, rfl⟩
theorem kept_low {A B : World} {row : Option Nat} {n j : Nat} {o : Obj} (hg : A.grownBy B row) (hr : ∀ r, row = some r → n ≤ r ∧ ∃ o, A.heap[r]? = some o ∧ o.isCells = false) (hj : j < n) (h : A.heap[j]? = some o) : B.heap[j]? = some o :=
  (hg.block j (Array.getElem?_eq_some_iff.1 h).1 (fun e => by have := (hr j e.symm).1; omega)).trans h
/-- what holds while has looks for k -/
def HI (w : World) (k : Nat) (pre : List Nat) (W : World) : Prop :=
  (Boxed W w.heap.size 3 (.int .i64 (k : Int)) ∧ Boxed W (w.heap.size + 1) 4 (.bool false)) ∧ (∀ x ∈ pre, x ≠ k) ∧ Below w.heap.size w W ∧ w.heap.size + 2 ≤ W.heap.size
def HIX (w : World) (k : Nat) (c : Code) (xs : List Nat) (W : World) : Prop :=
  k ∈ xs ∧ c = .ret ∧ Boxed W (w.heap.size + 1) 4 (.bool true) ∧ Below w.heap.size w W
theorem HI.own (w : World) (k n : Nat) (hn : w.heap.size + 2 ≤ n) : OwnFrom n (HI w k) := by
  rintro s A B row ⟨⟨x0, x1⟩, x3, x4, x5⟩ hg hr
  exact ⟨⟨kept_low hg hr (by omega) x0, kept_low hg hr (by omega) x1⟩, x3, ownFrom_below (β := Unit) (Nat.le_refl _) (by omega) () A B row x4 hg hr, Nat.le_trans x5 hg.size⟩
theorem HIX.own (w : World) (k : Nat) (c : Code) (n : Nat) (hn : w.heap.size + 2 ≤ n) : OwnFrom n (HIX w k c) := by
  rintro s A B row ⟨h1, h2, h5, h6⟩ hg hr
  exact ⟨h1, h2, kept_low hg hr (by omega) h5, ownFrom_below (β := Unit) (Nat.le_refl _) (by omega) () A B row h6 hg hr⟩
set_option maxRecDepth 100000 in
set_option maxHeartbeats 2000000 in
theorem has_path (lb : Array Value) (xs : List Nat) (k : Nat) (w : World) (hk : k ≤ 40) (hx : ∀ x ∈ xs, x ≤ 40)
    (hseq : ∀ W0, Below w.heap.size w W0 → SeqStopsK Fence.wide 8 Try.prog 139 lb encN (Below w.heap.size) (fun ys => ys = xs) (fun pre => pre <+: xs) xs.length W0) :
    Calls Try.prog 116 #[.func (.func 139) #[] lb, .int .i64 (k : Int)] w
      fun e w' => e = .returned (.bool (decide (k ∈ xs))) ∧ Below w.heap.size w w' := by
  refine (callsIn_wide (n := 9)).1 ?_
  refine callsIn_of_wp_marks Try.func116 rfl trivial ?_ rfl
  simp only [Try.ntmps116, List.size_toArray, List.length_cons, List.length_nil, Nat.reduceAdd, Nat.reduceSub, Array.replicate_succ, Array.replicate_zero, List.push_toArray, List.append_toArray, List.nil_append, List.cons_append]
  gi_wp2
  have hI0 : HI w k [] ((w.alloc (.cells #[.int .i64 (k : Int)] 3)).alloc (.cells #[.bool false] 4)) := by
    refine ⟨⟨(Boxed.new w 3 (.int .i64 (k : Int))).alloc _, ?_⟩, fun x h => by simp at h, bel_alloc (bel_alloc (Below.refl _ _) _) _, by simp⟩
    have := Boxed.new (w.alloc (.cells #[.int .i64 (k : Int)] 3)) 4 (.bool false)
    rwa [World.size_alloc] at this
  obtain ⟨W0, hW0⟩ : ∃ W0, (w.alloc (.cells #[.int .i64 (k : Int)] 3)).alloc (.cells #[.bool false] 4) = W0 := ⟨_, rfl⟩
  rw [hW0] at hI0 ⊢
  clear hW0
  have hsz := hI0.2.2.2
  refine wpIn_rangeFunc_ownF rfl (by omega) (gf := 139) (lb := lb) rfl trivial (enters_of Try.func139 (by kernel_rfl) rfl)
    (hseq W0 hI0.2.2.1) Below.trans (fun W l o o' hl hW h1 h2 => belowK_b (w := W0) (by omega) W l o o' hl hW h1 h2) (Below.refl _ _) (fun _ => rfl)
    (HI w k) (HIX w k) (HI.own w k _ hsz) (fun c => HIX.own w k c _ hsz) hI0
    (fun x => { tmps := #[.func (.func 139) #[] lb, .int .i64 (k : Int), undef, .pointer (some ⟨w.heap.size, 0, none⟩), .pointer (some ⟨w.heap.size + 1, 0, none⟩), .int .i64 ((x : Nat) : Int), .func (.func 139) #[] lb, .int .i64 ((x : Nat) : Int), undef, undef, undef], defers := [] }) ?assign ?body ?done ?stop
  case assign =>
    intro l x W K hK
    unfold encN
    gi_wp2
    exact hK
  case body =>
    rintro l pre x W ⟨⟨b0, b1⟩, hne, hB, hws⟩ hlen
    have hws' := hB.size
    have c0 := b0.cell
    have c1 := b1.cell
    have f1 := b1.frozen
    have HNE := Lib.hid hne
    have HBB := Lib.hid hB
    have HB1 := Lib.hid b1
    have HB0 := Lib.hid b0
    clear hne hB b0 b1
    by_cases hq : x = k
    · subst hq
      gi_wp2
      refine ⟨KeepsOthers.setCell _ _ _, by simp, rfl, HB1.out.set _, HBB.out.setCell (p := ⟨w.heap.size + 1, 0, none⟩) (by simp) _⟩
    · have hq' : ((x : Int) == (k : Int)) = false := by simp; omega
      gi_wp2
      refine ⟨KeepsOthers.refl _, Below.refl _ _, ⟨HB0.out, HB1.out⟩, ?_, HBB.out, hws⟩
      intro y hy
      simp only [List.mem_append, List.mem_singleton] at hy
      rcases hy with hy | rfl
      · exact HNE.out y hy
      · exact hq
  case done =>
    rintro D ys W hD rfl ⟨⟨b0, b1⟩, hne, hB, hws⟩ hK
    have c1 := b1.cell
    have f1 := b1.frozen
    have hres : Hid (decide (k ∈ ys) = false) := Lib.hid (decide_eq_false fun h => hne k h rfl)
    have HBB := Lib.hid hB
    have HB1 := Lib.hid b1
    clear hB b1 b0 hne
    gi_wp2
    have hK' := (KeepsOthers.setCell W ⟨w.heap.size + 1, 0, none⟩ (.bool false)).same D _ hK rfl
    refine ⟨by simp, .inl ⟨_, _, rfl, run_takeDeferred hK', ?_⟩⟩
    have e1 := cell_kept (HB1.out.set (.bool false)).cell (grownBy_putObj' _ D (.deferred none)) (fun r e => by cases e; exact ⟨_, hK', rfl⟩)
    refine ⟨.bool false, by simp [results, Try.f116, go_sem, e1], by rw [hres.out], ?_⟩
    exact (HBB.out.setCell (p := ⟨w.heap.size + 1, 0, none⟩) (by simp) _).trans (belowK_b (w := w) (Nat.le_refl _) _ D _ _ (by omega) hK' rfl rfl)
  case stop =>
    rintro D c pre W hD hpre ⟨hk, rfl, b1, hB⟩ hK
    have hres : Hid (decide (k ∈ xs) = true) := Lib.hid (decide_eq_true (hpre.subset hk))
    gi_wp2
    refine ⟨by simp, .inl ⟨_, _, rfl, run_takeDeferred hK, ?_⟩⟩
    have e1 := cell_kept b1.cell (grownBy_putObj' _ D (.deferred none)) (fun r e => by cases e; exact ⟨_, hK, rfl⟩)
    refine ⟨.bool true, by simp [results, Try.f116, go_sem, e1], by rw [hres.out], ?_⟩
    exact hB.trans (belowK_b (w := w) (Nat.le_refl _) _ D _ _ (by omega) hK rfl rfl)
end Go.Proofs.Ytkhmlbkkdflnoaa.Nm
