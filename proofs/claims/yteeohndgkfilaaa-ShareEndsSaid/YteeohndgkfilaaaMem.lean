/-
  MEMORY of package share: rows of numbers and of transfers; copying onto a row of one's own.
-/
import Derived.Test.YteeohndgkfilaaaRows
import Derived.WalkKit
import Derived.WalkSpells
import Derived.WalkLawsBesides
import Derived.BigGuardPart
import Derived.StillTailTactics
import Derived.Deep.QuietTactic
import Derived.BigQuiet
import Derived.IntWalk
import Derived.Lib.Hide
import Derived.Outline
import Derived.Deep.RegionHeld3
import Derived.Deep.RegionLaw
import Derived.Deep.DrawnRows
import Derived.Deep.AppendLies
import Derived.Deep.DeepCutAuto
import Derived.Handy
import Derived.Laws.CopyOwn
namespace Go.Proofs.Yteeohndgkfilaaa
open Go.RowKit
set_option linter.unusedVariables false

theorem ret_bool {a b : Bool} (h : a = b) : Ending.returned (.bool a) = .returned (.bool b) := by rw [h]
theorem bel_alloc {a w : World} (h : Below a.heap.size a w) (o : Obj) : Below a.heap.size a (w.alloc o) := h.alloc h.size o
theorem bel_step {w0 w w' : World} (h : Below w0.heap.size w0 w) (hb : Below w.heap.size w w') : Below w0.heap.size w0 w' := h.trans (hb.mono h.size)
theorem bel_a (w : World) (o : Obj) : Below w.heap.size w (w.alloc o) := bel_alloc (Below.refl _ _) o
theorem below_drewN {B : Nat} {a w : World} (h : Below B a w) (n : Nat) : Below B a (w.drewN n) := ⟨h.os, h.tape, h.output, h.size, h.block⟩
theorem old_at {w w' : World} {q : Addr} {v : Value} (h : w.cell? q = some v) (hb : Below w.heap.size w w') : w'.cell? q = some v := (hb.cell (World.block_lt_of_cell? w q h)).trans h
theorem all_snoc {P : Nat → Prop} {k : Nat} (h : ∀ j, j < k → P j) (hk : P k) : ∀ j, j < k + 1 → P j := fun j hj => by
  rcases Nat.lt_or_ge j k with h' | h'
  · exact h j h'
  · obtain rfl : j = k := by omega
    exact hk
theorem not_true {b : Bool} (h : b = true → False) : b = false := by cases b <;> simp_all

/-- the cells cs lie at A -/
def RL (w : World) (A : Option Addr) (cs : List Value) : Prop := ∀ j v, cs[j]? = some v → ∃ b o, A = some ⟨b, o, none⟩ ∧ b < w.heap.size ∧ w.cell? ⟨b, o + j, none⟩ = some v
theorem RL.keep {w w' : World} {A : Option Addr} {cs : List Value} (x : RL w A cs) (hb : Below w.heap.size w w') : RL w' A cs := fun j v hv => by
  obtain ⟨b, o, e, hl, hc⟩ := x j v hv
  exact ⟨b, o, e, Nat.lt_of_lt_of_le hl hb.size, old_at hc hb⟩
theorem RL_nil {w : World} {A : Option Addr} : RL w A [] := fun j v hv => by simp at hv
/-- block g holds these cells, and no more -/
def OW (w : World) (g : Nat) (t : TypeId) (cs : List Value) : Prop := w.heap[g]? = some (.cells cs.toArray t (0, 0))
theorem OW.lt {w : World} {g : Nat} {t : TypeId} {cs : List Value} (h : OW w g t cs) : g < w.heap.size := (Array.getElem?_eq_some_iff.1 h).1
theorem OW.keep {w w' : World} {g : Nat} {t : TypeId} {cs : List Value} (h : OW w g t cs) (hb : Below w.heap.size w w') : OW w' g t cs := (hb.block _ h.lt).trans h
theorem OW.at {w : World} {g : Nat} {t : TypeId} {cs : List Value} (h : OW w g t cs) {j : Nat} {v : Value} (hv : cs[j]? = some v) : w.cell? ⟨g, j, none⟩ = some v := by
  rw [cell_of_row w g j cs.toArray t (0, 0) h]; simpa using hv
theorem OW.thaw {w : World} {g : Nat} {t : TypeId} {cs : List Value} (h : OW w g t cs) (j : Nat) : w.frozen? ⟨g, j, none⟩ = false := by
  have h' : w.heap[g]? = some (.cells cs.toArray t (0, 0)) := h
  simp [World.frozen?, h']
theorem OW.rl {w : World} {g : Nat} {t : TypeId} {cs : List Value} (h : OW w g t cs) : RL w (some ⟨g, 0, none⟩) cs := fun j v hv => ⟨g, 0, rfl, h.lt, by rw [Nat.zero_add]; exact h.at hv⟩
theorem OW.drop {w : World} {g : Nat} {t : TypeId} {cs : List Value} (h : OW w g t cs) (k : Nat) : RL w (some ⟨g, k, none⟩) (cs.drop k) := fun j v hv => by
  refine ⟨g, k, rfl, h.lt, h.at ?_⟩
  simpa using hv
theorem OW.new (w : World) (t : TypeId) (cs : List Value) : OW (w.alloc (.cells cs.toArray t)) w.heap.size t cs := heap_alloc_new _ _
theorem OW.set {w : World} {g : Nat} {t : TypeId} {cs : List Value} (h : OW w g t cs) (j : Nat) (v : Value) : OW (w.setCell ⟨g, j, none⟩ v) g t (cs.set j v) := by
  have h' : w.heap[g]? = some (.cells cs.toArray t (0, 0)) := h
  show _ = _
  simp [World.setCell, Array.getElem?_modify, h']
theorem OW.far {w : World} {g : Nat} {t : TypeId} {cs : List Value} (h : OW w g t cs) {b : Nat} (hb : b ≠ g) (j : Nat) (v : Value) : OW (w.setCell ⟨b, j, none⟩ v) g t cs := by
  have : (w.setCell ⟨b, j, none⟩ v).heap[g]? = w.heap[g]? := Below.heap_setCell w ⟨b, j, none⟩ v g (fun e => hb e.symm)
  exact this.trans h

/-- numbers as cells -/
def cI (l : List Int) : List Value := l.map fun x => .int .i64 x
/-- transfers as cells -/
def cT : List (Int × Int) → List Value
  | [] => []
  | p :: l => .int .i64 p.1 :: .int .i64 p.2 :: cT l
theorem cI_len (l : List Int) : (cI l).length = l.length := by simp [cI]
theorem cT_len (l : List (Int × Int)) : (cT l).length = l.length * 2 := by
  induction l with
  | nil => rfl
  | cons p l ih => simp [cT, ih]; omega
theorem cI_get {l : List Int} {i : Nat} {x : Int} (h : l[i]? = some x) : (cI l)[i]? = some (.int .i64 x) := by simp [cI, h]
theorem cT_get : ∀ {l : List (Int × Int)} {i : Nat} {p : Int × Int}, l[i]? = some p → (cT l)[i * 2]? = some (.int .i64 p.1) ∧ (cT l)[i * 2 + 1]? = some (.int .i64 p.2) := by
  intro l
  induction l with
  | nil => intro i p h; simp at h
  | cons q l ih =>
    intro i p h
    cases i with
    | zero => simp at h; subst h; exact ⟨rfl, rfl⟩
    | succ i =>
      have h' : l[i]? = some p := by simpa using h
      obtain ⟨h1, h2⟩ := ih h'
      rw [show (i + 1) * 2 = i * 2 + 1 + 1 by omega]
      exact ⟨by simpa [cT] using h1, by simpa [cT] using h2⟩
theorem cI_one (l : List Int) : ∀ v ∈ cI l, v.oneCell' = true := by
  intro v hv
  obtain ⟨_, _, rfl⟩ := List.mem_map.1 hv
  rfl
theorem cT_one (l : List (Int × Int)) : ∀ v ∈ cT l, v.oneCell' = true := by
  induction l with
  | nil => intro v hv; simp [cT] at hv
  | cons p l ih =>
    intro v hv
    simp only [cT, List.mem_cons] at hv
    rcases hv with rfl | rfl | h
    · rfl
    · rfl
    · exact ih v h
theorem cI_app (l m : List Int) : cI (l ++ m) = cI l ++ cI m := by simp [cI]
theorem cT_app (l m : List (Int × Int)) : cT (l ++ m) = cT l ++ cT m := by
  induction l with
  | nil => rfl
  | cons p l ih => simp [cT, ih]
theorem cI_take (l : List Int) (k : Nat) : (cI l).take k = cI (l.take k) := by simp [cI]
theorem cI_drop (l : List Int) (k : Nat) : (cI l).drop k = cI (l.drop k) := by simp [cI]
theorem cT_take : ∀ (l : List (Int × Int)) (k : Nat), (cT l).take (k * 2) = cT (l.take k) := by
  intro l
  induction l with
  | nil => intro k; simp [cT]
  | cons p l ih =>
    intro k
    cases k with
    | zero => simp [cT]
    | succ k => rw [show (k + 1) * 2 = k * 2 + 1 + 1 by omega]; simp [cT, ih]
theorem cT_drop : ∀ (l : List (Int × Int)) (k : Nat), (cT l).drop (k * 2) = cT (l.drop k) := by
  intro l
  induction l with
  | nil => intro k; simp [cT]
  | cons p l ih =>
    intro k
    cases k with
    | zero => simp
    | succ k => rw [show (k + 1) * 2 = k * 2 + 1 + 1 by omega]; simp [cT, ih]
theorem RL.take {w : World} {A : Option Addr} {cs : List Value} (x : RL w A cs) (k : Nat) : RL w A (cs.take k) := fun j v hv => by
  rw [List.getElem?_take] at hv
  split at hv
  · exact x j v hv
  · cases hv

section
variable {P : Program}
/-- copy, of elements of size s, onto a row known whole -/
theorem run_copy_sz (w : World) (dT sT ty elem : TypeId) (i : TypeInfo) (g o dLen dCap : Nat) (A : Option Addr) (sLen sCap s : Nat) (cur cs : List Value) (t : TypeId)
    (hu : P.underlying dT = some (.slice elem)) (hi : P.info? elem = some i) (hs : i.size = s)
    (hg : OW w g t cur) (hn : cs.length = Nat.min sLen dLen * s) (hsrc : RL w A cs) (hnil : A = none → sLen = 0 ∧ sCap = 0) (hfit : o + cs.length ≤ cur.length) (h1 : ∀ v ∈ cs, v.oneCell' = true) (hs0 : 0 < s) :
    ∃ w', (Builtin.copy_ #[dT, sT] ty #[.slice (some ⟨g, o, none⟩) dLen dCap, .slice A sLen sCap]).run P w = .ok (goInt (Nat.min sLen dLen)) w' ∧ OW w' g t (splice cur o cs) ∧ w.grownBy w' (some g) := by
  subst hs
  have hn' : cs.length = min sLen dLen * i.size := hn
  cases A with
  | none =>
    obtain ⟨rfl, rfl⟩ := hnil rfl
    have hm : Nat.min 0 dLen = 0 := Nat.zero_min dLen
    rw [hm, Nat.zero_mul] at hn
    obtain rfl : cs = [] := List.eq_nil_of_length_eq_zero hn
    refine ⟨w, ?_, by simpa [splice] using hg, ⟨rfl, rfl, rfl, Nat.le_refl _, fun _ _ _ => rfl⟩⟩
    simp [Builtin.copy_, run_underlying hu, Builtin.lenOf, Builtin.firstCells, sizeOf, typeInfo, hi, storeCells, hm]
  | some ad =>
    have hl := run_loadCells_list (P := P) w ad cs (fun j v hv => by
      obtain ⟨b, o', e, _, hc⟩ := hsrc j v hv
      cases e
      rw [Addr.add_lit]; exact hc)
    have hst := run_storeCells_at P g o t cs 0 cur.toArray w hg (by simpa using hfit) h1
    refine ⟨w.setRow g (splice cur o cs).toArray, ?_, setRow_heap w g _ _ t _ hg, ⟨rfl, rfl, rfl, by simp [World.setRow], fun k _ hk => setRow_other w g k _ (fun e => hk (by rw [e]))⟩⟩
    have hN : Nat.min sLen dLen = min sLen dLen := rfl
    simp [Builtin.copy_, run_underlying hu, Builtin.lenOf, Builtin.firstCells, sizeOf, typeInfo, hi, ← hn', hN, hl, hst, splice]

theorem wp_copy (w : World) {o : Oper} {a : Act} {K : Act → World → Prop} {Q : Exit → Act → World → Prop} (d x : Operand) (t : TypeId)
    (ho : o.op = .call { callee := .builtin .copy, args := #[d, x], argTypes := #[t, t] }) (elem : TypeId) (i : TypeInfo) (s : Nat)
    (hu : P.underlying t = some (.slice elem)) (hi : P.info? elem = some i) (hs : i.size = s) (hs0 : 0 < s)
    (g off dLen dCap : Nat) (hd : a.eval d = .slice (some ⟨g, off, none⟩) dLen dCap) (A : Option Addr) (sLen sCap : Nat) (hx : a.eval x = .slice A sLen sCap)
    (cur cs : List Value) (hg : OW w g elem cur) (hn : cs.length = Nat.min sLen dLen * s) (hsrc : RL w A cs) (hnil : A = none → sLen = 0 ∧ sCap = 0) (hfit : off + cs.length ≤ cur.length) (h1 : ∀ v ∈ cs, v.oneCell' = true)
    (h : ∀ w', OW w' g elem (splice cur off cs) → w.grownBy w' (some g) → K (a.put o.dst (goInt (Nat.min sLen dLen))) w') : o.wp P a w K Q := by
  obtain ⟨w', hr, h2, h3⟩ := run_copy_sz (P := P) w t t o.type elem i g off dLen dCap A sLen sCap s cur cs elem hu hi hs hg hn hsrc hnil hfit h1 hs0
  unfold Oper.wp execOp
  simp only [ho, resolve, invoke, builtin, Sem.run_bind, Sem.run_pure, Result.andThen_ok, List.map_toArray, List.map_cons, List.map_nil, hd, hx, hr]
  exact h w' h2 h3
theorem wpList_copy (w : World) {ops : Array Oper} {rest : List Oper} {o : Oper} {a : Act} {Q : Exit → Act → World → Prop} (hgd : o.guard = none) (d x : Operand) (t : TypeId)
    (ho : o.op = .call { callee := .builtin .copy, args := #[d, x], argTypes := #[t, t] }) (elem : TypeId) (i : TypeInfo) (s : Nat)
    (hu : P.underlying t = some (.slice elem)) (hi : P.info? elem = some i) (hs : i.size = s) (hs0 : 0 < s)
    (g off dLen dCap : Nat) (hd : a.eval d = .slice (some ⟨g, off, none⟩) dLen dCap) (A : Option Addr) (sLen sCap : Nat) (hx : a.eval x = .slice A sLen sCap)
    (cur cs : List Value) (hg : OW w g elem cur) (hn : cs.length = Nat.min sLen dLen * s) (hsrc : RL w A cs) (hnil : A = none → sLen = 0 ∧ sCap = 0) (hfit : off + cs.length ≤ cur.length) (h1 : ∀ v ∈ cs, v.oneCell' = true)
    (h : ∀ w', OW w' g elem (splice cur off cs) → w.grownBy w' (some g) → wpList P ops Q rest (a.put o.dst (goInt (Nat.min sLen dLen))) w') : wpList P ops Q (o :: rest) a w :=
  wpList_plain hgd fun K hK => wp_copy w d x t ho elem i s hu hi hs hs0 g off dLen dCap hd A sLen sCap hx cur cs hg hn hsrc hnil hfit h1 fun w' h2 h3 => hK _ _ (h w' h2 h3)
theorem step_copy (w : World) {ops : Array Oper} {o : Oper} {a : Act} {K : Act → World → Prop} {Q : Exit → Act → World → Prop} {E : Prop} (hgd : o.guard = none) (d x : Operand) (t : TypeId)
    (ho : o.op = .call { callee := .builtin .copy, args := #[d, x], argTypes := #[t, t] }) (elem : TypeId) (i : TypeInfo) (s : Nat)
    (hu : P.underlying t = some (.slice elem)) (hi : P.info? elem = some i) (hs : i.size = s) (hs0 : 0 < s)
    (g off dLen dCap : Nat) (hd : a.eval d = .slice (some ⟨g, off, none⟩) dLen dCap) (A : Option Addr) (sLen sCap : Nat) (hx : a.eval x = .slice A sLen sCap)
    (cur cs : List Value) (hg : OW w g elem cur) (hn : cs.length = Nat.min sLen dLen * s) (hsrc : RL w A cs) (hnil : A = none → sLen = 0 ∧ sCap = 0) (hfit : off + cs.length ≤ cur.length) (h1 : ∀ v ∈ cs, v.oneCell' = true)
    (h : ∀ w', OW w' g elem (splice cur off cs) → w.grownBy w' (some g) → K (a.put o.dst (goInt (Nat.min sLen dLen))) w') :
    if Region.wanted o (yielded ops a.tmps) = true then Oper.wp P o a w K Q else E := by
  have hw : Region.wanted o (yielded ops a.tmps) = true := by simp [Region.wanted, hgd]
  rw [if_pos hw]
  exact wp_copy w d x t ho elem i s hu hi hs hs0 g off dLen dCap hd A sLen sCap hx cur cs hg hn hsrc hnil hfit h1 h
end
end Go.Proofs.Yteeohndgkfilaaa
