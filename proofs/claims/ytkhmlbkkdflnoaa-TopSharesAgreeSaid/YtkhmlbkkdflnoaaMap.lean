/-
  THE MAP of package settle: a set of pairs (host, session).
-/
import Derived.Test.YtkhmlbkkdflnoaaPost
import Derived.Maps.Own
import Derived.Maps.OwnOps
import Derived.Maps.OwnSet
import Derived.Maps.Views
import Derived.DeepKeys5
namespace Go.Proofs.Ytkhmlbkkdflnoaa
open Go.RowKit Go.Maps

theorem keyLaw : Keyed Try.prog 114 := Keyed.of_law (deep_law_gate laidOut (by decide +kernel) (by decide +kernel) (by kernel_rfl) (by kernel_rfl))
theorem key_type : Try.prog.keyType 114 = true := by kernel_rfl
theorem key_cells : Try.prog.cellsOf 114 = 2 := by kernel_rfl
theorem int_cells : Try.prog.cellsOf 3 = 1 := by kernel_rfl
theorem types_pos : 0 < Try.prog.types.size := by decide +kernel
theorem key_lit (h s : Int) (wh : (Lit.int .i64 h).wf = true) (ws : (Lit.int .i64 s).wf = true) : ∃ kl, keyOf Try.prog 114 (.agg #[.int .i64 h, .int .i64 s]) = some kl := by
  obtain ⟨N, hN⟩ : ∃ N, Try.prog.types.size = N + 1 := ⟨Try.prog.types.size - 1, by have := types_pos; omega⟩
  have e1 : Try.prog.keyLits (Try.prog.types.size + 1) 114 (Value.agg #[.int .i64 h, .int .i64 s]).cells.toList = some [.int .i64 h, .int .i64 s] := by
    rw [hN]
    simp [Program.keyLits, Try.underlying114, Try.underlying3, key_cells, int_cells, Value.cells, wh, ws]
  refine ⟨.string (keyBytes [.int .i64 h, .int .i64 s]), ?_⟩
  unfold keyOf
  rw [Try.underlying114]
  simp only [key_type, Value.formed, Try.underlying114, key_cells, e1]
  rfl
/-- the key of a pair -/
noncomputable def kL (h s : Int) : Lit := (keyOf Try.prog 114 (.agg #[.int .i64 h, .int .i64 s])).getD (.bool false)
theorem kL_key {h s : Int} (wh : (Lit.int .i64 h).wf = true) (ws : (Lit.int .i64 s).wf = true) : keyOf Try.prog 114 (.agg #[.int .i64 h, .int .i64 s]) = some (kL h s) := by
  obtain ⟨kl, x⟩ := key_lit h s wh ws
  unfold kL
  rw [x]
  rfl
theorem kL_inj {h s h' s' : Int} (wh : (Lit.int .i64 h).wf = true) (ws : (Lit.int .i64 s).wf = true) (wh' : (Lit.int .i64 h').wf = true) (ws' : (Lit.int .i64 s').wf = true) (e : kL h s = kL h' s') : h = h' ∧ s = s' := by
  have h1 := kL_key wh ws
  have h2 := kL_key wh' ws'
  rw [e] at h1
  have := keyLaw.inj h1 h2
  simp at this
  exact this
def wf2 (x : Int × Int) : Prop := (Lit.int .i64 x.1).wf = true ∧ (Lit.int .i64 x.2).wf = true
/-- block b is a set of at most n pairs: just those of S -/
def SM (W : World) (b n : Nat) (S : List (Int × Int)) : Prop :=
  ∃ D : DataW Unit, W.ownsMap Try.prog 114 (plainElem Try.prog 4) b n D ∧ ∀ x, wf2 x → D.atKey (kL x.1 x.2) (.lit (.bool false)) = .lit (.bool (decide (x ∈ S)))
theorem SM.made (W : World) : SM (W.alloc (.map #[] 0)) W.heap.size 0 [] := ⟨.map [], World.ownsMap_made _ _ _ _, fun x _ => by simp [DataW.atKey]⟩
theorem SM.kept {W W' : World} {b n : Nat} {S : List (Int × Int)} {row : Option Nat} (h : SM W b n S) (hg : W.grownBy W' row) (hne : some b ≠ row) : SM W' b n S := by
  obtain ⟨D, h1, h2⟩ := h
  exact ⟨D, h1.kept hg (by simpa using hne), h2⟩
set_option maxRecDepth 100000 in
theorem SM.lookup {W : World} {b n : Nat} {S : List (Int × Int)} (h : SM W b n S) (x : Int × Int) (hw : wf2 x) :
    (Instr.lookup 112 (.map (some b)) (.agg #[.int .i64 x.1, .int .i64 x.2]) false).run Try.prog W = .ok (.bool (decide (x ∈ S))) W := by
  obtain ⟨D, h1, h2⟩ := h
  obtain ⟨v, ps, hrun, hv⟩ := h1.lookup keyLaw Try.underlying112 (z := .bool false) (by kernel_rfl) (plainElem_bool Try.underlying4 false) (kL_key hw.1 hw.2)
  rw [h2 x hw] at hv
  unfold plainElem at hv
  rw [Try.underlying4] at hv
  cases v <;> simp at hv
  rw [hrun, hv.1]
set_option maxRecDepth 100000 in
theorem SM.update {W : World} {b n : Nat} {S : List (Int × Int)} (h : SM W b n S) (hn : n < 1000) (x : Int × Int) (hw : wf2 x) :
    ∃ W', (Instr.mapUpdate 112 (.map (some b)) (.agg #[.int .i64 x.1, .int .i64 x.2]) (.bool true)).run Try.prog W = .ok () W' ∧ SM W' b (n + 1) (x :: S) ∧ W.grownBy W' (some b) := by
  obtain ⟨D, h1, h2⟩ := h
  obtain ⟨W', hrun, ho, hg⟩ := h1.update keyLaw Try.underlying112 (by unfold maxLen; omega) (kL_key hw.1 hw.2) (plainElem_bool Try.underlying4 true)
  refine ⟨W', hrun, ⟨_, ho, fun y hy => ?_⟩, hg⟩
  by_cases e : kL y.1 y.2 = kL x.1 x.2
  · have := kL_inj hy.1 hy.2 hw.1 hw.2 e
    have exy : y = x := Prod.ext this.1 this.2
    subst exy
    rw [atKey_put_same h1.isMap (keyLaw.key (kL_key hw.1 hw.2))]
    simp
  · rw [atKey_put_other e, h2 y hy]
    have : y ≠ x := fun exy => e (by rw [exy])
    simp [this]
end Go.Proofs.Ytkhmlbkkdflnoaa
