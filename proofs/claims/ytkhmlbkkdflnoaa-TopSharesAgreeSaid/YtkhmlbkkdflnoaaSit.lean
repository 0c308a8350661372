/-
  THE MEMORY OF A SITE, and sets of texts.
-/
import Derived.Test.YtkhmlbkkdflnoaaNamc
import Derived.Maps.Own
import Derived.Maps.OwnOps
import Derived.Maps.Views
import Derived.StringKeys
namespace Go.Proofs.Ytkhmlbkkdflnoaa.Nm
open Go.RowKit Go.Proofs.Ytkhmlbkkdflnoaa Go Go.Maps Go.WideMaps
set_option linter.unusedVariables false
attribute [local go_sem ↓] Go.wp_at_zero Go.wp_at_succ

/-- block b is a set of at most n texts: just those of S -/
def TM (W : World) (b n : Nat) (S : List (List UInt8)) : Prop :=
  ∃ D : DataW Unit, W.ownsMap Try.prog 9 (plainElem Try.prog 4) b n D ∧ ∀ x : ByteArray, x.size ≤ maxLen → D.atKey (.string x.data.toList) (.lit (.bool false)) = .lit (.bool (decide (x.data.toList ∈ S)))
theorem TM.made (W : World) : TM (W.alloc (.map #[] 0)) W.heap.size 0 [] := ⟨.map [], World.ownsMap_made _ _ _ _, fun x _ => by simp [DataW.atKey]⟩
theorem TM.kept {W W' : World} {b n : Nat} {S : List (List UInt8)} {row : Option Nat} (h : TM W b n S) (hg : W.grownBy W' row) (hne : some b ≠ row) : TM W' b n S := by
  obtain ⟨D, h1, h2⟩ := h
  exact ⟨D, h1.kept hg (by simpa using hne), h2⟩
theorem strLaw : Keyed Try.prog 9 := string_keyed Try.underlying9
set_option maxRecDepth 100000 in
theorem TM.lookup {W : World} {b n : Nat} {S : List (List UInt8)} (h : TM W b n S) (x : ByteArray) (hw : x.size ≤ maxLen) :
    (Instr.lookup 199 (.map (some b)) (.string x) false).run Try.prog W = .ok (.bool (decide (x.data.toList ∈ S))) W := by
  obtain ⟨D, h1, h2⟩ := h
  obtain ⟨v, ps, hrun, hv⟩ := h1.lookup strLaw Try.underlying199 (z := .bool false) (by kernel_rfl) (plainElem_bool Try.underlying4 false) (keyOf_string_mk Try.underlying9 hw)
  rw [h2 x hw] at hv
  unfold plainElem at hv
  rw [Try.underlying4] at hv
  cases v <;> simp at hv
  rw [hrun, hv.1]
set_option maxRecDepth 100000 in
theorem TM.update {W : World} {b n : Nat} {S : List (List UInt8)} (h : TM W b n S) (hn : n < 1000) (x : ByteArray) (hw : x.size ≤ maxLen) :
    ∃ W', (Instr.mapUpdate 199 (.map (some b)) (.string x) (.bool true)).run Try.prog W = .ok () W' ∧ TM W' b (n + 1) (x.data.toList :: S) ∧ W.grownBy W' (some b) := by
  obtain ⟨D, h1, h2⟩ := h
  obtain ⟨W', hrun, ho, hg⟩ := h1.update strLaw Try.underlying199 (by unfold maxLen; omega) (keyOf_string_mk Try.underlying9 hw) (plainElem_bool Try.underlying4 true)
  refine ⟨W', hrun, ⟨_, ho, fun y hy => ?_⟩, hg⟩
  by_cases e : y.data.toList = x.data.toList
  · rw [e, atKey_put_same h1.isMap (strLaw.key (keyOf_string_mk Try.underlying9 hw))]
    simp
  · rw [atKey_put_other (fun h => e (by simpa using h)), h2 y hy]
    simp [e]
theorem wpList_lookup_TM (w : World) {ops : Array Oper} {rest : List Oper} {o : Oper} {a : Act} {Q : Exit → Act → World → Prop}
    (hg : o.guard = none) (m x : Operand) (hop : o.op = Op.lookup 199 m x false) (b n : Nat) (S : List (List UInt8)) (hm : a.eval m = .map (some b)) (hS : TM w b n S) (p : ByteArray) (hx : a.eval x = .string p) (hw : p.size ≤ maxLen)
    (hK : wpList Try.prog ops Q rest (a.put o.dst (.bool (decide (p.data.toList ∈ S)))) w) : wpList Try.prog ops Q (o :: rest) a w := by
  refine wpList_plain hg fun K' hK' => ?_
  have hrun := hS.lookup p hw
  unfold Oper.wp
  simp [execOp, hop, hm, hx, hrun, Result.andThen]
  exact hK' _ _ hK
theorem wpList_update_TM (w : World) {ops : Array Oper} {rest : List Oper} {o : Oper} {a : Act} {Q : Exit → Act → World → Prop}
    (hg : o.guard = none) (m x y : Operand) (hop : o.op = Op.mapUpdate 199 m x y) (b n : Nat) (S : List (List UInt8)) (hm : a.eval m = .map (some b)) (hS : TM w b n S) (hn : n < 1000) (p : ByteArray) (hx : a.eval x = .string p) (hy : a.eval y = .bool true) (hw : p.size ≤ maxLen)
    (hK : ∀ w', TM w' b (n + 1) (p.data.toList :: S) → w.grownBy w' (some b) → wpList Try.prog ops Q rest (a.put o.dst undef) w') : wpList Try.prog ops Q (o :: rest) a w := by
  refine wpList_plain hg fun K' hK' => ?_
  obtain ⟨w', hrun, h1, h2⟩ := hS.update hn p hw
  unfold Oper.wp
  simp [execOp, hop, hm, hx, hy, hrun, Result.andThen]
  exact hK' _ _ (hK w' h1 h2)

/-- rows of k cells: a text, then numbers -/
def RV (w : World) (A : Option Addr) (k n : Nat) (N : Nat → ByteArray) (Z : Nat → Nat → Int) : Prop := ∀ i, i < n → ∃ b o, A = some ⟨b, o, none⟩ ∧ b < w.heap.size ∧ w.cell? ⟨b, o + i * k, none⟩ = some (.string (N i)) ∧ ∀ j, 1 ≤ j → j < k → w.cell? ⟨b, o + i * k + j, none⟩ = some (.int .i64 (Z i j))
theorem RV.keep {w w' : World} {A : Option Addr} {k n : Nat} {N : Nat → ByteArray} {Z : Nat → Nat → Int} (x : RV w A k n N Z) (hb : Below w.heap.size w w') : RV w' A k n N Z := fun i hi => by
  obtain ⟨b, o, e, hl, hc, hz⟩ := x i hi
  exact ⟨b, o, e, Nat.lt_of_lt_of_le hl hb.size, old_at hc hb, fun j h1 h2 => old_at (hz j h1 h2) hb⟩
/-- a site: five tables (conductors, owners, contracts, chargers, bays) -/
structure Sit where
  A : Nat → Option Addr
  n : Nat → Nat
  c : Nat → Nat
  N : Nat → Nat → ByteArray
  Z : Nat → Nat → Nat → Int
def wid : Nat → Nat
  | 0 => 11
  | 1 => 1
  | 2 => 4
  | 3 => 8
  | _ => 2
def Sit.sl (S : Sit) (t : Nat) : Value := .slice (S.A t) (S.n t) (S.c t)
structure SM5 (w : World) (S : Sit) : Prop where
  rows : ∀ t, t < 5 → RV w (S.A t) (wid t) (S.n t) (S.N t) (S.Z t)
  few : ∀ t, t < 5 → S.n t ≤ 40
  cap : ∀ t, t < 5 → S.n t ≤ S.c t ∧ S.c t ≤ 9223372036854775807
  short : ∀ t, t < 5 → ∀ i, i < S.n t → (S.N t i).size ≤ maxLen
  none : ∀ t, t < 5 → S.A t = none → S.n t = 0
theorem SM5.keep {w w' : World} {S : Sit} (x : SM5 w S) (hb : Below w.heap.size w w') : SM5 w' S := ⟨fun t h => (x.rows t h).keep hb, x.few, x.cap, x.short, x.none⟩
/-- all names of the first t tables, in order -/
def Sit.names (S : Sit) : Nat → List ByteArray
  | 0 => []
  | t + 1 => S.names t ++ (List.range (S.n t)).map (S.N t)
set_option maxHeartbeats 1000000 in
theorem has_any (A : Option Addr) (n c : Nat) (L : Nat → ByteArray) (s : ByteArray) (w : World) (hn : n ≤ 1000) (hR : RS w A n L) :
    Calls Try.prog 110 #[.slice A n c, .string s] w fun e w' => (∃ r : Bool, e = .returned (.bool r) ∧ (r = false → ∀ i, i < n → ((L i).toList == s.toList) = false)) ∧ w' = w := by
  have HR := Lib.hid hR
  clear hR
  go_enter Try.func110, Try.ntmps110
  go_wp2
  go_loopw [5] (fun i wr => ∃ k : Nat, k ≤ n ∧ i = .int .i64 k ∧ (∀ j, j < k → ((L j).toList == s.toList) = false) ∧ w = wr) (fun i _ => n - (intOf i).toNat)
  case atStart => exact ⟨0, by omega, rfl, fun j h => absurd h (by omega), rfl⟩
  case round =>
    obtain ⟨k, hk, rfl, hall, rfl⟩ := hrel
    have HA := Lib.hid hall
    clear hall
    by_cases hlt : k < n
    · obtain ⟨b, o, rfl, hl, hc⟩ := HR.out k hlt
      cases he : ((L k).toList == s.toList)
      · have HE := Lib.hid he
        go_wp2
        all_goals (try (exfalso; omega))
        go_roundw
        case rel => exact ⟨k + 1, by omega, by go_num, all_snoc HA.out HE.out, by simp⟩
        case measure => simp [intOf] <;> omega
      · go_wp2
        all_goals (try (exfalso; omega))
        go_ret
        exact ⟨⟨_, rfl, fun h => by cases h⟩, rfl⟩
    · obtain rfl : k = n := by omega
      go_wp2
      all_goals (try (exfalso; omega))
      go_ret
      exact ⟨⟨_, rfl, fun _ => HA.out⟩, rfl⟩
end Go.Proofs.Ytkhmlbkkdflnoaa.Nm
