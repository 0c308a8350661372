/-
  AN ARGUMENT OPENED: a site. (Printed by gen_stopen.py.)
-/
import Derived.Test.YtkhmlbkkdflnoaaLwa
import Derived.Test.YtkhmlbkkdflnoaaOpenInts
import Derived.Test.YtkhmlbkkdflnoaaPost
namespace Go.Proofs.Ytkhmlbkkdflnoaa.Nm
open Go.Joins Go.ChangeShapes Go.WideShapes Go.ChangeAt Go.RowKit Go.Deep

/-- cells of a thing with a name, all else numbers -/
def NRec (k : Nat) (cs : List Value) : Prop := ∃ (s : ByteArray) (z : Nat → Int), s.size ≤ maxLen ∧ cs[0]? = some (.string s) ∧ ∀ j, 1 ≤ j → j < k → cs[j]? = some (.int .i64 (z j))
theorem nrec_mk (s : ByteArray) (l : List Int) (hs : s.size ≤ maxLen) : NRec (l.length + 1) (.string s :: l.map (Value.int .i64)) := ⟨s, fun j => l.getD (j - 1) 0, hs, rfl, fun j h1 h2 => by
  obtain ⟨i, rfl⟩ : ∃ i, j = i + 1 := ⟨j - 1, by omega⟩
  have hi : i < l.length := by omega
  simp [hi]⟩
theorem skol2 {α : Type} [Inhabited α] {P : Nat → α → Prop} {n : Nat} (h : ∀ i, i < n → ∃ x, P i x) : ∃ f : Nat → α, ∀ i, i < n → P i (f i) := by
  classical
  refine ⟨fun i => if h' : i < n then Classical.choose (h i h') else default, fun i h' => ?_⟩
  simp only [dif_pos h']
  exact Classical.choose_spec (h i h')
theorem cellsOfCon : Try.prog.cellsOf 148 = 11 := by kernel_rfl
theorem cellsOfOwn : Try.prog.cellsOf 150 = 1 := by kernel_rfl
theorem cellsOfCtr : Try.prog.cellsOf 154 = 4 := by kernel_rfl
theorem cellsOfChr : Try.prog.cellsOf 83 = 8 := by kernel_rfl
theorem cellsOfBay : Try.prog.cellsOf 157 = 2 := by kernel_rfl
theorem cellsSite : Try.prog.cellsOf 80 = 5 := by kernel_rfl
theorem cellsLCon : Try.prog.cellsOf 74 = 1 := by kernel_rfl
theorem cellsLOwn : Try.prog.cellsOf 75 = 1 := by kernel_rfl
theorem cellsLCtr : Try.prog.cellsOf 76 = 1 := by kernel_rfl
theorem cellsLChr : Try.prog.cellsOf 77 = 1 := by kernel_rfl
theorem cellsLBay : Try.prog.cellsOf 78 = 1 := by kernel_rfl
theorem cellsFuse : Try.prog.cellsOf 144 = 2 := by kernel_rfl
theorem cellsCable : Try.prog.cellsOf 146 = 5 := by kernel_rfl
theorem cellsI : Try.prog.cellsOf 3 = 1 := by kernel_rfl
theorem cellsS : Try.prog.cellsOf 9 = 1 := by kernel_rfl
section
variable {H : Type} {enc : TypeId × Value → H} {W : World} {base : Nat} {sp : Nat → Bool} {held : Bool}
theorem open_rows {t e : TypeId} {k : Nat} (hk1 : 1 ≤ k) (ht : Try.prog.underlying t = some (.slice e)) (hk : Try.prog.cellsOf e = k) (hrec : ∀ (fuel : Nat) (cs : List Value) (x : DataW H × List MemPlace), DataW.trod enc Try.prog W base sp held fuel e cs = some x → NRec k cs)
    {fuel : Nat} {cs : List Value} {x : DataW H × List MemPlace} (h : DataW.trod enc Try.prog W base sp held fuel t cs = some x) :
    ∃ (A : Option Addr) (n c : Nat) (N : Nat → ByteArray) (Z : Nat → Nat → Int), cs = [.slice A n c] ∧ (n ≤ c ∧ c ≤ 9223372036854775807) ∧ (A = none → n = 0 ∧ c = 0) ∧ RV W A k n N Z ∧ ∀ i, i < n → (N i).size ≤ maxLen := by
  rcases open_slice ht h with ⟨hcs, _⟩ | ⟨a, len, cap, m, n, D, Pl, hcs, hb, hl, hm, hmm, _, hi⟩
  · exact ⟨none, 0, 0, fun _ => ⟨#[]⟩, fun _ _ => 0, hcs, by omega, fun _ => ⟨rfl, rfl⟩, fun i hi => absurd hi (by omega), fun i hi => absurd hi (by omega)⟩
  · have hle : len ≤ m := by rw [hmm]; split <;> omega
    have hall : ∀ i, i < len → ∃ q : ByteArray × (Nat → Int), q.1.size ≤ maxLen ∧ W.cell? ((a.add (i * k)).add 0) = some (.string q.1) ∧ ∀ j, 1 ≤ j → j < k → W.cell? ((a.add (i * k)).add j) = some (.int .i64 (q.2 j)) := by
      intro i h'
      obtain ⟨cs', hc, htr⟩ := hi i (by omega)
      rw [hk] at hc
      obtain ⟨s, z, hs, h0, hz⟩ := hrec _ _ _ htr
      obtain ⟨_, _, hat⟩ := World.cells?_some hc
      exact ⟨(s, z), hs, by rw [hat 0 (by omega)]; exact h0, fun j h1 h2 => by rw [hat j h2]; exact hz j h1 h2⟩
    obtain ⟨F, hF⟩ := skol2 hall
    refine ⟨some a, len, cap, fun i => (F i).1, fun i => (F i).2, hcs, ⟨hl, by unfold maxLen at hm; omega⟩, fun e => (by cases e), fun i h' => ?_, fun i h' => (hF i h').1⟩
    obtain ⟨b, o, spot⟩ := a
    have hspot : spot = none := by
      have := (hF 0 (by omega)).2.1
      simpa [Addr.add] using World.cell?_spot this
    subst hspot
    obtain ⟨_, h0, hz⟩ := hF i h'
    rw [addr_plain, addr_plain, Nat.add_zero] at h0
    refine ⟨b, o, rfl, World.block_lt_of_cell? W ⟨b, o + i * k, none⟩ h0, h0, fun j h1 h2 => ?_⟩
    have := hz j h1 h2
    rw [addr_plain, addr_plain] at this
    exact this
set_option maxRecDepth 100000 in
theorem fuse_cells {fuel : Nat} {cs : List Value} {x : DataW H × List MemPlace} (h : DataW.trod enc Try.prog W base sp held fuel 144 cs = some x) :
    ∃ a0 a1 : Int, cs = [.int .i64 a0, .int .i64 a1] := by
  obtain ⟨xs, n, _, _, hl, hlen, hf⟩ := DataW.trod_struct Try.underlying144 h
  rw [cellsFuse] at hl
  match cs, hl with
  | [c0, c1], _ =>
    match xs, hlen with
    | [y0, y1], _ =>
      obtain ⟨a0, e0, _⟩ := DataW.trod_int Try.underlying3 (hf 0 _ rfl)
      obtain ⟨a1, e1, _⟩ := DataW.trod_int Try.underlying3 (hf 1 _ rfl)
      simp [cellsI] at e0 e1
      subst e0 e1
      exact ⟨a0, a1, rfl⟩
set_option maxRecDepth 100000 in
theorem cable_cells {fuel : Nat} {cs : List Value} {x : DataW H × List MemPlace} (h : DataW.trod enc Try.prog W base sp held fuel 146 cs = some x) :
    ∃ a0 a1 a2 a3 a4 : Int, cs = [.int .i64 a0, .int .i64 a1, .int .i64 a2, .int .i64 a3, .int .i64 a4] := by
  obtain ⟨xs, n, _, _, hl, hlen, hf⟩ := DataW.trod_struct Try.underlying146 h
  rw [cellsCable] at hl
  match cs, hl with
  | [c0, c1, c2, c3, c4], _ =>
    match xs, hlen with
    | [y0, y1, y2, y3, y4], _ =>
      obtain ⟨a0, e0, _⟩ := DataW.trod_int Try.underlying3 (hf 0 _ rfl)
      obtain ⟨a1, e1, _⟩ := DataW.trod_int Try.underlying3 (hf 1 _ rfl)
      obtain ⟨a2, e2, _⟩ := DataW.trod_int Try.underlying3 (hf 2 _ rfl)
      obtain ⟨a3, e3, _⟩ := DataW.trod_int Try.underlying3 (hf 3 _ rfl)
      obtain ⟨a4, e4, _⟩ := DataW.trod_int Try.underlying3 (hf 4 _ rfl)
      simp [cellsI] at e0 e1 e2 e3 e4
      subst e0 e1 e2 e3 e4
      exact ⟨a0, a1, a2, a3, a4, rfl⟩
set_option maxRecDepth 100000 in
theorem recCon {fuel : Nat} {cs : List Value} {x : DataW H × List MemPlace} (h : DataW.trod enc Try.prog W base sp held fuel 148 cs = some x) : NRec 11 cs := by
  obtain ⟨xs, n, _, _, hl, hlen, hf⟩ := DataW.trod_struct Try.underlying148 h
  rw [cellsOfCon] at hl
  match cs, hl with
  | [c0, c1, c2, c3, c4, c5, c6, c7, c8, c9, c10], _ =>
    match xs, hlen with
    | [y0, y1, y2, y3, y4, y5], _ =>
      obtain ⟨s, e0, _, hs⟩ := DataW.trod_string Try.underlying9 (hf 0 _ rfl)
      simp [cellsS] at e0
      subst e0
      obtain ⟨a1, e1, _⟩ := DataW.trod_int Try.underlying3 (hf 1 _ rfl)
      simp [cellsI] at e1
      subst e1
      obtain ⟨a2, e2, _⟩ := DataW.trod_int Try.underlying3 (hf 2 _ rfl)
      simp [cellsI] at e2
      subst e2
      obtain ⟨a3, e3, _⟩ := DataW.trod_int Try.underlying3 (hf 3 _ rfl)
      simp [cellsI] at e3
      subst e3
      obtain ⟨a4, a5, e4⟩ := fuse_cells (hf 4 _ rfl)
      simp [cellsFuse] at e4
      obtain ⟨q4, q5⟩ := e4
      subst q4 q5
      obtain ⟨a6, a7, a8, a9, a10, e6⟩ := cable_cells (hf 5 _ rfl)
      simp [cellsCable] at e6
      obtain ⟨q6, q7, q8, q9, q10⟩ := e6
      subst q6 q7 q8 q9 q10
      exact nrec_mk s [a1, a2, a3, a4, a5, a6, a7, a8, a9, a10] hs
set_option maxRecDepth 100000 in
theorem recOwn {fuel : Nat} {cs : List Value} {x : DataW H × List MemPlace} (h : DataW.trod enc Try.prog W base sp held fuel 150 cs = some x) : NRec 1 cs := by
  obtain ⟨xs, n, _, _, hl, hlen, hf⟩ := DataW.trod_struct Try.underlying150 h
  rw [cellsOfOwn] at hl
  match cs, hl with
  | [c0], _ =>
    match xs, hlen with
    | [y0], _ =>
      obtain ⟨s, e0, _, hs⟩ := DataW.trod_string Try.underlying9 (hf 0 _ rfl)
      simp [cellsS] at e0
      subst e0
      exact nrec_mk s [] hs
set_option maxRecDepth 100000 in
theorem recCtr {fuel : Nat} {cs : List Value} {x : DataW H × List MemPlace} (h : DataW.trod enc Try.prog W base sp held fuel 154 cs = some x) : NRec 4 cs := by
  obtain ⟨xs, n, _, _, hl, hlen, hf⟩ := DataW.trod_struct Try.underlying154 h
  rw [cellsOfCtr] at hl
  match cs, hl with
  | [c0, c1, c2, c3], _ =>
    match xs, hlen with
    | [y0, y1, y2, y3], _ =>
      obtain ⟨s, e0, _, hs⟩ := DataW.trod_string Try.underlying9 (hf 0 _ rfl)
      simp [cellsS] at e0
      subst e0
      obtain ⟨a1, e1, _⟩ := DataW.trod_int Try.underlying3 (hf 1 _ rfl)
      simp [cellsI] at e1
      subst e1
      obtain ⟨a2, e2, _⟩ := DataW.trod_int Try.underlying3 (hf 2 _ rfl)
      simp [cellsI] at e2
      subst e2
      obtain ⟨a3, e3, _⟩ := DataW.trod_int Try.underlying3 (hf 3 _ rfl)
      simp [cellsI] at e3
      subst e3
      exact nrec_mk s [a1, a2, a3] hs
set_option maxRecDepth 100000 in
theorem recChr {fuel : Nat} {cs : List Value} {x : DataW H × List MemPlace} (h : DataW.trod enc Try.prog W base sp held fuel 83 cs = some x) : NRec 8 cs := by
  obtain ⟨xs, n, _, _, hl, hlen, hf⟩ := DataW.trod_struct Try.underlying83 h
  rw [cellsOfChr] at hl
  match cs, hl with
  | [c0, c1, c2, c3, c4, c5, c6, c7], _ =>
    match xs, hlen with
    | [y0, y1, y2, y3, y4, y5, y6, y7], _ =>
      obtain ⟨s, e0, _, hs⟩ := DataW.trod_string Try.underlying9 (hf 0 _ rfl)
      simp [cellsS] at e0
      subst e0
      obtain ⟨a1, e1, _⟩ := DataW.trod_int Try.underlying3 (hf 1 _ rfl)
      simp [cellsI] at e1
      subst e1
      obtain ⟨a2, e2, _⟩ := DataW.trod_int Try.underlying3 (hf 2 _ rfl)
      simp [cellsI] at e2
      subst e2
      obtain ⟨a3, e3, _⟩ := DataW.trod_int Try.underlying3 (hf 3 _ rfl)
      simp [cellsI] at e3
      subst e3
      obtain ⟨a4, e4, _⟩ := DataW.trod_int Try.underlying3 (hf 4 _ rfl)
      simp [cellsI] at e4
      subst e4
      obtain ⟨a5, e5, _⟩ := DataW.trod_int Try.underlying3 (hf 5 _ rfl)
      simp [cellsI] at e5
      subst e5
      obtain ⟨a6, e6, _⟩ := DataW.trod_int Try.underlying3 (hf 6 _ rfl)
      simp [cellsI] at e6
      subst e6
      obtain ⟨a7, e7, _⟩ := DataW.trod_int Try.underlying3 (hf 7 _ rfl)
      simp [cellsI] at e7
      subst e7
      exact nrec_mk s [a1, a2, a3, a4, a5, a6, a7] hs
set_option maxRecDepth 100000 in
theorem recBay {fuel : Nat} {cs : List Value} {x : DataW H × List MemPlace} (h : DataW.trod enc Try.prog W base sp held fuel 157 cs = some x) : NRec 2 cs := by
  obtain ⟨xs, n, _, _, hl, hlen, hf⟩ := DataW.trod_struct Try.underlying157 h
  rw [cellsOfBay] at hl
  match cs, hl with
  | [c0, c1], _ =>
    match xs, hlen with
    | [y0, y1], _ =>
      obtain ⟨s, e0, _, hs⟩ := DataW.trod_string Try.underlying9 (hf 0 _ rfl)
      simp [cellsS] at e0
      subst e0
      obtain ⟨a1, e1, _⟩ := DataW.trod_int Try.underlying3 (hf 1 _ rfl)
      simp [cellsI] at e1
      subst e1
      exact nrec_mk s [a1] hs
set_option maxRecDepth 100000 in
theorem open_site {r : Reach} {b0 : Nat} {v : Value} {d : DataW H} {p : List MemPlace} (hv : Value.okWide Try.prog W r b0 80 v) (h : DataW.Trod enc Try.prog W base sp held 80 v d p) :
    ∃ S : Sit, v = .agg #[.slice (S.A 0) (S.n 0) (S.c 0), .slice (S.A 1) (S.n 1) (S.c 1), .slice (S.A 2) (S.n 2) (S.c 2), .slice (S.A 3) (S.n 3) (S.c 3), .slice (S.A 4) (S.n 4) (S.c 4)] ∧ SMr W S := by
  obtain ⟨cs, rfl, hsz⟩ := okWide_struct Try.underlying80 hv
  obtain ⟨fuel, hf0⟩ := h
  have hf : DataW.trod enc Try.prog W base sp held fuel 80 cs.toList = some (d, p) := hf0
  obtain ⟨xs, n, _, _, hl, hlen, hfs⟩ := DataW.trod_struct Try.underlying80 hf
  rw [cellsSite] at hl
  obtain ⟨ls, rfl⟩ : ∃ ls : List Value, cs = ls.toArray := ⟨cs.toList, by simp⟩
  simp only at hl hfs
  match ls, hl with
  | [c0, c1, c2, c3, c4], _ =>
    match xs, hlen with
    | [y0, y1, y2, y3, y4], _ =>
      obtain ⟨A0, n0, k0, N0, Z0, e0, hc0, ha0, hr0, hs0⟩ := open_rows (by omega) Try.underlying74 cellsOfCon (fun _ _ _ => recCon) (hfs 0 _ rfl)
      simp [cellsLCon] at e0
      subst e0
      obtain ⟨A1, n1, k1, N1, Z1, e1, hc1, ha1, hr1, hs1⟩ := open_rows (by omega) Try.underlying75 cellsOfOwn (fun _ _ _ => recOwn) (hfs 1 _ rfl)
      simp [cellsLOwn] at e1
      subst e1
      obtain ⟨A2, n2, k2, N2, Z2, e2, hc2, ha2, hr2, hs2⟩ := open_rows (by omega) Try.underlying76 cellsOfCtr (fun _ _ _ => recCtr) (hfs 2 _ rfl)
      simp [cellsLCtr] at e2
      subst e2
      obtain ⟨A3, n3, k3, N3, Z3, e3, hc3, ha3, hr3, hs3⟩ := open_rows (by omega) Try.underlying77 cellsOfChr (fun _ _ _ => recChr) (hfs 3 _ rfl)
      simp [cellsLChr] at e3
      subst e3
      obtain ⟨A4, n4, k4, N4, Z4, e4, hc4, ha4, hr4, hs4⟩ := open_rows (by omega) Try.underlying78 cellsOfBay (fun _ _ _ => recBay) (hfs 4 _ rfl)
      simp [cellsLBay] at e4
      subst e4
      refine ⟨⟨fun t => if t = 0 then A0 else if t = 1 then A1 else if t = 2 then A2 else if t = 3 then A3 else A4, fun t => if t = 0 then n0 else if t = 1 then n1 else if t = 2 then n2 else if t = 3 then n3 else n4, fun t => if t = 0 then k0 else if t = 1 then k1 else if t = 2 then k2 else if t = 3 then k3 else k4, fun t => if t = 0 then N0 else if t = 1 then N1 else if t = 2 then N2 else if t = 3 then N3 else N4, fun t => if t = 0 then Z0 else if t = 1 then Z1 else if t = 2 then Z2 else if t = 3 then Z3 else Z4⟩, rfl, fun t ht => ?_, fun t ht => ?_, fun t ht => ?_, fun t ht => ?_⟩
      · have h5 : t = 0 ∨ t = 1 ∨ t = 2 ∨ t = 3 ∨ t = 4 := by omega
        rcases h5 with rfl | rfl | rfl | rfl | rfl
        · exact hr0
        · exact hr1
        · exact hr2
        · exact hr3
        · exact hr4
      · have h5 : t = 0 ∨ t = 1 ∨ t = 2 ∨ t = 3 ∨ t = 4 := by omega
        rcases h5 with rfl | rfl | rfl | rfl | rfl
        · exact hc0
        · exact hc1
        · exact hc2
        · exact hc3
        · exact hc4
      · have h5 : t = 0 ∨ t = 1 ∨ t = 2 ∨ t = 3 ∨ t = 4 := by omega
        rcases h5 with rfl | rfl | rfl | rfl | rfl
        · exact hs0
        · exact hs1
        · exact hs2
        · exact hs3
        · exact hs4
      · have h5 : t = 0 ∨ t = 1 ∨ t = 2 ∨ t = 3 ∨ t = 4 := by omega
        rcases h5 with rfl | rfl | rfl | rfl | rfl
        · exact ha0
        · exact ha1
        · exact ha2
        · exact ha3
        · exact ha4
end
theorem ni_rz {w : World} {A : Option Addr} {n : Nat} {z : Nat → Int} (h : RN .i64 w A n z) : RZ w A n z := fun i hi => by
  obtain ⟨b, o, e, hb, hc, _⟩ := h i hi
  exact ⟨b, o, e, hb, hc⟩
end Go.Proofs.Ytkhmlbkkdflnoaa.Nm
