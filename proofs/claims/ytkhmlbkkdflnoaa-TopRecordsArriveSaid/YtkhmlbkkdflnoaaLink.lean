/-
  THE WALKS over package chain, second part: the bytes of a reading, and its digest.
-/
import Derived.Test.YtkhmlbkkdflnoaaChain
namespace Go.Proofs.Ytkhmlbkkdflnoaa.Ch
open Go.RowKit
set_option linter.unusedVariables false
set_option linter.unusedSimpArgs false
attribute [local go_sem ↓] Go.wp_at_zero Go.wp_at_succ

/-- block g holds these 32 bytes -/
def BY (W : World) (g : Nat) (f : Nat → Int) : Prop := W.heap[g]? = some (.cells ((List.range 32).map fun j => Value.int .u8 (f j)).toArray 186 (0, 0))
theorem BY.lt {W : World} {g : Nat} {f : Nat → Int} (h : BY W g f) : g < W.heap.size := (Array.getElem?_eq_some_iff.1 h).1
theorem BY.at {W : World} {g : Nat} {f : Nat → Int} (h : BY W g f) {j : Nat} (hj : j < 32) : W.cell? ⟨g, j, none⟩ = some (.int .u8 (f j)) := by
  rw [cell_of_row W g j _ _ (0, 0) h]
  simp [hj]
theorem BY.thaw {W : World} {g : Nat} {f : Nat → Int} (h : BY W g f) (j : Nat) : W.frozen? ⟨g, j, none⟩ = false := by
  have h' : W.heap[g]? = some (.cells _ _ (0, 0)) := h
  simp [World.frozen?, h']
theorem BY.congr {W : World} {g : Nat} {f f' : Nat → Int} (h : BY W g f) (e : ∀ j, j < 32 → f j = f' j) : BY W g f' := by
  unfold BY at *
  rw [h]
  congr 3
  refine List.map_congr_left fun j hj => ?_
  rw [e j (by simpa using hj)]
theorem BY.set {W : World} {g : Nat} {f : Nat → Int} (h : BY W g f) {m : Nat} (x : Int) : BY (W.setCell ⟨g, m, none⟩ (.int .u8 x)) g (fun j => if j = m then x else f j) := by
  have h' : W.heap[g]? = some (.cells _ _ (0, 0)) := h
  show _ = _
  simp only [World.setCell, Array.getElem?_modify, h', if_true, Option.map_some]
  refine congrArg (fun z => some (Obj.cells z 186 (0, 0))) ?_
  simp only [Option.isSome_none, Bool.false_eq_true, if_false, List.setIfInBounds_toArray]
  refine congrArg List.toArray ?_
  refine List.ext_getElem? fun j => ?_
  rw [List.getElem?_set]
  simp only [List.getElem?_map, List.length_map, List.length_range]
  by_cases hj : j < 32
  · by_cases e : m = j
    · subst e; simp [hj]
    · simp [hj, e, Ne.symm e]
  · by_cases e : m = j
    · subst e; simp [hj]
    · simp [hj, e]
theorem BY.far {W : World} {g : Nat} {f : Nat → Int} (h : BY W g f) {b : Nat} (hb : b ≠ g) (j : Nat) (v : Value) : BY (W.setCell ⟨b, j, none⟩ v) g f := (Below.heap_setCell W ⟨b, j, none⟩ v g (fun e => hb e.symm)).trans h
/-- one byte of a number, the greatest first -/
def byt (n : Int) (k : Nat) : Int := IntKind.u64.wrap n / 2 ^ (56 - 8 * k) % 256
/-- the bytes of a reading -/
def bfn (a b c d : Int) (j : Nat) : Int := byt ([a, b, c, d].getD (j / 8) 0) (j % 8)
def bcs (f : Nat → Int) : List Value := (List.range 32).map fun j => Value.int .u8 (f j)
theorem below_setCells {B : Nat} {w0 : World} : ∀ (vs : List Value) (b o : Nat) (w : World), Below B w0 w → B ≤ b → Below B w0 (w.setCells b o vs)
  | [], _, _, _, h, _ => h
  | v :: vs, b, o, w, h, hb => below_setCells vs b (o + 1) _ (h.setCell (p := ⟨b, o, none⟩) hb v) hb
theorem BY.there {W : World} {g : Nat} {f : Nat → Int} (h : BY W g f) : W.there g 0 32 := fun j hj => by
  rw [Nat.zero_add]
  exact ⟨by rw [h.at hj]; rfl, h.thaw j⟩
/-- the first m bytes lie in the block -/
def BYm (W : World) (g : Nat) (a b c d : Int) (m : Nat) : Prop := ∃ f, BY W g f ∧ ∀ j, j < m → f j = bfn a b c d j
theorem BYm.next {W : World} {g : Nat} {a b c d : Int} {i k : Nat} (h : BYm W g a b c d (8 * i + k)) (hk : k < 8) {n : Int} (hn : [a, b, c, d].getD i 0 = n) :
    BYm (W.setCell ⟨g, 8 * i + k, none⟩ (.int .u8 (IntKind.u64.wrap n / 2 ^ (56 - 8 * k) % 256))) g a b c d (8 * i + (k + 1)) := by
  obtain ⟨f, h1, h2⟩ := h
  refine ⟨_, h1.set _, fun j hj => ?_⟩
  by_cases e : j = 8 * i + k
  · subst e
    simp only [if_true, bfn]
    rw [show (8 * i + k) / 8 = i by omega, show (8 * i + k) % 8 = k by omega, hn]
    rfl
  · simp only [e, if_false]
    exact h2 j (by omega)
theorem BYm.all {W : World} {g : Nat} {a b c d : Int} (h : BYm W g a b c d 32) : BY W g (bfn a b c d) := by
  obtain ⟨f, h1, h2⟩ := h
  exact h1.congr h2
theorem results_cell_at {P : Program} {fn : Func} {p : Tmp} {ty : TypeId} {tmps : Array Value} {w : World} {a : Addr} {v : Value} (h : fn.results = #[.cell p ty])
    (hp : tmps.getD p undef = .pointer (some a)) (hl : (loadVar ty a).run P w = .ok v w) : (results fn tmps).run P w = .ok v w := by
  have hp' : tmps[p]?.getD undef = .pointer (some a) := by simpa using hp
  simp [results, h, hp', asAddr, hl]
theorem infoBy : (Try.prog.info? 186).map (·.size) = some 32 := by kernel_rfl
/-- what holds in the loops -/
def BI (w : World) (a b c d : Int) (W : World) (m : Nat) : Prop := BYm W (w.heap.size + 1 + 1) a b c d m ∧ (∃ f, BY W (w.heap.size + 1) f) ∧ Below w.heap.size w W
theorem BI.next {w W : World} {a b c d : Int} {i k : Nat} (h : BI w a b c d W (8 * i + k)) (hk : k < 8) {n : Int} (hn : [a, b, c, d].getD i 0 = n) :
    BI w a b c d (W.setCell ⟨w.heap.size + 1 + 1, 8 * i + k, none⟩ (.int .u8 (IntKind.u64.wrap n / 2 ^ (56 - 8 * k) % 256))) (8 * i + (k + 1)) := by
  obtain ⟨h1, ⟨f, h2⟩, h3⟩ := h
  exact ⟨h1.next hk hn, ⟨f, h2.far (by omega) _ _⟩, h3.setCell (p := ⟨w.heap.size + 1 + 1, _, none⟩) (by simp; omega) _⟩
set_option maxRecDepth 100000 in
set_option maxHeartbeats 4000000 in
theorem bytes_any (a b c d l : Int) (w : World) :
    Calls Try.prog 97 #[.agg #[.int .i64 a, .int .i64 b, .int .i64 c, .int .i64 d, .int .u64 l]] w fun e w' => e = .returned (.agg (bcs (bfn a b c d)).toArray) ∧ Below w.heap.size w w' := by
  have HB := Lib.hid infoBy
  go_enter Try.func97, Try.ntmps97
  go_wp2_with fail
  go_loopw [16] (fun t wr => ∃ i : Nat, i ≤ 4 ∧ t = .int .i64 i ∧ BI w a b c d wr (8 * i)) (fun t _ => 4 - (intOf t).toNat)
  case atStart =>
    refine ⟨0, by omega, rfl, ⟨fun _ => 0, ?_, fun j hj => by omega⟩, ⟨fun _ => 0, ?_⟩, bel_alloc (bel_alloc (bel_alloc (Below.refl _ _) _) _) _⟩
    · have := heap_alloc_new ((w.alloc (Obj.cells #[Value.int IntKind.i64 a, Value.int IntKind.i64 b, Value.int IntKind.i64 c, Value.int IntKind.i64 d, Value.int IntKind.u64 l] 58)).alloc (Obj.cells (bcs (fun _ => 0)).toArray 186)) (Obj.cells (bcs (fun _ => 0)).toArray 186)
      rw [World.size_alloc, World.size_alloc] at this
      exact this
    · have := heap_alloc_new (w.alloc (Obj.cells #[Value.int IntKind.i64 a, Value.int IntKind.i64 b, Value.int IntKind.i64 c, Value.int IntKind.i64 d, Value.int IntKind.u64 l] 58)) (Obj.cells (bcs (fun _ => 0)).toArray 186)
      rw [World.size_alloc] at this
      exact (Below.heap_alloc _ _ _ (by simp)).trans this
  case round =>
    obtain ⟨i, hi, rfl, hI⟩ := hrel
    by_cases hlt : i < 4
    · obtain ⟨n, hn⟩ : ∃ n, [a, b, c, d].getD i 0 = n := ⟨_, rfl⟩
      have hix : ∀ W, (Instr.index 210 (.agg #[.int .i64 a, .int .i64 b, .int .i64 c, .int .i64 d]) (.int .i64 i)).run Try.prog W = .ok (.int .i64 n) W := by
        intro W
        rcases (by omega : i = 0 ∨ i = 1 ∨ i = 2 ∨ i = 3) with rfl | rfl | rfl | rfl <;> subst hn <;> kernel_rfl
      have HN := Lib.hid hn
      clear hn
      go_wp2_with fail
      obtain ⟨wo, rfl⟩ : ∃ wo : World, wo = wr := ⟨_, rfl⟩
      go_loopw [20] (fun t wr => ∃ k : Nat, k ≤ 8 ∧ t = .int .i64 k ∧ BI w a b c d wr (8 * i + k)) (fun t _ => 8 - (intOf t).toNat)
      case atStart => exact ⟨0, by omega, rfl, hI⟩
      case round =>
        obtain ⟨k, hk, rfl, hK⟩ := hrel
        by_cases hlt2 : k < 8
        · have hN := Lib.hid (hK.next hlt2 HN.out)
          obtain ⟨⟨f, hf, _⟩, _⟩ := hK
          have c0 := hf.at (j := 8 * i + k) (by omega)
          have c1 := hf.thaw (8 * i + k)
          go_wp2_with fail
          refine ⟨⟨k + 1, by omega, by go_num, hN.out⟩, by simp [intOf] <;> omega⟩
        · obtain rfl : k = 8 := by omega
          have HK := Lib.hid hK
          go_wp2_with fail
          refine ⟨⟨i + 1, by omega, by go_num, by have := HK.out; rwa [show 8 * i + 8 = 8 * (i + 1) by omega] at this⟩, by simp [intOf] <;> omega⟩
    · obtain rfl : i = 4 := by omega
      obtain ⟨h1, ⟨f, h2⟩, h3⟩ := hI
      have h1 := h1.all
      have ht := h2.there
      obtain ⟨CS, hCS⟩ : ∃ CS, (bcs (bfn a b c d)).toArray = CS := ⟨_, rfl⟩
      have h1' : wr.heap[w.heap.size + 1 + 1]? = some (.cells CS 186 (0, 0)) := by rw [← hCS]; exact h1
      have hsz : CS.size = 32 := by rw [← hCS]; simp [bcs]
      have hone : CS.all (·.oneCell') = true := by rw [← hCS]; exact all_oneCell_toArray (by simp [bcs, Value.oneCell'])
      have hib : (Try.prog.info? 186).map (·.size) = some CS.size := by rw [hsz]; exact infoBy
      rw [← hsz] at ht
      have H1 := Lib.hid h1'
      have HT := Lib.hid ht
      have H3 := Lib.hid h3
      have HS := Lib.hid hsz
      have HO := Lib.hid hone
      have HIB := Lib.hid hib
      have HCS := Lib.hid hCS
      clear h1 h1' h2 h3 ht hsz hone hib hCS
      go_upto_region 11 with (fail)
      all_goals (try (exfalso; omega))
      go_wp2_with (first
        | (refine wpList_load_row rfl 186 (.tmp 3) rfl (w.heap.size + 1 + 1) rfl 186 CS (0, 0) _ H1.out Try.underlying186 rfl HIB.out ?_)
        | (refine wpList_store_mid rfl 186 (.tmp 2) (.tmp 37) rfl (w.heap.size + 1) 0 CS rfl rfl HT.out HIB.out HO.out ?_))
      have hr := World.rangeAt_setCells_same wr (w.heap.size + 1) 0 CS.toList (by simpa using HT.out)
      refine bodyPost_ret (v := .agg CS) ?_ rfl ⟨by rw [HCS.out], below_setCells _ _ _ _ H3.out (by omega)⟩
      have hl := run_loadVar_mid (P := Try.prog) _ (w.heap.size + 1) 0 186 CS.toList _ hr Try.underlying186 rfl (by simpa using HIB.out)
      rw [Array.toArray_toList] at hl
      exact results_cell_at Try.results97 rfl hl
/-- one byte more -/
def stp (y z : Int) : Int := IntKind.u64.wrap (bits BinOp.xor IntKind.u64 y (IntKind.u64.wrap z) * 1099511628211)
/-- the digest of bytes -/
def lks (x : Int) (f : Nat → Int) : Nat → Int
  | 0 => x
  | k + 1 => stp (lks x f k) (f k)
def lkf (x a b c d : Int) : Int := lks x (bfn a b c d) 32
set_option maxRecDepth 100000 in
set_option maxHeartbeats 4000000 in
theorem link_any (x a b c d l : Int) (w : World) :
    Calls Try.prog 38 #[.int .u64 x, .agg #[.int .i64 a, .int .i64 b, .int .i64 c, .int .i64 d, .int .u64 l]] w fun e w' => e = .returned (.int .u64 (lkf x a b c d)) ∧ Below w.heap.size w w' := by
  obtain ⟨CS, hCS⟩ : ∃ CS, (bcs (bfn a b c d)).toArray = CS := ⟨_, rfl⟩
  have hb := fun W => bytes_any a b c d l W
  rw [hCS] at hb
  have HB := Lib.hid hb
  have hix : ∀ (k : Nat), k < 32 → ∀ W, (Instr.index 186 (.agg CS) (.int .i64 k)).run Try.prog W = .ok (.int .u8 (bfn a b c d k)) W := by
    intro k hk W
    have he : CS[k]? = some (.int .u8 (bfn a b c d k)) := by rw [← hCS]; simp [bcs, hk]
    simp [Instr.index, asIntOf, go_sem, hk, he]
  have HIX := Lib.hid hix
  clear hb hix hCS
  go_enter Try.func38, Try.ntmps38
  go_wp2_with (go_at_call 97; with_reducible refine (HB.out _).mono ?_; rintro e w1 ⟨rfl, h1⟩)
  go_loopw [11, 5] (fun t s wr => ∃ k : Nat, k ≤ 32 ∧ t = .int .i64 k ∧ wr = w1 ∧ s = .int .u64 (lks x (bfn a b c d) k)) (fun t _ _ => 32 - (intOf t).toNat)
  case atStart => exact ⟨0, by omega, rfl, rfl, rfl⟩
  case round =>
    obtain ⟨k, hk, rfl, rfl, rfl⟩ := hrel
    by_cases hlt : k < 32
    · have h := HIX.out k hlt
      have hs : lks x (bfn a b c d) (k + 1) = stp (lks x (bfn a b c d) k) (bfn a b c d k) := rfl
      have HS := Lib.hid hs
      clear hs
      generalize lks x (bfn a b c d) k = y at *
      generalize bfn a b c d k = z at *
      go_wp2_with fail
      refine ⟨⟨k + 1, by omega, by go_num, by trivial, by rw [HS.out]; rfl⟩, by simp [intOf] <;> omega⟩
    · obtain rfl : k = 32 := by omega
      go_wp2_with fail
      go_ret
      exact ⟨rfl, bel_step (bel_alloc (Below.refl _ _) _) h1⟩
end Go.Proofs.Ytkhmlbkkdflnoaa.Ch
