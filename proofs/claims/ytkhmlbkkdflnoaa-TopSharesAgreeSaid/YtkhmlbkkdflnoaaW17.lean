/-
  w17Fair: two chargers share 7 amperes, 4 and 3. (Printed by gen_w17.py.)
-/
import Derived.Test.YtkhmlbkkdflnoaaAgr
namespace Go.Proofs.Ytkhmlbkkdflnoaa.Nm
open Go.RowKit Go.Proofs.Ytkhmlbkkdflnoaa Go
set_option linter.unusedVariables false
set_option linter.unusedSimpArgs false
attribute [local go_sem ↓] Go.wp_at_zero Go.wp_at_succ
attribute [local go_sem ↓] appF_fold

def t1 (b : UInt8) : ByteArray := ⟨#[b]⟩
def conZ (j : Nat) : Int := if j = 1 then -1 else if j = 2 then 7 else if j = 3 then 9 else 0
def chrZ (j : Nat) : Int := if j = 2 then 1 else if j = 3 then 1 else if j = 4 then 16 else if j = 5 then 1 else 0
/-- the site of w17Fair in memory -/
def S17 (h g cp : Nat) : Sit where
  A := fun t => if t = 0 then some ⟨h, 0, none⟩ else if t = 1 then some ⟨h + 1, 0, none⟩ else if t = 3 then some ⟨g, 0, none⟩ else none
  n := fun t => if t = 0 then 1 else if t = 1 then 1 else if t = 3 then 2 else 0
  c := fun t => if t = 0 then 1 else if t = 1 then 1 else if t = 3 then cp else 0
  N := fun t i => if t = 0 then t1 102 else if t = 1 then t1 111 else if i = 0 then t1 97 else t1 98
  Z := fun t i j => if t = 0 then conZ j else chrZ j
def conC : Array Value := #[.string (t1 102), .int .i64 (-1), .int .i64 7, .int .i64 9, .int .i64 0, .int .i64 0, .int .i64 0, .int .i64 0, .int .i64 0, .int .i64 0, .int .i64 0]
def chC (b : UInt8) : List Value := [.string (t1 b), .int .i64 0, .int .i64 1, .int .i64 1, .int .i64 16, .int .i64 1, .int .i64 0, .int .i64 0]
def chs (k : Nat) : List Value := if k = 0 then [] else if k = 1 then chC 97 else chC 97 ++ chC 98
theorem rowsL17 (h g cp : Nat) : rowsL (S17 h g cp) = [(7, [0, 1])] := by kernel_rfl
theorem share17 : ∀ i, i < 2 → stepX [(7, [0, 1])] 2 (fun m => min (two 16 16 m) 16) (two 1 0) i = two 3 4 i := by decide
theorem ord17 : OrP 2 2 (two 1 0) := by
  refine ⟨rfl, fun i hi => ?_⟩
  have : i = 0 ∨ i = 1 := by omega
  rcases this with rfl | rfl
  · exact ⟨⟨by decide, by decide⟩, fun k hk => by omega⟩
  · exact ⟨⟨by decide, by decide⟩, fun k hk => by
      obtain rfl : k = 0 := by omega
      decide⟩
theorem infoChr : (Try.prog.info? 83).map (fun i => (i.zero, i.size, i.bytes)) = some (some (.agg #[.string ⟨#[]⟩, .int .i64 0, .int .i64 0, .int .i64 0, .int .i64 0, .int .i64 0, .int .i64 0, .int .i64 0]), 8, 72) := by kernel_rfl
theorem nameP17 (b : UInt8) (h : b = 102 ∨ b = 111 ∨ b = 97 ∨ b = 98) : NameP (t1 b) := by
  have hb : 97 ≤ b.toNat ∧ b.toNat ≤ 122 := by rcases h with rfl | rfl | rfl | rfl <;> decide
  rcases h with rfl | rfl | rfl | rfl <;>
    (refine ⟨by simp [noneOf, kK, t1], by simp [noneOf, kA, t1], by simp [noneOf, kR, t1], by simp [noneOf, kW, t1], by simp [t1, ByteArray.size], by simp [t1, ByteArray.size], fun i hi => ?_⟩
     have hi1 : i < 1 := hi
     obtain rfl : i = 0 := by omega
     exact .inl hb)
theorem sitP17 (h g cp : Nat) : SitP (S17 h g cp) := by
  refine ⟨?_, ?_, ?_, ?_, ?_, ?_, ?_⟩
  · exact ⟨⟨by simp [S17], by simp [S17]⟩, by simp [S17], by simp [S17], by simp [S17], by simp [S17]⟩
  · intro s hs
    have e : (S17 h g cp).names 5 = [t1 102, t1 111, t1 97, t1 98] := by rfl
    rw [e] at hs
    simp only [List.mem_cons, List.not_mem_nil, or_false] at hs
    rcases hs with rfl | rfl | rfl | rfl <;> exact nameP17 _ (by simp)
  · have e : (S17 h g cp).names 5 = [t1 102, t1 111, t1 97, t1 98] := by rfl
    rw [e]
    simp [t1]
  · intro i hi
    have hi1 : i < 1 := hi
    obtain rfl : i = 0 := by omega
    refine ⟨by simp [S17, conZ], by simp [S17, conZ], by simp [S17, conZ], by simp, ?_, ?_⟩
    · left; simp [S17, conZ]
    · left; simp [S17, conZ]
  · intro i hi
    have hi1 : i < 0 := hi
    omega
  · intro i hi
    refine ⟨⟨by simp [S17, chrZ], by simp [S17, chrZ], by simp [S17, chrZ], by simp [S17, chrZ], ?_⟩, by simp [S17, chrZ], by simp [S17, chrZ]⟩
    left; simp [S17, chrZ]
  · intro i hi
    have hi1 : i < 0 := hi
    omega
/-- the site while its chargers are added -/
structure WI (h k : Nat) (w0 w : World) : Prop where
  b0 : w.heap[h]? = some (.cells conC 148 (0, 0))
  b1 : w.heap[h + 1]? = some (.cells #[.string (t1 111)] 150 (0, 0))
  bn : w.heap[h + 1 + 1 + 1]? = some (.cells #[.string (t1 97), .string (t1 98)] 9 (0, 0))
  box : ∃ v, w.heap[h + 1 + 1]? = some (.cells #[.slice (some ⟨h, 0, none⟩) 1 1, .slice (some ⟨h + 1, 0, none⟩) 1 1, .slice none 0 0, v, .slice none 0 0] 80 (0, 0)) ∧ w.ownsRow (h + 4) 83 8 v k (chs k)
  sz : h + 4 ≤ w.heap.size
  bel : Below h w0 w
theorem chs_succ (k : Nat) (b : UInt8) (h : k = 0 ∧ b = 97 ∨ k = 1 ∧ b = 98) : chs k ++ chC b = chs (k + 1) := by
  rcases h with ⟨rfl, rfl⟩ | ⟨rfl, rfl⟩ <;> rfl
theorem four (w : World) (o0 o1 o2 o3 : Obj) (h : Nat) (hh : w.heap.size = h) : ((((w.alloc o0).alloc o1).alloc o2).alloc o3).heap[h]? = some o0 ∧ ((((w.alloc o0).alloc o1).alloc o2).alloc o3).heap[h + 1]? = some o1 ∧ ((((w.alloc o0).alloc o1).alloc o2).alloc o3).heap[h + 1 + 1]? = some o2 ∧ ((((w.alloc o0).alloc o1).alloc o2).alloc o3).heap[h + 1 + 1 + 1]? = some o3 ∧ ((((w.alloc o0).alloc o1).alloc o2).alloc o3).heap.size = h + 4 ∧ Below h w ((((w.alloc o0).alloc o1).alloc o2).alloc o3) := by
  subst hh
  refine ⟨?_, ?_, ?_, ?_, by simp, bel_alloc (bel_alloc (bel_alloc (bel_alloc (Below.refl _ _) _) _) _) _⟩
  · exact (Below.heap_alloc _ _ _ (by simp <;> omega)).trans ((Below.heap_alloc _ _ _ (by simp <;> omega)).trans ((Below.heap_alloc _ _ _ (by simp)).trans (World.alloc_heap_new w _)))
  · exact (Below.heap_alloc _ _ _ (by simp <;> omega)).trans ((Below.heap_alloc _ _ _ (by simp)).trans (by have := World.alloc_heap_new (w.alloc o0) o1; rwa [World.size_alloc] at this))
  · exact (Below.heap_alloc _ _ _ (by simp)).trans (by have := World.alloc_heap_new ((w.alloc o0).alloc o1) o2; rwa [World.size_alloc, World.size_alloc] at this)
  · have := World.alloc_heap_new (((w.alloc o0).alloc o1).alloc o2) o3
    rwa [World.size_alloc, World.size_alloc, World.size_alloc] at this
theorem sm17 {h g cp : Nat} {w : World} (b0 : w.heap[h]? = some (.cells conC 148 (0, 0))) (b1 : w.heap[h + 1]? = some (.cells #[.string (t1 111)] 150 (0, 0))) (hown : w.ownsRow (h + 4) 83 8 (.slice (some ⟨g, 0, none⟩) 2 cp) 2 (chs 2)) (hcp : 2 ≤ cp ∧ cp ≤ 9223372036854775807) : SM5 w (S17 h g cp) := by
  have hlg := (hown.lt g rfl).2
  refine ⟨fun t ht => ?_, fun t ht => ?_, fun t ht => ?_, fun t ht i hi => ?_, fun t ht e => ?_⟩
  · have h5 : t = 0 ∨ t = 1 ∨ t = 2 ∨ t = 3 ∨ t = 4 := by omega
    rcases h5 with rfl | rfl | rfl | rfl | rfl
    · intro i hi
      have hi1 : i < 1 := hi
      obtain rfl : i = 0 := by omega
      refine ⟨h, 0, rfl, (Array.getElem?_eq_some_iff.1 b0).1, by rw [cell_of_row w h _ _ _ (0, 0) b0]; rfl, fun j h1 h2 => ?_⟩
      have h3 : j < 11 := h2
      rw [cell_of_row w h _ _ _ (0, 0) b0]
      have : j = 1 ∨ j = 2 ∨ j = 3 ∨ j = 4 ∨ j = 5 ∨ j = 6 ∨ j = 7 ∨ j = 8 ∨ j = 9 ∨ j = 10 := by omega
      rcases this with rfl | rfl | rfl | rfl | rfl | rfl | rfl | rfl | rfl | rfl <;> rfl
    · intro i hi
      have hi1 : i < 1 := hi
      obtain rfl : i = 0 := by omega
      refine ⟨h + 1, 0, rfl, (Array.getElem?_eq_some_iff.1 b1).1, by rw [cell_of_row w (h + 1) _ _ _ (0, 0) b1]; rfl, fun j h1 h2 => ?_⟩
      have h3 : j < 1 := h2
      omega
    · intro i hi
      have hi1 : i < 0 := hi
      omega
    · intro i hi
      have hi1 : i < 2 := hi
      have h2 : i = 0 ∨ i = 1 := by omega
      refine ⟨g, 0, rfl, hlg, ?_, fun j h1 h2' => ?_⟩
      · rw [show 0 + i * wid 3 = i * 8 from (by show 0 + i * 8 = i * 8; omega), hown.cellAt _ (by omega)]
        rcases h2 with rfl | rfl <;> rfl
      · have h3 : j < 8 := h2'
        rw [show 0 + i * wid 3 + j = i * 8 + j from (by show 0 + i * 8 + j = i * 8 + j; omega), hown.cellAt _ (by omega)]
        have : j = 1 ∨ j = 2 ∨ j = 3 ∨ j = 4 ∨ j = 5 ∨ j = 6 ∨ j = 7 := by omega
        rcases h2 with rfl | rfl <;> rcases this with rfl | rfl | rfl | rfl | rfl | rfl | rfl <;> rfl
    · intro i hi
      have hi1 : i < 0 := hi
      omega
  · have h5 : t = 0 ∨ t = 1 ∨ t = 2 ∨ t = 3 ∨ t = 4 := by omega
    rcases h5 with rfl | rfl | rfl | rfl | rfl <;> simp [S17]
  · have h5 : t = 0 ∨ t = 1 ∨ t = 2 ∨ t = 3 ∨ t = 4 := by omega
    rcases h5 with rfl | rfl | rfl | rfl | rfl <;> simp [S17] <;> omega
  · have h5 : t = 0 ∨ t = 1 ∨ t = 2 ∨ t = 3 ∨ t = 4 := by omega
    rcases h5 with rfl | rfl | rfl | rfl | rfl
    · exact (by decide : (1 : Nat) ≤ maxLen)
    · exact (by decide : (1 : Nat) ≤ maxLen)
    · have hi1 : i < 0 := hi
      omega
    · show (if i = 0 then t1 97 else t1 98).size ≤ maxLen
      split <;> exact (by decide : (1 : Nat) ≤ maxLen)
    · have hi1 : i < 0 := hi
      omega
  · have h5 : t = 0 ∨ t = 1 ∨ t = 2 ∨ t = 3 ∨ t = 4 := by omega
    rcases h5 with rfl | rfl | rfl | rfl | rfl <;> first | rfl | (simp [S17] at e)
set_option maxRecDepth 100000 in
theorem WI.step {r0 : TypeInfo} (hJ : Try.prog.info? 83 = some r0) (h0 : r0.zero = some (.agg #[.string ⟨#[]⟩, .int .i64 0, .int .i64 0, .int .i64 0, .int .i64 0, .int .i64 0, .int .i64 0, .int .i64 0])) (h1 : r0.size = 8) (h2 : r0.bytes = 72) {h k : Nat} {b : UInt8} {w0 w : World} (hw : WI h k w0 w) (hb : k = 0 ∧ b = 97 ∨ k = 1 ∧ b = 98) :
    ∃ v, w.cell? ⟨h + 1 + 1, 3, none⟩ = some v ∧ w.cell? ⟨h + 1 + 1 + 1, k, none⟩ = some (.string (t1 b)) ∧ ∃ g c w', Sem.run Try.prog (appF #[77, 77] 77 #[v, .slice (some ⟨w.heap.size, 0, none⟩) 1 1]) (w.alloc (.cells #[.string (t1 b), .int .i64 0, .int .i64 1, .int .i64 1, .int .i64 16, .int .i64 1, .int .i64 0, .int .i64 0] 83)) = .ok (.slice (some ⟨g, 0, none⟩) (k + 1) c) w' ∧
      w'.cell? ⟨h + 1 + 1, 3, none⟩ = some v ∧ w'.frozen? ⟨h + 1 + 1, 3, none⟩ = false ∧ WI h (k + 1) w0 (w'.setCell ⟨h + 1 + 1, 3, none⟩ (.slice (some ⟨g, 0, none⟩) (k + 1) c)) := by
  obtain ⟨b0, b1, bn, ⟨v, hv, hown⟩, sz, bel⟩ := hw
  have hk2 : k < 2 := by rcases hb with ⟨rfl, _⟩ | ⟨rfl, _⟩ <;> omega
  obtain ⟨v', w', hr, hown', hgrow, _, hat⟩ := run_append_own_at (P := Try.prog) (w.alloc (.cells #[.string (t1 b), .int .i64 0, .int .i64 1, .int .i64 1, .int .i64 16, .int .i64 1, .int .i64 0, .int .i64 0] 83)) (h + 4) 77 77 83 r0 _ 8 72 Try.underlying77 hJ h0 h1 h2 rfl (by decide) v k (chs k) (hown.alloc _) ⟨w.heap.size, 0, none⟩ 1 1 (chC b) rfl (World.news_of_block (heap_alloc_new w _)) (by simp [chC, Value.oneCell']) (by unfold maxLen; omega) (by omega) (by simp; omega)
  obtain ⟨g, c, rfl, hg1, hg2⟩ := hown'.form (by omega)
  have hk : ∀ q, q < h + 4 → w'.heap[q]? = w.heap[q]? := fun q hq => by
    rw [hgrow.block q (by simp; omega) (fun e => by have := (hown.lt q e.symm).1; omega)]
    exact Below.heap_alloc _ _ _ (by omega)
  have hv' := (hk (h + 1 + 1) (by omega)).trans hv
  have hgb : h + 4 ≤ g := (hown'.lt g rfl).1
  refine ⟨v, by rw [cell_of_row w _ 3 _ _ (0, 0) hv]; rfl, ?_, g, c, w', hr, by rw [cell_of_row w' _ 3 _ _ (0, 0) hv']; rfl, by simp [World.frozen?, hv'], ?_⟩
  · rw [cell_of_row w _ k _ _ (0, 0) bn]
    rcases hb with ⟨rfl, rfl⟩ | ⟨rfl, rfl⟩ <;> rfl
  · have hs : ∀ q, q ≠ h + 1 + 1 → (w'.setCell ⟨h + 1 + 1, 3, none⟩ (.slice (some ⟨g, 0, none⟩) (k + 1) c)).heap[q]? = w'.heap[q]? := fun q hq => Below.heap_setCell _ ⟨h + 1 + 1, 3, none⟩ _ q hq
    refine ⟨(hs h (by omega)).trans ((hk h (by omega)).trans b0), (hs (h + 1) (by omega)).trans ((hk (h + 1) (by omega)).trans b1), (hs (h + 1 + 1 + 1) (by omega)).trans ((hk (h + 1 + 1 + 1) (by omega)).trans bn), ⟨.slice (some ⟨g, 0, none⟩) (k + 1) c, ?_, ?_⟩, ?_, ?_⟩
    · simp [World.setCell, Array.getElem?_modify, hv']
    · rw [← chs_succ k b hb]
      exact own_at hown' (fun q hq _ => hs q (by omega))
    · have := hgrow.size
      simp [World.setCell] at this ⊢
      omega
    · exact ((bel.alloc (by omega) _).grown hgrow (by simp; omega) (fun q e => by have := (hown.lt q e).1; omega)).setCell (p := ⟨h + 1 + 1, 3, none⟩) (by simp only; omega) _
set_option maxRecDepth 100000 in
set_option maxHeartbeats 4000000 in
theorem w17_walk (w : World) : Calls Try.prog 24 #[] w fun e w' => e = .returned (.bool true) ∧ Below w.heap.size w w' := by
  obtain ⟨r0, hr, hr0, hr1, hr2⟩ := info_parts infoChr
  have HSTEP : Hid (∀ {h k : Nat} {b : UInt8} {w0 w : World}, WI h k w0 w → (k = 0 ∧ b = 97 ∨ k = 1 ∧ b = 98) →
    ∃ v, w.cell? ⟨h + 1 + 1, 3, none⟩ = some v ∧ w.cell? ⟨h + 1 + 1 + 1, k, none⟩ = some (.string (t1 b)) ∧ ∃ g c w', Sem.run Try.prog (appF #[77, 77] 77 #[v, .slice (some ⟨w.heap.size, 0, none⟩) 1 1]) (w.alloc (.cells #[.string (t1 b), .int .i64 0, .int .i64 1, .int .i64 1, .int .i64 16, .int .i64 1, .int .i64 0, .int .i64 0] 83)) = .ok (.slice (some ⟨g, 0, none⟩) (k + 1) c) w' ∧
      w'.cell? ⟨h + 1 + 1, 3, none⟩ = some v ∧ w'.frozen? ⟨h + 1 + 1, 3, none⟩ = false ∧ WI h (k + 1) w0 (w'.setCell ⟨h + 1 + 1, 3, none⟩ (.slice (some ⟨g, 0, none⟩) (k + 1) c))) := Lib.hid fun hw hb => WI.step hr hr0 hr1 hr2 hw hb
  clear hr hr0 hr1 hr2
  obtain ⟨h, hh⟩ : ∃ h, w.heap.size = h := ⟨_, rfl⟩
  have HH := Lib.hid hh
  go_enter Try.func24, Try.ntmps24
  go_upto_region 3 with fail
  refine nameW ?_
  intro W0 hW0
  have HWI0 : Hid (WI h 0 w W0) := Lib.hid (by
    rw [← hW0]
    obtain ⟨a0, a1, a2, a3, a4, a5⟩ := four w _ _ _ _ h hh
    exact ⟨a0, a1, a3, ⟨.slice none 0 0, a2, World.ownsRow_nil _ _ _ _⟩, Nat.le_of_eq a4.symm, a5⟩)
  clear hW0
  go_loopw [13] (fun i wr => ∃ k : Nat, k ≤ 2 ∧ i = .int .i64 k ∧ WI h k w wr) (fun i _ => 2 - (intOf i).toNat)
  case atStart => exact ⟨0, by omega, rfl, HWI0.out⟩
  case round =>
    obtain ⟨k, hk, rfl, hwi⟩ := hrel
    obtain ⟨wa, hwa⟩ : ∃ x, x = wr := ⟨_, rfl⟩
    subst hwa
    have HWI := Lib.hid hwi
    clear hwi HWI0
    by_cases hlt : k < 2
    · obtain ⟨b, hb⟩ : ∃ b : UInt8, k = 0 ∧ b = 97 ∨ k = 1 ∧ b = 98 := by
        have : k = 0 ∨ k = 1 := by omega
        rcases this with e | e
        · exact ⟨97, .inl ⟨e, rfl⟩⟩
        · exact ⟨98, .inr ⟨e, rfl⟩⟩
      obtain ⟨v, c3, cn, g, c, w', hrun, c3', f3', hwi'⟩ := HSTEP.out HWI.out hb
      have HW' := Lib.hid hwi'
      clear hwi' hb
      go_wp2_with fail
      all_goals (try (exfalso; omega))
      go_roundw
      case rel => exact ⟨k + 1, by omega, by go_num, HW'.out⟩
      case measure => simp [intOf] <;> omega
    · obtain rfl : k = 2 := by omega
      obtain ⟨b0, b1, _, ⟨v, hv, hown⟩, sz, bel⟩ := HWI.out
      obtain ⟨g, cp, rfl, _, _⟩ := hown.form (by omega)
      obtain ⟨_, _, e3, hcp, _, _⟩ := own_form hown
      cases e3
      have hM := sm17 b0 b1 hown hcp
      have hs := sitP17 h g cp
      have c0 : wa.cell? ⟨h + 1 + 1, 0, none⟩ = some (.slice (some ⟨h, 0, none⟩) 1 1) := by rw [cell_of_row wa _ _ _ _ (0, 0) hv]; rfl
      have c1 : wa.cell? ⟨h + 1 + 1, 1, none⟩ = some (.slice (some ⟨h + 1, 0, none⟩) 1 1) := by rw [cell_of_row wa _ _ _ _ (0, 0) hv]; rfl
      have c2 : wa.cell? ⟨h + 1 + 1, 2, none⟩ = some (.slice none 0 0) := by rw [cell_of_row wa _ _ _ _ (0, 0) hv]; rfl
      have c3 : wa.cell? ⟨h + 1 + 1, 3, none⟩ = some (.slice (some ⟨g, 0, none⟩) 2 cp) := by rw [cell_of_row wa _ _ _ _ (0, 0) hv]; rfl
      have c4 : wa.cell? ⟨h + 1 + 1, 4, none⟩ = some (.slice none 0 0) := by rw [cell_of_row wa _ _ _ _ (0, 0) hv]; rfl
      have HBw : Hid (Below h w wa) := Lib.hid bel
      have HSS : Hid (Calls Try.prog 31 #[.agg #[.slice (some ⟨h, 0, none⟩) 1 1, .slice (some ⟨h + 1, 0, none⟩) 1 1, .slice none 0 0, .slice (some ⟨g, 0, none⟩) 2 cp, .slice none 0 0], .slice (some ⟨wa.heap.size, 0, none⟩) 2 2, .slice (some ⟨wa.heap.size + 1, 0, none⟩) 2 2, .slice (some ⟨wa.heap.size + 1 + 1, 0, none⟩) 2 2] (((wa.alloc (.cells #[.int .i64 0, .int .i64 0] 3)).alloc (.cells #[.int .i64 16, .int .i64 16] 3)).alloc (.cells #[.int .i64 1, .int .i64 0] 3)) fun e w' => OkN 2 (two 3 4) e w' ∧ Below wa.heap.size wa w') := Lib.hid (by
        obtain ⟨W3, hW3⟩ : ∃ W3, (((wa.alloc (.cells #[.int .i64 0, .int .i64 0] 3)).alloc (.cells #[.int .i64 16, .int .i64 16] 3)).alloc (.cells #[.int .i64 1, .int .i64 0] 3)) = W3 := ⟨_, rfl⟩
        have hb3 : Below wa.heap.size wa W3 := by rw [← hW3]; exact bel_alloc (bel_alloc (bel_alloc (Below.refl _ _) _) _) _
        have z0 : RZ W3 (some ⟨wa.heap.size, 0, none⟩) 2 (fun _ => 0) := by
          have h1 := ((rz_two wa 0 0 3).keep (bel_alloc (bel_alloc (Below.refl _ _) (.cells #[.int .i64 16, .int .i64 16] 3)) (.cells #[.int .i64 1, .int .i64 0] 3)))
          rw [hW3] at h1
          intro i hi
          have h2 := h1 i hi
          have h3 : two 0 0 i = 0 := by simp [two]
          rwa [h3] at h2
        have z1 : RZ W3 (some ⟨wa.heap.size + 1, 0, none⟩) 2 (two 16 16) := by
          have h1 := ((rz_two (wa.alloc (.cells #[.int .i64 0, .int .i64 0] 3)) 16 16 3).keep (bel_alloc (Below.refl _ _) (.cells #[.int .i64 1, .int .i64 0] 3)))
          rwa [World.size_alloc, hW3] at h1
        have z2 : RZ W3 (some ⟨wa.heap.size + 1 + 1, 0, none⟩) 2 (two 1 0) := by
          have h1 := rz_two ((wa.alloc (.cells #[.int .i64 0, .int .i64 0] 3)).alloc (.cells #[.int .i64 16, .int .i64 16] 3)) 1 0 3
          rwa [World.size_alloc, World.size_alloc, hW3] at h1
        rw [hW3]
        have hall := ssh_all (S17 h g cp) (some ⟨wa.heap.size, 0, none⟩) 2 (some ⟨wa.heap.size + 1, 0, none⟩) 2 (two 16 16) (some ⟨wa.heap.size + 1 + 1, 0, none⟩) 2 (two 1 0) W3 (hM.keep hb3) hs (fun i _ => ⟨rfl, rfl⟩) z0 z1 (fun i _ => by unfold two; split <;> omega) z2 (ord17)
        rw [rowsL17] at hall
        refine Calls.mono hall ?_
        rintro e w' ⟨⟨gx, he, hrow⟩, hb⟩
        refine ⟨⟨gx, he, hrow.congr fun i hi => ?_⟩, hb3.trans (hb.mono hb3.size)⟩
        exact congrArg (Value.int .i64) (share17 i hi))
      clear hM hs hv hown hcp b0 b1 sz bel
      go_upto_region 8 with (go_at_call 31; with_reducible refine (HSS.out).mono ?_; rintro e w4 ⟨hok, hb4⟩; obtain ⟨gx, rfl, hrow⟩ := okN_open hok)
      have HB4 := Lib.hid hb4
      have HRZ : Hid (∀ W, Below w4.heap.size w4 W → RZ W (some ⟨gx, 0, none⟩) 2 (two 3 4)) := Lib.hid fun W hW => rowIs_rz (rowIs_below hrow hW)
      clear c0 c1 c2 c3 c4 hb4 hrow hok
      go_wp2_with (go_at_call 32; with_reducible refine (ints_yes _ _ 2 _ _ _ _ (by decide) (HRZ.out _ (bel_alloc (Below.refl _ _) _)) (rz_two _ _ _ _)).mono ?_; rintro e w5 ⟨rfl, hb5⟩)
      all_goals (try (exfalso; omega))
      go_ret
      exact ⟨rfl, by
        have h1 : Below w.heap.size w w4 := by rw [HH.out]; exact HBw.out.trans (HB4.out.mono (by have := HBw.out.size; have := HH.out; omega))
        exact (bel_alloc h1 _).trans (hb5.mono (bel_alloc h1 _).size)⟩
end Go.Proofs.Ytkhmlbkkdflnoaa.Nm
