/-
  THE NAMES OF A SITE in the reference (printed by gen_rnm.py).
-/
import Derived.Test.YtkhmlbkkdflnoaaNamd
import Derived.Laws.OwnMore
namespace Go.Proofs.Ytkhmlbkkdflnoaa.Nm
open Go.RowKit Go.Proofs.Ytkhmlbkkdflnoaa Go Go.Maps Go.WideMaps
set_option linter.unusedVariables false
attribute [local go_sem ↓] Go.wp_at_zero Go.wp_at_succ

theorem infoStr : (Try.prog.info? 9).map (fun i => (i.zero, i.size, i.bytes)) = some (some (.string ⟨#[]⟩), 1, 16) := by kernel_rfl
theorem wp_region_cls {P : Program} {id : Nat} {Q : Exit → Act → World → Prop} {a : Act} {w : World} {l : List Oper} (C : World → Prop) (hm : P.follows .mixedOrders = true) (hB : Region.lexB .any l.toArray = true) (hC : C w.drew)
    (h : wpQuiet P l.toArray C (fun a' => ∀ w', C w' → Q .normal a' w') l a) : (Code.region id l.toArray true).wp P Q a w := wp_region_quiet (C := C) hm hB hC (by simpa using h)
theorem quiet_of_run {P : Program} {o : Oper} {a : Act} {C : World → Prop} {K : Act → Prop} (v : Value) (h : ∀ w, C w → (execOp a.eval o).run P w = .ok (.value v) w) (hk : K (a.put o.dst v)) : o.quiet P a C K :=
  ⟨v, fun w hw => by unfold Oper.quietAt; rw [h w hw]; exact ⟨rfl, rfl⟩, hk⟩
theorem quiet_of_call {P : Program} {o : Oper} {a : Act} {C : World → Prop} {K : Act → Prop} (f : FuncId) (args : Array Value) (v : Value) (h : ∀ w, C w → (execOp a.eval o).run P w = .ok (.enter f args) w) (hc : ∀ w, C w → Calls P f args w fun e w' => e = .returned v ∧ C w') (hk : K (a.put o.dst v)) : o.quiet P a C K :=
  ⟨v, fun w hw => by unfold Oper.quietAt; rw [h w hw]; exact ⟨rfl, hc w hw⟩, hk⟩
theorem names_short (S : Sit) (t : Nat) (h : ∀ i, i < t → ∀ j, j < S.n i → (S.N i j).size ≤ maxLen) : ∀ s ∈ S.names t, s.size ≤ maxLen := by
  induction t with
  | zero => intro s hs; simp [Sit.names] at hs
  | succ t ih =>
    intro s hs
    simp only [Sit.names, List.mem_append, List.mem_map, List.mem_range] at hs
    rcases hs with hs | ⟨j, hj, rfl⟩
    · exact ih (fun i hi => h i (by omega)) s hs
    · exact h t (by omega) j hj
/-- a row of one's own is a slice -/
theorem own_form {W : World} {B : Nat} {t : TypeId} {s n : Nat} {v : Value} {xs : List Value} (h : W.ownsRow B t s v n xs) : ∃ A c, v = .slice A n c ∧ (n ≤ c ∧ c ≤ 9223372036854775807) ∧ (A = none → n = 0 ∧ c = 0) ∧ (∀ a, A = some a → ∃ g, a = ⟨g, 0, none⟩) := by
  rcases h.2 with ⟨h', h''⟩ | ⟨g', cap', cur, h', _, _, h1, h2, _⟩
  · exact ⟨none, 0, by rw [h', h''], by omega, fun _ => ⟨h'', rfl⟩, fun a e => (by cases e)⟩
  · exact ⟨_, cap', h', by unfold maxLen at h2; omega, fun e => (by cases e), fun a e => (by cases e; exact ⟨g', rfl⟩)⟩
/-- a row of texts of one's own -/
def NR (B : Nat) (W0 : World) (L : List ByteArray) (v : Value) (w : World) : Prop := w.ownsRow B 9 1 v L.length (L.map Value.string) ∧ Below B W0 w
theorem NR.step {B g cap : Nat} {W0 w w3 : World} {o : Obj} {L : List ByteArray} {v : Value} {s : ByteArray} (h : NR B W0 L v w) (hB : B ≤ w.heap.size)
    (hown : w3.ownsRow B 9 1 (.slice (some ⟨g, 0, none⟩) (L.length + 1) cap) (L.length + 1) (L.map Value.string ++ [Value.string s])) (hgrow : (w.alloc o).grownBy w3 v.ownBlock) :
    NR B W0 (L ++ [s]) (.slice (some ⟨g, 0, none⟩) (L.length + 1) cap) w3 := by
  refine ⟨?_, (h.2.alloc hB o).grown hgrow (by rw [World.size_alloc]; omega) (fun k e => ?_)⟩
  · rw [List.length_append, List.map_append]; exact hown
  · exact (h.1.lt k e).1
theorem NR.rs {B : Nat} {W0 w : World} {L : List ByteArray} {v : Value} (h : NR B W0 L v w) : ∃ A c, v = .slice A L.length c ∧ (L.length ≤ c ∧ c ≤ 9223372036854775807) ∧ RS w A L.length (fun i => L.getD i ⟨#[]⟩) := by
  obtain ⟨A, c, rfl, hc, hn, hs⟩ := own_form h.1
  refine ⟨A, c, rfl, hc, fun i hi => ?_⟩
  cases A with
  | none => have := (hn rfl).1; omega
  | some a =>
    obtain ⟨g, rfl⟩ := hs a rfl
    refine ⟨g, 0, rfl, (h.1.lt g rfl).2, ?_⟩
    rw [Nat.zero_add, h.1.cellAt i (by omega)]
    simp [List.getD, hi]
theorem names_len (S : Sit) (t : Nat) (h : ∀ i, i < t → S.n i ≤ 40) : (S.names t).length ≤ 40 * t := by
  induction t with
  | zero => simp [Sit.names]
  | succ t ih =>
    have := ih fun i hi => h i (by omega)
    have := h t (by omega)
    simp only [Sit.names, List.length_append, List.length_map, List.length_range]
    omega
theorem names_fin (l : List ByteArray) (h : ∀ j, j < l.length → NameP (l.getD j ⟨#[]⟩) ∧ hasB (fun i => l.getD i ⟨#[]⟩) j (l.getD j ⟨#[]⟩) = false) : (∀ s ∈ l, NameP s) ∧ l.Pairwise (fun a b => (a.toList == b.toList) = false) := by
  constructor
  · intro s hs
    obtain ⟨i, hi, rfl⟩ := List.mem_iff_getElem.1 hs
    have := (h i hi).1
    rwa [show l.getD i ⟨#[]⟩ = l[i] by simp [List.getD, hi]] at this
  · rw [List.pairwise_iff_getElem]
    intro i j hi hj hij
    have := hasB_no.1 (h j hj).2 i hij
    simp only [List.getD] at this
    simpa [hi, hj] using this
set_option maxRecDepth 100000 in
set_option maxHeartbeats 8000000 in
theorem names_any (S : Sit) (w : World) (hM : SM5 w S) : Calls Try.prog 70 #[.agg #[.slice (S.A 0) (S.n 0) (S.c 0), .slice (S.A 1) (S.n 1) (S.c 1), .slice (S.A 2) (S.n 2) (S.c 2), .slice (S.A 3) (S.n 3) (S.c 3), .slice (S.A 4) (S.n 4) (S.c 4)]] w fun e w' => yesP ((∀ s ∈ S.names 5, NameP s) ∧ (S.names 5).Pairwise (fun a b => (a.toList == b.toList) = false)) e ∧ Below w.heap.size w w' := by
  obtain ⟨r0, hr, hr0, hr1, hr2⟩ := info_parts infoStr
  have HJ := Lib.hid hr
  have HY0 := Lib.hid hr0
  have HY1 := Lib.hid hr1
  have HY2 := Lib.hid hr2
  clear hr hr0 hr1 hr2
  have HM := Lib.hid hM
  clear hM
  go_enter Try.func70, Try.ntmps70
  go_wp2_with fail
  obtain ⟨W0, hW0⟩ : ∃ W0, w.alloc (.cells #[.slice (S.A 0) (S.n 0) (S.c 0), .slice (S.A 1) (S.n 1) (S.c 1), .slice (S.A 2) (S.n 2) (S.c 2), .slice (S.A 3) (S.n 3) (S.c 3), .slice (S.A 4) (S.n 4) (S.c 4)] 80) = W0 := ⟨_, rfl⟩
  have HB0 : Hid (Below w.heap.size w W0) := Lib.hid (by rw [← hW0]; exact (Below.refl _ _).alloc (Nat.le_refl _) _)
  have HS0 : Hid (W0.heap.size = w.heap.size + 1) := Lib.hid (by rw [← hW0]; simp)
  have HX : Hid (W0.heap[w.heap.size]? = some (.cells #[.slice (S.A 0) (S.n 0) (S.c 0), .slice (S.A 1) (S.n 1) (S.c 1), .slice (S.A 2) (S.n 2) (S.c 2), .slice (S.A 3) (S.n 3) (S.c 3), .slice (S.A 4) (S.n 4) (S.c 4)] 80 (0, 0))) := Lib.hid (by rw [← hW0]; exact heap_alloc_new w _)
  rw [hW0]
  clear hW0
  have HN0 : Hid (NR (w.heap.size + 1) W0 [] (.slice none 0 0) W0) := Lib.hid ⟨⟨rfl, .inl ⟨rfl, rfl⟩⟩, Below.refl _ _⟩
  go_loopw [3, 4] (fun v i w0 => ∃ k : Nat, k ≤ S.n 0 ∧ i = .int .i64 k ∧ NR (w.heap.size + 1) W0 (S.names 0 ++ (List.range k).map (S.N 0)) v w0) (fun v i _ => S.n 0 - (intOf i).toNat)
  case atStart => exact ⟨0, by omega, rfl, by rw [List.range_zero, List.map_nil, List.append_nil]; exact HN0.out⟩
  case round =>
    obtain ⟨w0, hw0⟩ : ∃ x, x = wr := ⟨_, rfl⟩
    subst hw0
    obtain ⟨v0, hv0⟩ : ∃ x, x = u3 := ⟨_, rfl⟩
    subst hv0
    obtain ⟨k, hk, rfl, hnr⟩ := hrel
    have hbw : Below (w.heap.size + 1) W0 w0 := hnr.2
    have hsz := hbw.size
    have hB0 := HB0.out
    have hS0 := HS0.out
    have hbW : Below w.heap.size w w0 := hB0.trans (hbw.mono (by omega))
    have dX : w0.cell? ⟨w.heap.size, 0, none⟩ = some (.slice (S.A 0) (S.n 0) (S.c 0)) := by rw [hbw.cell (by simp), cell_of_row W0 _ 0 _ _ (0, 0) HX.out]; rfl
    have HK := Lib.hid hnr
    have hle := names_len S 0 fun i hi => HM.out.few i (by omega)
    have hnk := HM.out.few 0 (by omega)
    have hll : (S.names 0 ++ (List.range k).map (S.N 0)).length = (S.names 0).length + k := by simp
    clear hnr
    by_cases hlt : k < S.n 0
    · obtain ⟨b, o, eA, hl, hc, _⟩ := (HM.out.rows 0 (by omega)).keep hbW k hlt
      rw [eA] at dX
      simp only [wid] at hc
      have hcap := HM.out.cap 0 (by omega)
      have d0 : w0.cell? ⟨b, o + k * 11, none⟩ = some (.string (S.N 0 k)) := hc
      have hmul : o + k * 11 = o + k * 11 := rfl
      go_wp2_with (at_builtin; refine wpList_append_lies _ rfl (.tmp 17) (.tmp 24) 151 rfl (w.heap.size + 1) 9 r0 _ 1 16 Try.underlying151 HJ.out HY0.out HY1.out HY2.out rfl (by omega) v0 _ _ rfl (HK.out.1.alloc _) ⟨w0.heap.size, 0, none⟩ 1 1 [.string (S.N 0 k)] rfl rfl (World.news_of_block (heap_alloc_new w0 _)) (by simp [Value.oneCell']) (by omega) (by unfold maxLen; omega) (by omega) (by simp; omega) (w0.heap.size + 1) (by simp) ?_; intro g cap wB hown hgrow hat hlt1)
      go_roundw
      case rel => exact ⟨k + 1, by omega, by go_num, by rw [List.range_succ, List.map_append, ← List.append_assoc]; have hst := HK.out.step (by omega) hown hgrow; rw [hll] at hst; exact hst⟩
      case measure => simp [intOf] <;> omega
    · obtain rfl : k = S.n 0 := by omega
      have HN1 : Hid (NR (w.heap.size + 1) W0 (S.names 1) v0 w0) := HK
      clear hk hll hle hnk HK hlt
      go_wp2_with fail
      go_loopw [3, 5] (fun v i w1 => ∃ k : Nat, k ≤ S.n 1 ∧ i = .int .i64 k ∧ NR (w.heap.size + 1) W0 (S.names 1 ++ (List.range k).map (S.N 1)) v w1) (fun v i _ => S.n 1 - (intOf i).toNat)
      case atStart => exact ⟨0, by omega, rfl, by rw [List.range_zero, List.map_nil, List.append_nil]; exact HN1.out⟩
      case round =>
        obtain ⟨w1, hw1⟩ : ∃ x, x = wr := ⟨_, rfl⟩
        subst hw1
        obtain ⟨v1, hv1⟩ : ∃ x, x = u3 := ⟨_, rfl⟩
        subst hv1
        obtain ⟨k, hk, rfl, hnr⟩ := hrel
        have hbw : Below (w.heap.size + 1) W0 w1 := hnr.2
        have hsz := hbw.size
        have hB0 := HB0.out
        have hS0 := HS0.out
        have hbW : Below w.heap.size w w1 := hB0.trans (hbw.mono (by omega))
        have dX : w1.cell? ⟨w.heap.size, 1, none⟩ = some (.slice (S.A 1) (S.n 1) (S.c 1)) := by rw [hbw.cell (by simp), cell_of_row W0 _ 1 _ _ (0, 0) HX.out]; rfl
        have HK := Lib.hid hnr
        have hle := names_len S 1 fun i hi => HM.out.few i (by omega)
        have hnk := HM.out.few 1 (by omega)
        have hll : (S.names 1 ++ (List.range k).map (S.N 1)).length = (S.names 1).length + k := by simp
        clear hnr
        by_cases hlt : k < S.n 1
        · obtain ⟨b, o, eA, hl, hc, _⟩ := (HM.out.rows 1 (by omega)).keep hbW k hlt
          rw [eA] at dX
          simp only [wid] at hc
          have hcap := HM.out.cap 1 (by omega)
          have d0 : w1.cell? ⟨b, o + k, none⟩ = some (.string (S.N 1 k)) := by simpa using hc
          have hmul : o + k * 1 = o + k * 1 := rfl
          go_wp2_with (at_builtin; refine wpList_append_lies _ rfl (.tmp 33) (.tmp 40) 151 rfl (w.heap.size + 1) 9 r0 _ 1 16 Try.underlying151 HJ.out HY0.out HY1.out HY2.out rfl (by omega) v1 _ _ rfl (HK.out.1.alloc _) ⟨w1.heap.size, 0, none⟩ 1 1 [.string (S.N 1 k)] rfl rfl (World.news_of_block (heap_alloc_new w1 _)) (by simp [Value.oneCell']) (by omega) (by unfold maxLen; omega) (by omega) (by simp; omega) (w1.heap.size + 1) (by simp) ?_; intro g cap wB hown hgrow hat hlt1)
          go_roundw
          case rel => exact ⟨k + 1, by omega, by go_num, by rw [List.range_succ, List.map_append, ← List.append_assoc]; have hst := HK.out.step (by omega) hown hgrow; rw [hll] at hst; exact hst⟩
          case measure => simp [intOf] <;> omega
        · obtain rfl : k = S.n 1 := by omega
          have HN2 : Hid (NR (w.heap.size + 1) W0 (S.names 2) v1 w1) := HK
          clear hk hll hle hnk HK hlt
          go_wp2_with fail
          go_loopw [3, 6] (fun v i w2 => ∃ k : Nat, k ≤ S.n 2 ∧ i = .int .i64 k ∧ NR (w.heap.size + 1) W0 (S.names 2 ++ (List.range k).map (S.N 2)) v w2) (fun v i _ => S.n 2 - (intOf i).toNat)
          case atStart => exact ⟨0, by omega, rfl, by rw [List.range_zero, List.map_nil, List.append_nil]; exact HN2.out⟩
          case round =>
            obtain ⟨w2, hw2⟩ : ∃ x, x = wr := ⟨_, rfl⟩
            subst hw2
            obtain ⟨v2, hv2⟩ : ∃ x, x = u3 := ⟨_, rfl⟩
            subst hv2
            obtain ⟨k, hk, rfl, hnr⟩ := hrel
            have hbw : Below (w.heap.size + 1) W0 w2 := hnr.2
            have hsz := hbw.size
            have hB0 := HB0.out
            have hS0 := HS0.out
            have hbW : Below w.heap.size w w2 := hB0.trans (hbw.mono (by omega))
            have dX : w2.cell? ⟨w.heap.size, 2, none⟩ = some (.slice (S.A 2) (S.n 2) (S.c 2)) := by rw [hbw.cell (by simp), cell_of_row W0 _ 2 _ _ (0, 0) HX.out]; rfl
            have HK := Lib.hid hnr
            have hle := names_len S 2 fun i hi => HM.out.few i (by omega)
            have hnk := HM.out.few 2 (by omega)
            have hll : (S.names 2 ++ (List.range k).map (S.N 2)).length = (S.names 2).length + k := by simp
            clear hnr
            by_cases hlt : k < S.n 2
            · obtain ⟨b, o, eA, hl, hc, _⟩ := (HM.out.rows 2 (by omega)).keep hbW k hlt
              rw [eA] at dX
              simp only [wid] at hc
              have hcap := HM.out.cap 2 (by omega)
              have d0 : w2.cell? ⟨b, o + k * 4, none⟩ = some (.string (S.N 2 k)) := hc
              have hmul : o + k * 4 = o + k * 4 := rfl
              go_wp2_with (at_builtin; refine wpList_append_lies _ rfl (.tmp 49) (.tmp 56) 151 rfl (w.heap.size + 1) 9 r0 _ 1 16 Try.underlying151 HJ.out HY0.out HY1.out HY2.out rfl (by omega) v2 _ _ rfl (HK.out.1.alloc _) ⟨w2.heap.size, 0, none⟩ 1 1 [.string (S.N 2 k)] rfl rfl (World.news_of_block (heap_alloc_new w2 _)) (by simp [Value.oneCell']) (by omega) (by unfold maxLen; omega) (by omega) (by simp; omega) (w2.heap.size + 1) (by simp) ?_; intro g cap wB hown hgrow hat hlt1)
              go_roundw
              case rel => exact ⟨k + 1, by omega, by go_num, by rw [List.range_succ, List.map_append, ← List.append_assoc]; have hst := HK.out.step (by omega) hown hgrow; rw [hll] at hst; exact hst⟩
              case measure => simp [intOf] <;> omega
            · obtain rfl : k = S.n 2 := by omega
              have HN3 : Hid (NR (w.heap.size + 1) W0 (S.names 3) v2 w2) := HK
              clear hk hll hle hnk HK hlt
              go_wp2_with fail
              go_loopw [3, 7] (fun v i w3 => ∃ k : Nat, k ≤ S.n 3 ∧ i = .int .i64 k ∧ NR (w.heap.size + 1) W0 (S.names 3 ++ (List.range k).map (S.N 3)) v w3) (fun v i _ => S.n 3 - (intOf i).toNat)
              case atStart => exact ⟨0, by omega, rfl, by rw [List.range_zero, List.map_nil, List.append_nil]; exact HN3.out⟩
              case round =>
                obtain ⟨w3, hw3⟩ : ∃ x, x = wr := ⟨_, rfl⟩
                subst hw3
                obtain ⟨v3, hv3⟩ : ∃ x, x = u3 := ⟨_, rfl⟩
                subst hv3
                obtain ⟨k, hk, rfl, hnr⟩ := hrel
                have hbw : Below (w.heap.size + 1) W0 w3 := hnr.2
                have hsz := hbw.size
                have hB0 := HB0.out
                have hS0 := HS0.out
                have hbW : Below w.heap.size w w3 := hB0.trans (hbw.mono (by omega))
                have dX : w3.cell? ⟨w.heap.size, 3, none⟩ = some (.slice (S.A 3) (S.n 3) (S.c 3)) := by rw [hbw.cell (by simp), cell_of_row W0 _ 3 _ _ (0, 0) HX.out]; rfl
                have HK := Lib.hid hnr
                have hle := names_len S 3 fun i hi => HM.out.few i (by omega)
                have hnk := HM.out.few 3 (by omega)
                have hll : (S.names 3 ++ (List.range k).map (S.N 3)).length = (S.names 3).length + k := by simp
                clear hnr
                by_cases hlt : k < S.n 3
                · obtain ⟨b, o, eA, hl, hc, _⟩ := (HM.out.rows 3 (by omega)).keep hbW k hlt
                  rw [eA] at dX
                  simp only [wid] at hc
                  have hcap := HM.out.cap 3 (by omega)
                  have d0 : w3.cell? ⟨b, o + k * 8, none⟩ = some (.string (S.N 3 k)) := hc
                  have hmul : o + k * 8 = o + k * 8 := rfl
                  go_wp2_with (at_builtin; refine wpList_append_lies _ rfl (.tmp 65) (.tmp 72) 151 rfl (w.heap.size + 1) 9 r0 _ 1 16 Try.underlying151 HJ.out HY0.out HY1.out HY2.out rfl (by omega) v3 _ _ rfl (HK.out.1.alloc _) ⟨w3.heap.size, 0, none⟩ 1 1 [.string (S.N 3 k)] rfl rfl (World.news_of_block (heap_alloc_new w3 _)) (by simp [Value.oneCell']) (by omega) (by unfold maxLen; omega) (by omega) (by simp; omega) (w3.heap.size + 1) (by simp) ?_; intro g cap wB hown hgrow hat hlt1)
                  go_roundw
                  case rel => exact ⟨k + 1, by omega, by go_num, by rw [List.range_succ, List.map_append, ← List.append_assoc]; have hst := HK.out.step (by omega) hown hgrow; rw [hll] at hst; exact hst⟩
                  case measure => simp [intOf] <;> omega
                · obtain rfl : k = S.n 3 := by omega
                  have HN4 : Hid (NR (w.heap.size + 1) W0 (S.names 4) v3 w3) := HK
                  clear hk hll hle hnk HK hlt
                  go_wp2_with fail
                  go_loopw [3, 8] (fun v i w4 => ∃ k : Nat, k ≤ S.n 4 ∧ i = .int .i64 k ∧ NR (w.heap.size + 1) W0 (S.names 4 ++ (List.range k).map (S.N 4)) v w4) (fun v i _ => S.n 4 - (intOf i).toNat)
                  case atStart => exact ⟨0, by omega, rfl, by rw [List.range_zero, List.map_nil, List.append_nil]; exact HN4.out⟩
                  case round =>
                    obtain ⟨w4, hw4⟩ : ∃ x, x = wr := ⟨_, rfl⟩
                    subst hw4
                    obtain ⟨v4, hv4⟩ : ∃ x, x = u3 := ⟨_, rfl⟩
                    subst hv4
                    obtain ⟨k, hk, rfl, hnr⟩ := hrel
                    have hbw : Below (w.heap.size + 1) W0 w4 := hnr.2
                    have hsz := hbw.size
                    have hB0 := HB0.out
                    have hS0 := HS0.out
                    have hbW : Below w.heap.size w w4 := hB0.trans (hbw.mono (by omega))
                    have dX : w4.cell? ⟨w.heap.size, 4, none⟩ = some (.slice (S.A 4) (S.n 4) (S.c 4)) := by rw [hbw.cell (by simp), cell_of_row W0 _ 4 _ _ (0, 0) HX.out]; rfl
                    have HK := Lib.hid hnr
                    have hle := names_len S 4 fun i hi => HM.out.few i (by omega)
                    have hnk := HM.out.few 4 (by omega)
                    have hll : (S.names 4 ++ (List.range k).map (S.N 4)).length = (S.names 4).length + k := by simp
                    clear hnr
                    by_cases hlt : k < S.n 4
                    · obtain ⟨b, o, eA, hl, hc, _⟩ := (HM.out.rows 4 (by omega)).keep hbW k hlt
                      rw [eA] at dX
                      simp only [wid] at hc
                      have hcap := HM.out.cap 4 (by omega)
                      have d0 : w4.cell? ⟨b, o + k * 2, none⟩ = some (.string (S.N 4 k)) := hc
                      have hmul : o + k * 2 = o + k * 2 := rfl
                      go_wp2_with (at_builtin; refine wpList_append_lies _ rfl (.tmp 81) (.tmp 88) 151 rfl (w.heap.size + 1) 9 r0 _ 1 16 Try.underlying151 HJ.out HY0.out HY1.out HY2.out rfl (by omega) v4 _ _ rfl (HK.out.1.alloc _) ⟨w4.heap.size, 0, none⟩ 1 1 [.string (S.N 4 k)] rfl rfl (World.news_of_block (heap_alloc_new w4 _)) (by simp [Value.oneCell']) (by omega) (by unfold maxLen; omega) (by omega) (by simp; omega) (w4.heap.size + 1) (by simp) ?_; intro g cap wB hown hgrow hat hlt1)
                      go_roundw
                      case rel => exact ⟨k + 1, by omega, by go_num, by rw [List.range_succ, List.map_append, ← List.append_assoc]; have hst := HK.out.step (by omega) hown hgrow; rw [hll] at hst; exact hst⟩
                      case measure => simp [intOf] <;> omega
                    · obtain rfl : k = S.n 4 := by omega
                      have HN5 : Hid (NR (w.heap.size + 1) W0 (S.names 5) v4 w4) := HK
                      clear hk hll hle hnk HK hlt
                      go_wp2_with fail
                      obtain ⟨A, cc, rfl, hcc, hRS⟩ := HN5.out.rs
                      have HSH : Hid (∀ i, i < (S.names 5).length → ((S.names 5).getD i ⟨#[]⟩).size ≤ maxLen) := Lib.hid fun i hi => by
                        rw [show (S.names 5).getD i ⟨#[]⟩ = (S.names 5)[i] by simp [List.getD, hi]]
                        exact names_short S 5 (fun t ht j hj => HM.out.short t ht j hj) _ (List.getElem_mem hi)
                      have hNN := names_len S 5 fun i hi => HM.out.few i hi
                      have HB5 : Hid (Below w.heap.size w w4) := Lib.hid (HB0.out.trans (HN5.out.2.mono (by omega)))
                      clear HN0 HN1 HN2 HN3 HN4 HN5
                      have HF : Hid ((∀ j, j < (S.names 5).length → NameP ((S.names 5).getD j ⟨#[]⟩) ∧ hasB (fun i => (S.names 5).getD i ⟨#[]⟩) j ((S.names 5).getD j ⟨#[]⟩) = false) → (∀ s ∈ S.names 5, NameP s) ∧ (S.names 5).Pairwise (fun a b => (a.toList == b.toList) = false)) := Lib.hid (names_fin _)
                      have HRS := Lib.hid hRS
                      clear hRS
                      obtain ⟨N, hN⟩ : ∃ N, (S.names 5).length = N := ⟨_, rfl⟩
                      obtain ⟨L, hL⟩ : ∃ L : Nat → ByteArray, (fun i => (S.names 5).getD i ⟨#[]⟩) = L := ⟨_, rfl⟩
                      have hL' : ∀ i, (S.names 5).getD i ⟨#[]⟩ = L i := fun i => by rw [← hL]
                      simp only [hN, hL'] at *
                      go_loopw [9] (fun i w5 => ∃ k : Nat, k ≤ N ∧ i = .int .i64 k ∧ (∀ j, j < k → NameP (L j) ∧ hasB L j (L j) = false) ∧ Below w4.heap.size w4 w5) (fun i _ => N - (intOf i).toNat)
                      case atStart => exact ⟨0, by omega, rfl, fun j h => absurd h (by omega), Below.refl _ _⟩
                      case round =>
                        obtain ⟨w5, hw5⟩ : ∃ x, x = wr := ⟨_, rfl⟩
                        subst hw5
                        obtain ⟨k, hk, rfl, hall, hbx⟩ := hrel
                        have HA := Lib.hid hall
                        clear hall
                        by_cases hlt : k < N
                        · obtain ⟨b, o, rfl, hl, hc⟩ := (HRS.out.keep hbx) k hlt
                          have HBX := Lib.hid hbx
                          have i1 : (0 : Int) ≤ (k : Int) := by omega
                          have i2 : (k : Int) < (N : Int) := by omega
                          have i3 : (k : Int) ≤ (cc : Int) := by omega
                          have i4 : (N : Int) ≤ (cc : Int) := by omega
                          have RC : Hid (∀ W : World, Below w5.heap.size w5 W → W.cell? ⟨b, o + k, none⟩ = some (.string (L k))) := Lib.hid fun W hW => old_at hc hW
                          have HNC0 : ∀ W : World, Below w5.heap.size w5 W → Calls Try.prog 109 #[.string (L k)] W fun e w' => e = .returned (.bool (nmB (L k))) ∧ Below w5.heap.size w5 w' := fun W hW => (name_det (L k) W (HSH.out k hlt)).mono fun e w' hh => ⟨hh.1, bel_step hW hh.2⟩
                          have HHC0 : ∀ W : World, Below w5.heap.size w5 W → Calls Try.prog 110 #[.slice (some ⟨b, o, none⟩) k cc, .string (L k)] W fun e w' => e = .returned (.bool (hasB L k (L k))) ∧ Below w5.heap.size w5 w' := fun W hW => (has_det _ k cc L (L k) W (by omega) (fun i hi => ((HRS.out.keep HBX.out).keep hW) i (by omega))).mono fun e w' hh => ⟨hh.1, by rw [hh.2]; exact hW⟩
                          clear hc hl
                          cases hnm : nmB (L k)
                          · have HNC := Lib.hid HNC0
                            rw [hnm] at HNC
                            have HHC := Lib.hid HHC0
                            clear HNC0 HHC0
                            go_wp2_with fail
                            all_goals (try (exfalso; omega))
                            refine wp_region_cls (fun w9 => Below w5.heap.size w5 w9) (by kernel_rfl) (by kernel_rfl) (below_drewN (Below.refl _ _) 1) ?_
                            repeat (first
                              | go_big_quiet_skip
                              | (go_big_quiet_want; first
                                | (go_big_quiet_op; go_big_quiet_on)
                                | (refine quiet_of_run (.bool true) ?_ ?_; (focus (intro w9 h9; have y0 := RC.out w9 h9; go_simp; done)); go_simp; go_big_quiet_on)
                                | (refine quiet_of_run (.bool false) ?_ ?_; (focus (intro w9 h9; have y0 := RC.out w9 h9; go_simp; done)); go_simp; go_big_quiet_on)
                                | (refine quiet_of_run (.int .i64 (k : Int)) ?_ ?_; (focus (intro w9 h9; have y0 := RC.out w9 h9; go_simp; done)); go_simp; go_big_quiet_on)
                                | (refine quiet_of_run (.slice (some ⟨b, o, none⟩) N cc) ?_ ?_; (focus (intro w9 h9; have y0 := RC.out w9 h9; go_simp; done)); go_simp; go_big_quiet_on)
                                | (refine quiet_of_run (.slice (some ⟨b, o, none⟩) k cc) ?_ ?_; (focus (intro w9 h9; have y0 := RC.out w9 h9; go_simp; done)); go_simp; go_big_quiet_on)
                                | (refine quiet_of_run (.pointer (some ⟨b, o + k, none⟩)) ?_ ?_; (focus (intro w9 h9; have y0 := RC.out w9 h9; go_simp; done)); go_simp; go_big_quiet_on)
                                | (refine quiet_of_run (.string (L k)) ?_ ?_; (focus (intro w9 h9; have y0 := RC.out w9 h9; go_simp; done)); go_simp; go_big_quiet_on)
                                | (refine quiet_of_call 109 #[.string (L k)] _ ?_ HNC.out ?_; (focus (intro w9 h9; go_simp; done)); go_simp; go_big_quiet_on)
                                | (refine quiet_of_call 110 #[.slice (some ⟨b, o, none⟩) k cc, .string (L k)] _ ?_ HHC.out ?_; (focus (intro w9 h9; go_simp; done)); go_simp; go_big_quiet_on)))
                            refine wpQuiet_nil ?_
                            intro w6 hb6
                            have HB6 := Lib.hid (HB5.out.trans ((HBX.out.trans (hb6.mono HBX.out.size)).mono HB5.out.size))
                            go_wp2_with fail
                            go_ret
                            exact ⟨yes_no _, HB6.out⟩
                          · have HNP := Lib.hid (nmB_iff.1 hnm)
                            cases hha : hasB L k (L k)
                            · have HNC := Lib.hid HNC0
                              rw [hnm] at HNC
                              have HHC := Lib.hid HHC0
                              rw [hha] at HHC
                              have HHA := Lib.hid hha
                              clear HNC0 HHC0 hha
                              go_wp2_with fail
                              all_goals (try (exfalso; omega))
                              refine wp_region_cls (fun w9 => Below w5.heap.size w5 w9) (by kernel_rfl) (by kernel_rfl) (below_drewN (Below.refl _ _) 1) ?_
                              repeat (first
                                | go_big_quiet_skip
                                | (go_big_quiet_want; first
                                  | (go_big_quiet_op; go_big_quiet_on)
                                  | (refine quiet_of_run (.bool true) ?_ ?_; (focus (intro w9 h9; have y0 := RC.out w9 h9; go_simp; done)); go_simp; go_big_quiet_on)
                                  | (refine quiet_of_run (.bool false) ?_ ?_; (focus (intro w9 h9; have y0 := RC.out w9 h9; go_simp; done)); go_simp; go_big_quiet_on)
                                  | (refine quiet_of_run (.int .i64 (k : Int)) ?_ ?_; (focus (intro w9 h9; have y0 := RC.out w9 h9; go_simp; done)); go_simp; go_big_quiet_on)
                                  | (refine quiet_of_run (.slice (some ⟨b, o, none⟩) N cc) ?_ ?_; (focus (intro w9 h9; have y0 := RC.out w9 h9; go_simp; done)); go_simp; go_big_quiet_on)
                                  | (refine quiet_of_run (.slice (some ⟨b, o, none⟩) k cc) ?_ ?_; (focus (intro w9 h9; have y0 := RC.out w9 h9; go_simp; done)); go_simp; go_big_quiet_on)
                                  | (refine quiet_of_run (.pointer (some ⟨b, o + k, none⟩)) ?_ ?_; (focus (intro w9 h9; have y0 := RC.out w9 h9; go_simp; done)); go_simp; go_big_quiet_on)
                                  | (refine quiet_of_run (.string (L k)) ?_ ?_; (focus (intro w9 h9; have y0 := RC.out w9 h9; go_simp; done)); go_simp; go_big_quiet_on)
                                  | (refine quiet_of_call 109 #[.string (L k)] _ ?_ HNC.out ?_; (focus (intro w9 h9; go_simp; done)); go_simp; go_big_quiet_on)
                                  | (refine quiet_of_call 110 #[.slice (some ⟨b, o, none⟩) k cc, .string (L k)] _ ?_ HHC.out ?_; (focus (intro w9 h9; go_simp; done)); go_simp; go_big_quiet_on)))
                              refine wpQuiet_nil ?_
                              intro w6 hb6
                              have HB6 := Lib.hid (HBX.out.trans (hb6.mono HBX.out.size))
                              clear hb6 hbx
                              go_wp2_with fail
                              go_roundw
                              case rel => exact ⟨k + 1, by omega, by go_num, all_snoc HA.out ⟨HNP.out, HHA.out⟩, HB6.out⟩
                              case measure => simp [intOf] <;> omega
                            · have HNC := Lib.hid HNC0
                              rw [hnm] at HNC
                              have HHC := Lib.hid HHC0
                              rw [hha] at HHC
                              clear HNC0 HHC0 hha
                              go_wp2_with fail
                              all_goals (try (exfalso; omega))
                              refine wp_region_cls (fun w9 => Below w5.heap.size w5 w9) (by kernel_rfl) (by kernel_rfl) (below_drewN (Below.refl _ _) 1) ?_
                              repeat (first
                                | go_big_quiet_skip
                                | (go_big_quiet_want; first
                                  | (go_big_quiet_op; go_big_quiet_on)
                                  | (refine quiet_of_run (.bool true) ?_ ?_; (focus (intro w9 h9; have y0 := RC.out w9 h9; go_simp; done)); go_simp; go_big_quiet_on)
                                  | (refine quiet_of_run (.bool false) ?_ ?_; (focus (intro w9 h9; have y0 := RC.out w9 h9; go_simp; done)); go_simp; go_big_quiet_on)
                                  | (refine quiet_of_run (.int .i64 (k : Int)) ?_ ?_; (focus (intro w9 h9; have y0 := RC.out w9 h9; go_simp; done)); go_simp; go_big_quiet_on)
                                  | (refine quiet_of_run (.slice (some ⟨b, o, none⟩) N cc) ?_ ?_; (focus (intro w9 h9; have y0 := RC.out w9 h9; go_simp; done)); go_simp; go_big_quiet_on)
                                  | (refine quiet_of_run (.slice (some ⟨b, o, none⟩) k cc) ?_ ?_; (focus (intro w9 h9; have y0 := RC.out w9 h9; go_simp; done)); go_simp; go_big_quiet_on)
                                  | (refine quiet_of_run (.pointer (some ⟨b, o + k, none⟩)) ?_ ?_; (focus (intro w9 h9; have y0 := RC.out w9 h9; go_simp; done)); go_simp; go_big_quiet_on)
                                  | (refine quiet_of_run (.string (L k)) ?_ ?_; (focus (intro w9 h9; have y0 := RC.out w9 h9; go_simp; done)); go_simp; go_big_quiet_on)
                                  | (refine quiet_of_call 109 #[.string (L k)] _ ?_ HNC.out ?_; (focus (intro w9 h9; go_simp; done)); go_simp; go_big_quiet_on)
                                  | (refine quiet_of_call 110 #[.slice (some ⟨b, o, none⟩) k cc, .string (L k)] _ ?_ HHC.out ?_; (focus (intro w9 h9; go_simp; done)); go_simp; go_big_quiet_on)))
                              refine wpQuiet_nil ?_
                              intro w6 hb6
                              have HB6 := Lib.hid (HB5.out.trans ((HBX.out.trans (hb6.mono HBX.out.size)).mono HB5.out.size))
                              go_wp2_with fail
                              go_ret
                              exact ⟨yes_no _, HB6.out⟩
                        · obtain rfl : k = N := by omega
                          have HY := HF.out HA.out
                          have HYY := Lib.hid (HB5.out.trans (hbx.mono HB5.out.size))
                          go_wp2_with fail
                          all_goals (try (exfalso; omega))
                          go_ret
                          exact ⟨yes_if fun _ => HY, HYY.out⟩
end Go.Proofs.Ytkhmlbkkdflnoaa.Nm
