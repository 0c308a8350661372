/-
  package fair: rowsOf: of each member the rows in which it is.
-/
import Derived.Test.YtkhmlbkkdflnoaaRwm
import Derived.Maps.AppendAt
namespace Go.Proofs.Ytkhmlbkkdflnoaa.Nm
open Go.RowKit Go.Proofs.Ytkhmlbkkdflnoaa Go
set_option linter.unusedVariables false
attribute [local go_sem ↓] Go.wp_at_zero Go.wp_at_succ

/-- append, kept folded for the walk -/
def appF (ats : Array TypeId) (ty : TypeId) (args : Array Value) : Sem Value := Builtin.append_ ats ty args
theorem appF_fold (ats : Array TypeId) (ty : TypeId) (args : Array Value) : Builtin.append_ ats ty args = appF ats ty args := rfl
/-- of pairs (row, member): the rows of m -/
def inL (P : List (Nat × Nat)) (m : Nat) : List Nat := P.filterMap fun q => if q.2 = m then some q.1 else none
theorem inL_snoc (P : List (Nat × Nat)) (i m : Nat) : inL (P ++ [(i, m)]) = fun j => if j = m then inL P m ++ [i] else inL P j := by
  funext j
  unfold inL
  rw [List.filterMap_append]
  by_cases h : j = m
  · subst h; simp
  · have h2 : ¬ m = j := fun e => h e.symm
    simp [h, h2]
theorem inL_len (P : List (Nat × Nat)) (m : Nat) : (inL P m).length ≤ P.length := List.length_filterMap_le _ _
def rowP (L : List (Int × List Nat)) (i k : Nat) : List (Nat × Nat) := (((L.getD i (0, [])).2).take k).map fun m => (i, m)
def prs (L : List (Int × List Nat)) (i : Nat) : List (Nat × Nat) := (List.range i).flatMap fun j => ((L.getD j (0, [])).2).map fun m => (j, m)
theorem prs_zero (L : List (Int × List Nat)) : prs L 0 = [] := rfl
theorem prs_succ (L : List (Int × List Nat)) (i : Nat) : prs L (i + 1) = prs L i ++ rowP L i ((L.getD i (0, [])).2).length := by
  unfold prs rowP
  rw [List.range_succ, List.flatMap_append, List.take_length]
  simp
theorem rowP_zero (L : List (Int × List Nat)) (i : Nat) : prs L i ++ rowP L i 0 = prs L i := by simp [rowP]
theorem rowP_succ (L : List (Int × List Nat)) (i k : Nat) (h : k < ((L.getD i (0, [])).2).length) : prs L i ++ rowP L i (k + 1) = (prs L i ++ rowP L i k) ++ [(i, ((L.getD i (0, [])).2).getD k 0)] := by
  obtain ⟨l, hl⟩ : ∃ l, (L.getD i (0, [])).2 = l := ⟨_, rfl⟩
  unfold rowP
  rw [hl] at h ⊢
  have e : l.getD k 0 = l[k] := by simp [List.getD, h]
  rw [e, List.take_add_one, List.getElem?_eq_getElem h, List.map_append, List.append_assoc]
  rfl
theorem rowP_len (L : List (Int × List Nat)) (i k : Nat) : (rowP L i k).length ≤ k := by
  unfold rowP
  rw [List.length_map]
  exact List.length_take_le _ _
theorem prs_len (L : List (Int × List Nat)) (h : ∀ i, i < L.length → ((L.getD i (0, [])).2).length ≤ 16) : ∀ i, i ≤ L.length → (prs L i).length ≤ i * 16 := by
  intro i
  induction i with
  | zero => intro _; simp [prs]
  | succ i ih =>
    intro hi
    have h1 := ih (by omega)
    have h2 := h i (by omega)
    have h3 := rowP_len L i ((L.getD i (0, [])).2).length
    rw [prs_succ, List.length_append]
    omega
/-- what append onto row m does, and the store behind it -/
theorem app_run {r0 : TypeInfo} (hJ : Try.prog.info? 3 = some r0) (h0 : r0.zero = some (.int .i64 0)) (h1 : r0.size = 1) (h2 : r0.bytes = 8) (B n m s : Nat) (V : Nat → Value) (Lf : Nat → List Nat) (w : World) (hF : Fam B n V Lf w) (hm : m < n) (hB : B ≤ w.heap.size) (hl : (Lf m).length ≤ 1000) :
    ∃ g c w', Sem.run Try.prog (appF #[46, 46] 46 #[V m, .slice (some ⟨w.heap.size, 0, none⟩) 1 1]) (w.alloc (.cells #[.int .i64 (s : Int)] 3)) = .ok (.slice (some ⟨g, 0, none⟩) ((Lf m).length + 1) c) w' ∧
      Fam B n (fun j => if j = m then .slice (some ⟨g, 0, none⟩) ((Lf m).length + 1) c else V j) (fun j => if j = m then Lf m ++ [s] else Lf j) w' ∧ (∀ k, k < B → k < w.heap.size → w'.heap[k]? = w.heap[k]?) ∧ Below B w w' := by
  obtain ⟨v', w', hr, hown, hgrow, _, hat⟩ := run_append_own_at (P := Try.prog) (w.alloc (.cells #[.int .i64 (s : Int)] 3)) B 46 46 3 r0 _ 1 8 Try.underlying46 hJ h0 h1 h2 rfl (by decide) (V m) (Lf m).length _ ((hF.1 m hm).alloc _) ⟨w.heap.size, 0, none⟩ 1 1 [.int .i64 (s : Int)] rfl (World.news_of_block (heap_alloc_new w _)) (by simp [Value.oneCell']) (by unfold maxLen; omega) (by omega) (by simp; omega)
  obtain ⟨g, c, rfl, hg1, hg2⟩ := hown.form (by omega)
  have hk : ∀ k, k < B → k < w.heap.size → w'.heap[k]? = w.heap[k]? := fun k hk1 hk2 => by
    rw [hgrow.block k (by simp; omega) (fun e => by have := ((hF.1 m hm).lt k e.symm).1; omega)]
    exact Below.heap_alloc _ _ _ hk2
  refine ⟨g, c, w', hr, Fam.step (hF.alloc (.cells #[.int .i64 (s : Int)] 3)) hm hown hgrow ?_, hk, ?_⟩
  · rcases hat with e | e
    · exact .inl e.symm
    · right
      have : some g = some (w.alloc (.cells #[.int .i64 (s : Int)] 3)).heap.size := e
      simpa using this
  · exact ((Below.refl B w).alloc hB _).grown hgrow (by simp; omega) (fun k e => ((hF.1 m hm).lt k e).1)
attribute [local go_sem ↓] appF_fold
theorem infoInts : (Try.prog.info? 46).map (fun i => (i.zero, i.size, i.bytes)) = some (some (.slice none 0 0), 1, 24) := by kernel_rfl
/-- the rows of each member, in memory -/
def FamR (B n g : Nat) (P : List (Nat × Nat)) (w : World) : Prop := ∃ V, Fam B n V (inL P) w ∧ w.rowIs g 46 n V
set_option maxRecDepth 100000 in
set_option maxHeartbeats 4000000 in
theorem rowsOf_any (n : Nat) (A : Option Addr) (c : Nat) (L : List (Int × List Nat)) (w : World) (hn : n ≤ 16) (hL : L.length ≤ 48) (hP : ∀ i, i < L.length → RowP n (L.getD i (0, []))) (hR : RW w A L) :
    Calls Try.prog 81 #[.slice A L.length c, .int .i64 (n : Int)] w fun e w' => e = .returned (.slice (some ⟨w.heap.size, 0, none⟩) n n) ∧ FamR (w.heap.size + 1) n w.heap.size (prs L L.length) w' ∧ Below w.heap.size w w' := by
  obtain ⟨r0, hr, hr0, hr1, hr2⟩ := info_parts infoInt
  have HAPP : Hid (∀ (B n m s : Nat) (V : Nat → Value) (Lf : Nat → List Nat) (w : World), Fam B n V Lf w → m < n → B ≤ w.heap.size → (Lf m).length ≤ 1000 →
    ∃ g c w', Sem.run Try.prog (appF #[46, 46] 46 #[V m, .slice (some ⟨w.heap.size, 0, none⟩) 1 1]) (w.alloc (.cells #[.int .i64 (s : Int)] 3)) = .ok (.slice (some ⟨g, 0, none⟩) ((Lf m).length + 1) c) w' ∧
      Fam B n (fun j => if j = m then .slice (some ⟨g, 0, none⟩) ((Lf m).length + 1) c else V j) (fun j => if j = m then Lf m ++ [s] else Lf j) w' ∧ (∀ k, k < B → k < w.heap.size → w'.heap[k]? = w.heap[k]?) ∧ Below B w w') := Lib.hid fun B n m s V Lf w a b c d => app_run hr hr0 hr1 hr2 B n m s V Lf w a b c d
  clear hr hr0 hr1 hr2
  have HR := Lib.hid hR
  have HP := Lib.hid hP
  have HPL := Lib.hid (prs_len L fun i hi => (hP i hi).len)
  have hmk := run_make_row' (P := Try.prog) 169 46 (.slice none 0 0) 24 Try.underlying169 infoInts rfl .i64 .i64 n (by omega) (by omega)
  clear hR hP
  obtain ⟨R, hRl⟩ : ∃ x, L.length = x := ⟨_, rfl⟩
  have HRL := Lib.hid hRl
  rw [hRl] at hL HP HPL ⊢
  clear hRl
  obtain ⟨g, hg⟩ : ∃ x, w.heap.size = x := ⟨_, rfl⟩
  have HG := Lib.hid hg
  go_enter Try.func81, Try.ntmps81
  go_upto_region 2 with fail
  refine nameW ?_
  intro W0 hW0
  have HB0 : Hid (Below w.heap.size w W0) := Lib.hid (by rw [← hW0]; exact bel_alloc (Below.refl _ _) _)
  have HF0 : Hid (FamR (g + 1) n g (prs L 0) W0) := Lib.hid ⟨fun _ => .slice none 0 0, by rw [prs_zero]; exact Fam.nil _ _ _, by rw [← hW0, ← hg]; exact World.rowIs_made w (.slice none 0 0) n 46⟩
  have HS0 : Hid (g + 1 ≤ W0.heap.size) := Lib.hid (by rw [← hW0, World.size_alloc, hg]; exact Nat.le_refl _)
  clear hW0 hmk
  try rw [hg]
  go_wp2_with fail
  go_loopw [14] (fun i wr => ∃ k : Nat, k ≤ R ∧ i = .int .i64 k ∧ FamR (g + 1) n g (prs L k) wr ∧ Below w.heap.size w wr ∧ g + 1 ≤ wr.heap.size) (fun i _ => R - (intOf i).toNat)
  case atStart => exact ⟨0, by omega, rfl, HF0.out, HB0.out, HS0.out⟩
  case round =>
    obtain ⟨i, hi, rfl, hfam, hb, hs⟩ := hrel
    obtain ⟨wa, hwa⟩ : ∃ x, x = wr := ⟨_, rfl⟩
    subst hwa
    have HBa := Lib.hid hb
    have HFa := Lib.hid hfam
    have HSa := Lib.hid hs
    clear hb hfam hs HB0 HF0 HS0
    by_cases hlt : i < R
    · obtain ⟨b, o, rfl, hl, h0w, MA, mc, h1w, ⟨h2, h3⟩, h4⟩ := HR.out i (by rw [HRL.out]; exact hlt)
      have h0 := old_at h0w HBa.out
      have h1 := old_at h1w HBa.out
      clear h0w h1w
      have hrp := HP.out i hlt
      have hps := prs_succ L i
      have hrs := rowP_succ L i
      have hrz := rowP_zero L i
      have hrle := rowP_len L i
      have hpl := HPL.out i hi
      obtain ⟨r, hr⟩ : ∃ x, L.getD i (0, []) = x := ⟨_, rfl⟩
      rw [hr] at h0 h1 h2 h4 hrp hps hrs
      have hrl := hrp.len
      have HLT := Lib.hid hrp.lt
      have HPS := Lib.hid hps
      have HRS := Lib.hid hrs
      have HRZ := Lib.hid hrz
      have HRE := Lib.hid hrle
      clear hr hrp hps hrs hrz hrle
      obtain ⟨cp, ml⟩ := r
      simp only at h0 h1 h2 h4 hrl HLT HPS HRS
      obtain ⟨n1, hn1⟩ : ∃ x, ml.length = x := ⟨_, rfl⟩
      rw [hn1] at h1 h2 h4 hrl HLT HPS HRS
      have HM := Lib.hid h4
      clear hn1 h4
      go_upto_region 5 with fail
      all_goals (try (exfalso; omega))
      refine nameW ?_
      intro wc hwc
      have hbc : Below wa.heap.size wa wc := by rw [← hwc]; exact bel_alloc (Below.refl _ _) _
      have e1 : wc.cell? ⟨wa.heap.size, 1, none⟩ = some (.slice MA n1 mc) := by rw [← hwc]; simp
      have HFc : Hid (FamR (g + 1) n g (prs L i ++ rowP L i 0) wc) := Lib.hid (by
        obtain ⟨V, f1, f2⟩ := HFa.out
        rw [HRZ.out]
        exact ⟨V, f1.keep hbc, rowIs_below f2 hbc⟩)
      have HBc := Lib.hid (HBa.out.trans (hbc.mono HBa.out.size))
      have HSc : Hid (g + 1 ≤ wc.heap.size) := Lib.hid (Nat.le_trans HSa.out hbc.size)
      clear hwc hbc h0 h1 HFa HBa
      go_wp2_with fail
      clear e1
      go_loopw [22] (fun x wr => ∃ k : Nat, k ≤ n1 ∧ x = .int .i64 k ∧ FamR (g + 1) n g (prs L i ++ rowP L i k) wr ∧ Below w.heap.size w wr ∧ g + 1 ≤ wr.heap.size) (fun x _ => n1 - (intOf x).toNat)
      case atStart => exact ⟨0, by omega, rfl, HFc.out, HBc.out, HSc.out⟩
      case round =>
        obtain ⟨k, hk, rfl, hfam, hb, hs⟩ := hrel
        obtain ⟨wb, hwb⟩ : ∃ x, x = wr := ⟨_, rfl⟩
        subst hwb
        have HBb := Lib.hid hb
        have HSb := Lib.hid hs
        have HFb := Lib.hid hfam
        clear hfam hb hs HFc HBc HSc
        by_cases hlk : k < n1
        · obtain ⟨b', o', rfl, hl', hc⟩ := (HM.out.keep HBb.out) k hlk
          have hm0 := HLT.out k hlk
          have hrs := HRS.out k hlk
          have hrk := HRE.out k
          obtain ⟨m, hm⟩ : ∃ x, ml.getD k 0 = x := ⟨_, rfl⟩
          have hc' : wb.cell? ⟨b', o' + k, none⟩ = some (.int .i64 ((m : Nat) : Int)) := by rw [hc, ← hm]
          rw [hm] at hm0 hrs
          obtain ⟨V, f1, f2⟩ := HFb.out
          have hln : (inL (prs L i ++ rowP L i k) m).length ≤ 1000 := by
            have h9 := inL_len (prs L i ++ rowP L i k) m
            rw [List.length_append] at h9
            omega
          obtain ⟨g', c', wB, hrun, hF', hkp, hbl⟩ := HAPP.out (g + 1) n m i V (inL (prs L i ++ rowP L i k)) wb f1 hm0 HSb.out hln
          have cV := f2.cell hm0
          have hI : wB.rowIs g 46 n V := f2.of_block (hkp g (by omega) f2.lt)
          have cB := hI.cell hm0
          have fB := hI.frozen m
          have HI := Lib.hid hI
          have HF' := Lib.hid hF'
          have HBL := Lib.hid hbl
          have HRS' := Lib.hid hrs
          clear hc hm hI hF' hkp hbl f1 f2 hrs hrk
          go_wp2_with fail
          all_goals (try (exfalso; omega))
          go_roundw
          case rel =>
            refine ⟨k + 1, by omega, by go_num, ⟨_, ?_, HI.out.set m _⟩, ?_, ?_⟩
            · rw [HRS'.out, inL_snoc]
              exact HF'.out.set (p := ⟨g, m, none⟩) (by simp) _
            · exact (HBb.out.trans (HBL.out.mono (by have := HG.out; omega))).setCell (p := ⟨g, m, none⟩) (Nat.le_of_eq HG.out) _
            · have h1 := HBL.out.size
              have h2 := HSb.out
              simp [World.setCell]
              omega
          case measure => simp [intOf] <;> omega
        · obtain rfl : k = n1 := by omega
          have hF : Hid (FamR (g + 1) n g (prs L (i + 1)) wb) := Lib.hid (by rw [HPS.out]; exact HFb.out)
          go_wp2_with fail
          all_goals (try (exfalso; omega))
          go_roundw
          case rel => exact ⟨i + 1, by omega, by go_num, hF.out, HBb.out, HSb.out⟩
          case measure => simp [intOf] <;> omega
    · obtain rfl : i = R := by omega
      go_wp2_with fail
      all_goals (try (exfalso; omega))
      go_ret
      exact ⟨by have h := HG.out; subst h; rfl, by rw [HG.out]; exact HFa.out, HBa.out⟩
end Go.Proofs.Ytkhmlbkkdflnoaa.Nm
