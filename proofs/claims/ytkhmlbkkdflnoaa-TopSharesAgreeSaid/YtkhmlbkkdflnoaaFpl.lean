/-
  fair.Share, in plain words; append and copy within a row.
-/
import Derived.Test.YtkhmlbkkdflnoaaFsr
import Derived.Laws.CopyRow
import Derived.ArgAppend
namespace Go.Proofs.Ytkhmlbkkdflnoaa.Nm
open Go.RowKit Go.Proofs.Ytkhmlbkkdflnoaa Go
set_option linter.unusedVariables false

/-- copy, kept folded for the walk -/
def cpyF (ats : Array TypeId) (ty : TypeId) (args : Array Value) : Sem Value := Builtin.copy_ ats ty args
theorem cpyF_fold (ats : Array TypeId) (ty : TypeId) (args : Array Value) : Builtin.copy_ ats ty args = cpyF ats ty args := rfl
theorem copy_run (ty : TypeId) (g n c : Nat) (f : Nat → Value) (A : Option Addr) (z : Nat → Int) (W : World) (hI : W.rowIs g 3 n f) (hz : RZ W A n z) :
    ∃ w', Sem.run Try.prog (cpyF #[46, 46] ty #[.slice (some ⟨g, 0, none⟩) n n, .slice A n c]) W = .ok (goInt n) w' ∧ w'.rowIs g 3 n (fun i => .int .i64 (z i)) ∧ Exc (fun k => k = g) W w' := by
  have hsz : (Try.prog.info? 3).map (·.size) = some 1 := by kernel_rfl
  by_cases hn : n = 0
  · subst hn
    exact ⟨W, run_copy_none W 46 46 ty 3 _ A 0 0 0 c Try.underlying46 hsz rfl, hI.congr (fun i hi => by omega), Exc.refl _⟩
  · obtain ⟨b, o, rfl, hl, _⟩ := hz 0 (by omega)
    obtain ⟨cur, hg, hs, hc⟩ := hI
    obtain ⟨cs, hcs⟩ : ∃ cs, (List.range n).map (fun i => Value.int .i64 (z i)) = cs := ⟨_, rfl⟩
    have hlen : cs.length = n := by rw [← hcs]; simp
    have hr := run_copy_row (P := Try.prog) W 46 46 ty 3 g 0 n n ⟨b, o, none⟩ n c cur 3 cs Try.underlying46 hsz hg (by rw [hlen]; exact (Nat.min_self n).symm)
      (fun j v hv => by
        have hj : j < n := by have := (List.getElem?_eq_some_iff.1 hv).1; omega
        obtain ⟨b', o', e, _, h⟩ := hz j hj
        cases e
        have hadd : (⟨b, o, none⟩ : Addr).add j = ⟨b, o + j, none⟩ := by unfold Addr.add; split <;> simp_all
        rw [hadd, h, ← hv, ← hcs]
        simp [hj])
      (by omega) (by rw [← hcs]; simp [Value.oneCell'])
    rw [hlen] at hr
    refine ⟨_, hr, ?_, ?_⟩
    · have e : (cur.toList.take 0 ++ cs ++ cur.toList.drop (0 + n)).toArray = cs.toArray := by
        have h1 : cur.toList.drop (0 + n) = [] := List.drop_eq_nil_of_le (by simp; omega)
        rw [h1]
        simp
      rw [e]
      refine ⟨cs.toArray, setRow_heap W g cur _ _ _ hg, by simpa using hlen, fun i hi => ?_⟩
      rw [← hcs]
      simp [hi]
    · exact ⟨rfl, rfl, rfl, by simp [World.setRow], fun k hk hn => setRow_other W g k _ hn⟩
theorem room_run (ty : TypeId) (g q n m : Nat) (f : Nat → Value) (w : World) (hI : w.rowIs g 3 n f) (hq : q < n) :
    ∃ w', Sem.run Try.prog (appF #[46, 46] ty #[.slice (some ⟨g, 0, none⟩) q n, .slice (some ⟨w.heap.size, 0, none⟩) 1 1]) (w.alloc (.cells #[.int .i64 (m : Int)] 3)) = .ok (.slice (some ⟨g, 0, none⟩) (q + 1) n) w' ∧
      w'.rowIs g 3 n (fun j => if j = q then .int .i64 (m : Int) else f j) ∧ Exc (fun k => k = g) w w' := by
  obtain ⟨i, hi, _, hi1, _⟩ := info_parts infoInt
  have hI' : (w.alloc (.cells #[.int .i64 (m : Int)] 3)).rowIs g 3 n f := hI.alloc _
  have hr := run_append_room_cells (P := Try.prog) (w.alloc (.cells #[.int .i64 (m : Int)] 3)) 46 ty 3 i Try.underlying46 hi g 0 q n ⟨w.heap.size, 0, none⟩ 1 1 [.int .i64 (m : Int)] (by rw [hi1]; rfl) (World.news_of_block (heap_alloc_new w _)) (by simp [Value.oneCell']) (by omega)
    (fun j hj => by
      have : j = 0 := by simpa using hj
      subst this
      rw [hi1, show 0 + q * 1 + 0 = q by omega, hI'.cell hq]; rfl)
    (fun j hj => hI'.frozen _)
  rw [hi1, show 0 + q * 1 = q by omega] at hr
  refine ⟨_, hr, hI'.set q _, ?_⟩
  exact Exc.set (P := fun k => k = g) (Exc.alloc (Exc.refl w) _) (p := ⟨g, q, none⟩) rfl _
/-! the plain words -/
structure FSt where
  kept : List Nat
  lf : Nat → Int
  x : Nat → Int
def frise (P : List (Nat × Nat)) (top : Nat → Int) (s : FSt) (m : Nat) : FSt :=
  if mayB top s.x s.lf (inL P m) m = true then ⟨s.kept ++ [m], dec (inL P m) s.lf, fun j => if j = m then s.x m + 1 else s.x j⟩ else s
def fpass (P : List (Nat × Nat)) (top : Nat → Int) (rs : List Nat) (lf x : Nat → Int) : FSt := rs.foldl (frise P top) ⟨[], lf, x⟩
theorem fpass_snoc (P : List (Nat × Nat)) (top : Nat → Int) (rs : List Nat) (m : Nat) (lf x : Nat → Int) : fpass P top (rs ++ [m]) lf x = frise P top (fpass P top rs lf x) m := by simp [fpass, List.foldl_append]
def frun (P : List (Nat × Nat)) (top : Nat → Int) : Nat → List Nat → (Nat → Int) → (Nat → Int) → (Nat → Int)
  | 0, _, _, x => x
  | f + 1, rs, lf, x => if (fpass P top rs lf x).kept.length = 0 then (fpass P top rs lf x).x else frun P top f (fpass P top rs lf x).kept (fpass P top rs lf x).lf (fpass P top rs lf x).x
/-- what stays true of numbers -/
structure Gd (R n : Nat) (top lf x : Nat → Int) : Prop where
  lf : ∀ i, i < R → 0 ≤ lf i ∧ lf i ≤ 1000
  x : ∀ m, m < n → 0 ≤ x m ∧ x m ≤ top m
theorem dec_nodup {l : List Nat} (h : l.Nodup) (f : Nat → Int) : ∀ j, dec l f j = if j ∈ l then f j - 1 else f j := by
  induction l using rev_ind with
  | h0 => intro j; simp [dec]
  | h1 pre a ih =>
    intro j
    rw [List.nodup_append] at h
    obtain ⟨h1, h2, h3⟩ := h
    have hn : a ∉ pre := fun hm => h3 a hm a (by simp) rfl
    rw [dec_snoc]
    by_cases e : j = a
    · subst e
      simp [ih h1, hn]
    · simp [ih h1, e]
theorem mayB_iff {top x lf : Nat → Int} {l : List Nat} {m : Nat} : mayB top x lf l m = true ↔ ¬ x m = top m ∧ ∀ i ∈ l, ¬ lf i = 0 := by simp [mayB]
theorem Gd.rise {R n m : Nat} {P : List (Nat × Nat)} {top lf x : Nat → Int} (h : Gd R n top lf x) (hN : (inL P m).Nodup) (hm : m < n) (hR : ∀ i ∈ inL P m, i < R) (hy : mayB top x lf (inL P m) m = true) : Gd R n top (dec (inL P m) lf) (fun j => if j = m then x m + 1 else x j) := by
  obtain ⟨h1, h2⟩ := mayB_iff.1 hy
  refine ⟨fun i hi => ?_, fun j hj => ?_⟩
  · rw [dec_nodup hN]
    have h3 := h.lf i hi
    split
    · have := h2 i (by assumption)
      omega
    · exact h3
  · have h3 := h.x j hj
    split
    · rename_i e
      subst e
      omega
    · exact h3
/-- how far it may still go -/
def pot (n : Nat) (top x : Nat → Int) : Nat := ((List.range n).map fun m => (top m - x m).toNat).sum
theorem sum_upd (n m : Nat) (g g' : Nat → Nat) (hm : m < n) (he : ∀ j, j ≠ m → g j = g' j) (h1 : g m = g' m + 1) : ((List.range n).map g).sum = ((List.range n).map g').sum + 1 := by
  induction n with
  | zero => omega
  | succ n ih =>
    simp only [List.range_succ, List.map_append, List.sum_append, List.map_cons, List.map_nil, List.sum_cons, List.sum_nil]
    by_cases e : m = n
    · subst e
      have : (List.range m).map g = (List.range m).map g' := List.map_congr_left fun j hj => he j (by have := List.mem_range.1 hj; omega)
      rw [this]
      omega
    · have := ih (by omega)
      have := he n (fun h => e h.symm)
      omega
theorem pot_rise {n m : Nat} {top x : Nat → Int} (hm : m < n) (h : x m < top m) : pot n top x = pot n top (fun j => if j = m then x m + 1 else x j) + 1 := by
  unfold pot
  refine sum_upd n m _ _ hm (fun j hj => by simp [hj]) ?_
  simp
  omega
/-- a pass keeps what is true, and lowers the potential by as many as rise -/
theorem fpass_ok {R n : Nat} {P : List (Nat × Nat)} {top : Nat → Int} (hN : ∀ m, m < n → (inL P m).Nodup) (hR : ∀ m, m < n → ∀ i ∈ inL P m, i < R) : ∀ (rs : List Nat) (lf x : Nat → Int), (∀ m ∈ rs, m < n) → Gd R n top lf x →
    Gd R n top (fpass P top rs lf x).lf (fpass P top rs lf x).x ∧ pot n top x = pot n top (fpass P top rs lf x).x + (fpass P top rs lf x).kept.length ∧ (fpass P top rs lf x).kept.length ≤ rs.length ∧ (∀ m ∈ (fpass P top rs lf x).kept, m ∈ rs) := by
  intro rs lf x
  induction rs using rev_ind with
  | h0 => intro _ h; exact ⟨h, by simp [fpass], by simp [fpass], by simp [fpass]⟩
  | h1 pre m ih =>
    intro hm hG
    obtain ⟨i1, i2, i3, i4⟩ := ih (fun a ha => hm a (by simp [ha])) hG
    have hmn := hm m (by simp)
    rw [fpass_snoc]
    obtain ⟨s, hs⟩ : ∃ s, fpass P top pre lf x = s := ⟨_, rfl⟩
    rw [hs] at i1 i2 i3 i4 ⊢
    unfold frise
    split
    · rename_i hy
      have h1 := i1.rise (hN m hmn) hmn (hR m hmn) hy
      have h2 := (mayB_iff.1 hy).1
      have h3 := i1.x m hmn
      have h4 := pot_rise (n := n) (m := m) (top := top) (x := s.x) hmn (by omega)
      refine ⟨h1, ?_, by simp; omega, fun a ha => ?_⟩
      · simp only [List.length_append, List.length_cons, List.length_nil]
        omega
      · simp only [List.mem_append, List.mem_singleton] at ha
        rcases ha with ha | rfl
        · simp [i4 a ha]
        · simp
    · exact ⟨i1, i2, by simp; omega, fun a ha => by simp [i4 a ha]⟩
end Go.Proofs.Ytkhmlbkkdflnoaa.Nm
