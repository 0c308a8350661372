/-
  THE WALKS over package share, eighth part: Receive.
-/
import Derived.Test.YteeohndgkfilaaaSendb
namespace Go.Proofs.Yteeohndgkfilaaa
open Go.RowKit
set_option linter.unusedVariables false
attribute [local go_sem ↓] Go.wp_at_zero Go.wp_at_succ

/-- a number at its place in an ordered list -/
def insO (x : Int) : List Int → List Int
  | [] => [x]
  | y :: l => if x < y then x :: y :: l else y :: insO x l
theorem at1_cons (y : Int) (l : List Int) (i : Nat) : at1 (y :: l) (i + 1) = at1 l i := rfl
theorem insO_at {x : Int} : ∀ (l : List Int) (p : Nat), p ≤ l.length → (∀ i, i < p → at1 l i < x) → (∀ i, p ≤ i → i < l.length → x < at1 l i) → l.take p ++ x :: l.drop p = insO x l := by
  intro l
  induction l with
  | nil => intro p hp _ _; simp [insO]
  | cons y l ih =>
    intro p hp h1 h2
    cases p with
    | zero =>
      have : x < y := h2 0 (by omega) (by simp)
      simp [insO, this]
    | succ p =>
      have : y < x := h1 0 (by omega)
      simp only [insO, if_neg (show ¬ x < y by omega), List.take_succ_cons, List.drop_succ_cons, List.cons_append]
      rw [ih p (by simpa using hp) (fun i hi => h1 (i + 1) (by omega)) (fun i h3 h4 => h2 (i + 1) (by omega) (by simp; omega))]
theorem insO_len (x : Int) (l : List Int) : (insO x l).length = l.length + 1 := by
  induction l with
  | nil => rfl
  | cons y l ih => simp only [insO]; split <;> simp [ih]
theorem mem_at {l : List Int} {x : Int} : x ∈ l ↔ ∃ i, i < l.length ∧ at1 l i = x := by
  constructor
  · intro h
    obtain ⟨i, hi, he⟩ := List.getElem_of_mem h
    exact ⟨i, hi, by have := at1_get hi; rw [List.getElem?_eq_getElem hi] at this; exact (Option.some.inj this).symm.trans he⟩
  · rintro ⟨i, hi, rfl⟩
    exact List.mem_of_getElem? (at1_get hi)
theorem place_mem {l : List Int} {x : Int} {p n : Nat} (hI : Inc l) (hn : l.length = n) (hp : Place (at1 l) n x p) : (p < n ∧ at1 l p = x) ↔ x ∈ l := by
  subst hn
  rw [mem_at]
  constructor
  · rintro ⟨h1, h2⟩; exact ⟨p, h1, h2⟩
  · rintro ⟨i, hi, he⟩
    rcases Nat.lt_trichotomy i p with h | h | h
    · have := hp.2.1 i h; omega
    · subst h; exact ⟨hi, he⟩
    · have h1 := inc_lt hI p i h hi
      have h2 := hp.2.2 p (Nat.le_refl _) (by omega)
      omega
theorem place_ins {l : List Int} {x : Int} {p n : Nat} (hI : Inc l) (hn : l.length = n) (hp : Place (at1 l) n x p) (hx : x ∉ l) : l.take p ++ x :: l.drop p = insO x l := by
  have hm := place_mem hI hn hp
  subst hn
  refine insO_at l p hp.1 hp.2.1 fun i h1 h2 => ?_
  have h3 := hp.2.2 i h1 h2
  have h4 : at1 l i ≠ x := fun e => hx (mem_at.2 ⟨i, h2, e⟩)
  omega
/-- what Receive answers -/
noncomputable def rE (h nx : Int) (O : List (Int × Int)) (I : List Int) (x y : Int) : Int :=
  if vB h nx O I = true ∧ vT (x, y) = true then (if x ∈ I then 5 else if I.length = 64 then 10 else if 1000 < h + y then 3 else 0) else 1
def RecvR (W : World) (v : Value) (er : Int) (h nx : Int) (O : List (Int × Int)) (I : List Int) (x y : Int) : Prop :=
  er = rE h nx O I x y ∧ ((er = 0 ∧ SN W v (h + y) nx O (insO x I)) ∨ (er ≠ 0 ∧ v = zS))

set_option maxRecDepth 100000 in
set_option maxHeartbeats 4000000 in
theorem recv_b1 (h nx : Int) (A : Option Addr) (n c : Nat) (B : Option Addr) (m d : Nat) (O : List (Int × Int)) (I : List Int) (x y : Int) (w : World) (hn : n ≤ 9223372036854775807) (hm : m ≤ 9223372036854775807) (hlO : O.length = n) (hlI : I.length = m) (hRO : RL w A (cT O)) (hRI : RL w B (cI I)) (hAn : A = none → n = 0 ∧ c = 0) (hBn : B = none → m = 0 ∧ d = 0) (hv : vB h nx O I = false) :
    Calls Try.prog 13 #[.agg #[.int .i64 h, .int .i64 nx, .slice A n c, .slice B m d], .agg #[.int .i64 x, .int .i64 y]] w fun e w' => e = .returned (.tuple #[zS, .int .i64 1]) ∧ Below w.heap.size w w' := by
  have HV := Lib.hid hv
  have HRO := Lib.hid hRO
  have HRI := Lib.hid hRI
  have HLO := Lib.hid hlO
  have HLI := Lib.hid hlI
  have HAN := Lib.hid hAn
  have HBN := Lib.hid hBn

  clear hv hRO hRI hlO hlI hAn hBn
  go_enter Try.func13, Try.ntmps13
  go_wp2_with (first
    | (go_at_call 18; with_reducible refine (val_any h nx A n c B m d O I _ hn hm HLO.out HLI.out (HRO.out.keep (bel_alloc (bel_alloc (bel_a w _) _) _)) (HRI.out.keep (bel_alloc (bel_alloc (bel_a w _) _) _))).mono ?_; rintro e w1 ⟨rfl, h1⟩; rw [HV.out]
       have H1 := Lib.hid (bel_step (bel_alloc (bel_alloc (bel_a w (.cells #[.int .i64 h, .int .i64 nx, .slice A n c, .slice B m d] 25)) (.cells #[.int .i64 x, .int .i64 y] 27)) (.cells #[.int .i64 0, .int .i64 0, .slice none 0 0, .slice none 0 0] 25)) h1)
       have p0 := (((OW.new w 25 [.int .i64 h, .int .i64 nx, .slice A n c, .slice B m d]).alloc (.cells #[.int .i64 x, .int .i64 y] 27)).alloc (.cells #[.int .i64 0, .int .i64 0, .slice none 0 0, .slice none 0 0] 25)).keep h1
       have p1 := ((OW.new1 w (.cells #[.int .i64 h, .int .i64 nx, .slice A n c, .slice B m d] 25) 27 [.int .i64 x, .int .i64 y]).alloc (.cells #[.int .i64 0, .int .i64 0, .slice none 0 0, .slice none 0 0] 25)).keep h1
       have p2 := (OW.new2 w (.cells #[.int .i64 h, .int .i64 nx, .slice A n c, .slice B m d] 25) (.cells #[.int .i64 x, .int .i64 y] 27) 25 [.int .i64 0, .int .i64 0, .slice none 0 0, .slice none 0 0]).keep h1
       have P0 := Lib.hid p0
       have P1 := Lib.hid p1
       have P2 := Lib.hid p2
       have l0 := p0.lt
       have l1 := p1.lt
       have l2 := p2.lt
       have c10 := p1.at (j := 0) rfl
       have c11 := p1.at (j := 1) rfl
       have c20 := p2.at (j := 0) rfl
       have c21 := p2.at (j := 1) rfl
       have c22 := p2.at (j := 2) rfl
       have c23 := p2.at (j := 3) rfl
       have z20 := p2.thaw 0
       have z21 := p2.thaw 1
       have z22 := p2.thaw 2
       have z23 := p2.thaw 3
       clear p0 p1 p2 h1))
  all_goals (try (exfalso; omega))
  have f1 := (((P2.out.set 0 (.int .i64 0)).set 1 (.int .i64 0)).set 2 (.slice none 0 0)).set 3 (.slice none 0 0)
  have fb := (((H1.out.setCell (p := ⟨w.heap.size + 1 + 1, 0, none⟩) (by show w.heap.size ≤ w.heap.size + 1 + 1; omega) (.int .i64 0)).setCell (p := ⟨w.heap.size + 1 + 1, 1, none⟩) (by show w.heap.size ≤ w.heap.size + 1 + 1; omega) (.int .i64 0)).setCell (p := ⟨w.heap.size + 1 + 1, 2, none⟩) (by show w.heap.size ≤ w.heap.size + 1 + 1; omega) (.slice none 0 0)).setCell (p := ⟨w.heap.size + 1 + 1, 3, none⟩) (by show w.heap.size ≤ w.heap.size + 1 + 1; omega) (.slice none 0 0)
  obtain ⟨wF, hwF⟩ : ∃ wF, (((w1.setCell ⟨w.heap.size + 1 + 1, 0, none⟩ (.int .i64 0)).setCell ⟨w.heap.size + 1 + 1, 1, none⟩ (.int .i64 0)).setCell ⟨w.heap.size + 1 + 1, 2, none⟩ (.slice none 0 0)).setCell ⟨w.heap.size + 1 + 1, 3, none⟩ (.slice none 0 0) = wF := ⟨_, rfl⟩
  rw [hwF] at f1 fb ⊢
  have d0 : wF.cell? ⟨w.heap.size + 1 + 1, 0, none⟩ = some (.int .i64 0) := f1.at rfl
  have d1 : wF.cell? ⟨w.heap.size + 1 + 1, 1, none⟩ = some (.int .i64 0) := f1.at rfl
  have d2 : wF.cell? ⟨w.heap.size + 1 + 1, 2, none⟩ = some (.slice none 0 0) := f1.at rfl
  have d3 : wF.cell? ⟨w.heap.size + 1 + 1, 3, none⟩ = some (.slice none 0 0) := f1.at rfl
  (try simp only [Exit.inBlock, Exit.then])
  refine bodyPost_ret (by simp [results, Try.results13, go_sem, d0, d1, d2, d3]; try rfl) rfl ?_
  exact ⟨rfl, fb⟩

set_option maxRecDepth 100000 in
set_option maxHeartbeats 4000000 in
theorem recv_b2 (h nx : Int) (A : Option Addr) (n c : Nat) (B : Option Addr) (m d : Nat) (O : List (Int × Int)) (I : List Int) (x y : Int) (w : World) (hn : n ≤ 9223372036854775807) (hm : m ≤ 9223372036854775807) (hlO : O.length = n) (hlI : I.length = m) (hRO : RL w A (cT O)) (hRI : RL w B (cI I)) (hAn : A = none → n = 0 ∧ c = 0) (hBn : B = none → m = 0 ∧ d = 0) (hv : vB h nx O I = true) (ht : vT (x, y) = false) :
    Calls Try.prog 13 #[.agg #[.int .i64 h, .int .i64 nx, .slice A n c, .slice B m d], .agg #[.int .i64 x, .int .i64 y]] w fun e w' => e = .returned (.tuple #[zS, .int .i64 1]) ∧ Below w.heap.size w w' := by
  have HV := Lib.hid hv
  have HRO := Lib.hid hRO
  have HRI := Lib.hid hRI
  have HLO := Lib.hid hlO
  have HLI := Lib.hid hlI
  have HAN := Lib.hid hAn
  have HBN := Lib.hid hBn
  have HT := Lib.hid ht
  clear ht
  clear hv hRO hRI hlO hlI hAn hBn
  go_enter Try.func13, Try.ntmps13
  go_wp2_with (first
    | (go_at_call 18; with_reducible refine (val_any h nx A n c B m d O I _ hn hm HLO.out HLI.out (HRO.out.keep (bel_alloc (bel_alloc (bel_a w _) _) _)) (HRI.out.keep (bel_alloc (bel_alloc (bel_a w _) _) _))).mono ?_; rintro e w1 ⟨rfl, h1⟩; rw [HV.out]
       have H1 := Lib.hid (bel_step (bel_alloc (bel_alloc (bel_a w (.cells #[.int .i64 h, .int .i64 nx, .slice A n c, .slice B m d] 25)) (.cells #[.int .i64 x, .int .i64 y] 27)) (.cells #[.int .i64 0, .int .i64 0, .slice none 0 0, .slice none 0 0] 25)) h1)
       have p0 := (((OW.new w 25 [.int .i64 h, .int .i64 nx, .slice A n c, .slice B m d]).alloc (.cells #[.int .i64 x, .int .i64 y] 27)).alloc (.cells #[.int .i64 0, .int .i64 0, .slice none 0 0, .slice none 0 0] 25)).keep h1
       have p1 := ((OW.new1 w (.cells #[.int .i64 h, .int .i64 nx, .slice A n c, .slice B m d] 25) 27 [.int .i64 x, .int .i64 y]).alloc (.cells #[.int .i64 0, .int .i64 0, .slice none 0 0, .slice none 0 0] 25)).keep h1
       have p2 := (OW.new2 w (.cells #[.int .i64 h, .int .i64 nx, .slice A n c, .slice B m d] 25) (.cells #[.int .i64 x, .int .i64 y] 27) 25 [.int .i64 0, .int .i64 0, .slice none 0 0, .slice none 0 0]).keep h1
       have P0 := Lib.hid p0
       have P1 := Lib.hid p1
       have P2 := Lib.hid p2
       have l0 := p0.lt
       have l1 := p1.lt
       have l2 := p2.lt
       have c10 := p1.at (j := 0) rfl
       have c11 := p1.at (j := 1) rfl
       have c20 := p2.at (j := 0) rfl
       have c21 := p2.at (j := 1) rfl
       have c22 := p2.at (j := 2) rfl
       have c23 := p2.at (j := 3) rfl
       have z20 := p2.thaw 0
       have z21 := p2.thaw 1
       have z22 := p2.thaw 2
       have z23 := p2.thaw 3
       clear p0 p1 p2 h1)
    | (go_at_call 25; with_reducible refine (valT x y _).mono ?_; rintro e w2 ⟨rfl, h2⟩; rw [HT.out]
       have H2 := Lib.hid (bel_step H1.out h2)
       have Q0 := Lib.hid (P0.out.keep h2)
       have Q1 := Lib.hid (P1.out.keep h2)
       have Q2 := Lib.hid (P2.out.keep h2)
       have m0 := Q0.out.lt
       have m1 := Q1.out.lt
       have m2 := Q2.out.lt
       have b00 := Q0.out.at (j := 0) rfl
       have b01 := Q0.out.at (j := 1) rfl
       have b02 := Q0.out.at (j := 2) rfl
       have b03 := Q0.out.at (j := 3) rfl
       have b10 := Q1.out.at (j := 0) rfl
       have b11 := Q1.out.at (j := 1) rfl
       have b20 := Q2.out.at (j := 0) rfl
       have b21 := Q2.out.at (j := 1) rfl
       have b22 := Q2.out.at (j := 2) rfl
       have b23 := Q2.out.at (j := 3) rfl
       have y20 := Q2.out.thaw 0
       have y21 := Q2.out.thaw 1
       have y22 := Q2.out.thaw 2
       have y23 := Q2.out.thaw 3
       clear h2))
  all_goals (try (exfalso; omega))
  have f1 := (((Q2.out.set 0 (.int .i64 0)).set 1 (.int .i64 0)).set 2 (.slice none 0 0)).set 3 (.slice none 0 0)
  have fb := (((H2.out.setCell (p := ⟨w.heap.size + 1 + 1, 0, none⟩) (by show w.heap.size ≤ w.heap.size + 1 + 1; omega) (.int .i64 0)).setCell (p := ⟨w.heap.size + 1 + 1, 1, none⟩) (by show w.heap.size ≤ w.heap.size + 1 + 1; omega) (.int .i64 0)).setCell (p := ⟨w.heap.size + 1 + 1, 2, none⟩) (by show w.heap.size ≤ w.heap.size + 1 + 1; omega) (.slice none 0 0)).setCell (p := ⟨w.heap.size + 1 + 1, 3, none⟩) (by show w.heap.size ≤ w.heap.size + 1 + 1; omega) (.slice none 0 0)
  obtain ⟨wF, hwF⟩ : ∃ wF, (((w2.setCell ⟨w.heap.size + 1 + 1, 0, none⟩ (.int .i64 0)).setCell ⟨w.heap.size + 1 + 1, 1, none⟩ (.int .i64 0)).setCell ⟨w.heap.size + 1 + 1, 2, none⟩ (.slice none 0 0)).setCell ⟨w.heap.size + 1 + 1, 3, none⟩ (.slice none 0 0) = wF := ⟨_, rfl⟩
  rw [hwF] at f1 fb ⊢
  have d0 : wF.cell? ⟨w.heap.size + 1 + 1, 0, none⟩ = some (.int .i64 0) := f1.at rfl
  have d1 : wF.cell? ⟨w.heap.size + 1 + 1, 1, none⟩ = some (.int .i64 0) := f1.at rfl
  have d2 : wF.cell? ⟨w.heap.size + 1 + 1, 2, none⟩ = some (.slice none 0 0) := f1.at rfl
  have d3 : wF.cell? ⟨w.heap.size + 1 + 1, 3, none⟩ = some (.slice none 0 0) := f1.at rfl
  (try simp only [Exit.inBlock, Exit.then])
  refine bodyPost_ret (by simp [results, Try.results13, go_sem, d0, d1, d2, d3]; try rfl) rfl ?_
  exact ⟨rfl, fb⟩

set_option maxRecDepth 100000 in
set_option maxHeartbeats 4000000 in
theorem recv_b3 (h nx : Int) (A : Option Addr) (n c : Nat) (B : Option Addr) (m d : Nat) (O : List (Int × Int)) (I : List Int) (x y : Int) (w : World) (hn : n ≤ 9223372036854775807) (hm : m ≤ 9223372036854775807) (hlO : O.length = n) (hlI : I.length = m) (hRO : RL w A (cT O)) (hRI : RL w B (cI I)) (hAn : A = none → n = 0 ∧ c = 0) (hBn : B = none → m = 0 ∧ d = 0) (hv : vB h nx O I = true) (ht : vT (x, y) = true) (hin : x ∈ I) :
    Calls Try.prog 13 #[.agg #[.int .i64 h, .int .i64 nx, .slice A n c, .slice B m d], .agg #[.int .i64 x, .int .i64 y]] w fun e w' => e = .returned (.tuple #[zS, .int .i64 5]) ∧ Below w.heap.size w w' := by
  have HV := Lib.hid hv
  have HRO := Lib.hid hRO
  have HRI := Lib.hid hRI
  have HLO := Lib.hid hlO
  have HLI := Lib.hid hlI
  have HAN := Lib.hid hAn
  have HBN := Lib.hid hBn
  have HT := Lib.hid ht
  have hvs := vB_iff.1 hv
  have hvt := vT_iff.1 ht
  have hh2 := hvs.1
  have hn64 : n ≤ 64 := by have := hvs.2.1; omega
  have hm64 : m ≤ 64 := by have := hvs.2.1; omega
  have HINC := Lib.hid hvs.2.2.2.2.2
  obtain ⟨⟨q1, q2⟩, q3, q4⟩ := hh2
  obtain ⟨q5, q6⟩ := hvt
  simp only [] at q5 q6
  have HFD : Hid (∀ p, Place (at1 I) m x p → decide (p < m ∧ at1 I p = x) = true) := Lib.hid fun p hp => by
    have := place_mem HINC.out hlI hp
    simp only [decide_eq_true_eq] at *
    simp [this, hin]
  clear hvs ht
  clear hv hRO hRI hlO hlI hAn hBn
  go_enter Try.func13, Try.ntmps13
  go_wp2_with (first
    | (go_at_call 18; with_reducible refine (val_any h nx A n c B m d O I _ hn hm HLO.out HLI.out (HRO.out.keep (bel_alloc (bel_alloc (bel_a w _) _) _)) (HRI.out.keep (bel_alloc (bel_alloc (bel_a w _) _) _))).mono ?_; rintro e w1 ⟨rfl, h1⟩; rw [HV.out]
       have H1 := Lib.hid (bel_step (bel_alloc (bel_alloc (bel_a w (.cells #[.int .i64 h, .int .i64 nx, .slice A n c, .slice B m d] 25)) (.cells #[.int .i64 x, .int .i64 y] 27)) (.cells #[.int .i64 0, .int .i64 0, .slice none 0 0, .slice none 0 0] 25)) h1)
       have p0 := (((OW.new w 25 [.int .i64 h, .int .i64 nx, .slice A n c, .slice B m d]).alloc (.cells #[.int .i64 x, .int .i64 y] 27)).alloc (.cells #[.int .i64 0, .int .i64 0, .slice none 0 0, .slice none 0 0] 25)).keep h1
       have p1 := ((OW.new1 w (.cells #[.int .i64 h, .int .i64 nx, .slice A n c, .slice B m d] 25) 27 [.int .i64 x, .int .i64 y]).alloc (.cells #[.int .i64 0, .int .i64 0, .slice none 0 0, .slice none 0 0] 25)).keep h1
       have p2 := (OW.new2 w (.cells #[.int .i64 h, .int .i64 nx, .slice A n c, .slice B m d] 25) (.cells #[.int .i64 x, .int .i64 y] 27) 25 [.int .i64 0, .int .i64 0, .slice none 0 0, .slice none 0 0]).keep h1
       have P0 := Lib.hid p0
       have P1 := Lib.hid p1
       have P2 := Lib.hid p2
       have l0 := p0.lt
       have l1 := p1.lt
       have l2 := p2.lt
       have c10 := p1.at (j := 0) rfl
       have c11 := p1.at (j := 1) rfl
       have c20 := p2.at (j := 0) rfl
       have c21 := p2.at (j := 1) rfl
       have c22 := p2.at (j := 2) rfl
       have c23 := p2.at (j := 3) rfl
       have z20 := p2.thaw 0
       have z21 := p2.thaw 1
       have z22 := p2.thaw 2
       have z23 := p2.thaw 3
       clear p0 p1 p2 h1)
    | (go_at_call 25; with_reducible refine (valT x y _).mono ?_; rintro e w2 ⟨rfl, h2⟩; rw [HT.out]
       have H2 := Lib.hid (bel_step H1.out h2)
       have Q0 := Lib.hid (P0.out.keep h2)
       have Q1 := Lib.hid (P1.out.keep h2)
       have Q2 := Lib.hid (P2.out.keep h2)
       have m0 := Q0.out.lt
       have m1 := Q1.out.lt
       have m2 := Q2.out.lt
       have b00 := Q0.out.at (j := 0) rfl
       have b01 := Q0.out.at (j := 1) rfl
       have b02 := Q0.out.at (j := 2) rfl
       have b03 := Q0.out.at (j := 3) rfl
       have b10 := Q1.out.at (j := 0) rfl
       have b11 := Q1.out.at (j := 1) rfl
       have b20 := Q2.out.at (j := 0) rfl
       have b21 := Q2.out.at (j := 1) rfl
       have b22 := Q2.out.at (j := 2) rfl
       have b23 := Q2.out.at (j := 3) rfl
       have y20 := Q2.out.thaw 0
       have y21 := Q2.out.thaw 1
       have y22 := Q2.out.thaw 2
       have y23 := Q2.out.thaw 3
       clear h2)
    | (go_at_call 26; with_reducible refine (keys_any _).mono ?_; rintro e w3 ⟨rfl, rfl⟩)
    | (go_at_call 27; with_reducible refine (find_int B m d I x _ (by omega) HLI.out (HRI.out.keep H2.out) HINC.out).mono ?_; rintro e w3 ⟨⟨p, rfl, hpl⟩, rfl⟩; rw [HFD.out p hpl]
       have HPL := Lib.hid hpl
       have hpm := hpl.1
       clear hpl))
  all_goals (try (exfalso; omega))
  have f1 := (((Q2.out.set 0 (.int .i64 0)).set 1 (.int .i64 0)).set 2 (.slice none 0 0)).set 3 (.slice none 0 0)
  have fb := (((H2.out.setCell (p := ⟨w.heap.size + 1 + 1, 0, none⟩) (by show w.heap.size ≤ w.heap.size + 1 + 1; omega) (.int .i64 0)).setCell (p := ⟨w.heap.size + 1 + 1, 1, none⟩) (by show w.heap.size ≤ w.heap.size + 1 + 1; omega) (.int .i64 0)).setCell (p := ⟨w.heap.size + 1 + 1, 2, none⟩) (by show w.heap.size ≤ w.heap.size + 1 + 1; omega) (.slice none 0 0)).setCell (p := ⟨w.heap.size + 1 + 1, 3, none⟩) (by show w.heap.size ≤ w.heap.size + 1 + 1; omega) (.slice none 0 0)
  obtain ⟨wF, hwF⟩ : ∃ wF, (((w2.setCell ⟨w.heap.size + 1 + 1, 0, none⟩ (.int .i64 0)).setCell ⟨w.heap.size + 1 + 1, 1, none⟩ (.int .i64 0)).setCell ⟨w.heap.size + 1 + 1, 2, none⟩ (.slice none 0 0)).setCell ⟨w.heap.size + 1 + 1, 3, none⟩ (.slice none 0 0) = wF := ⟨_, rfl⟩
  rw [hwF] at f1 fb ⊢
  have d0 : wF.cell? ⟨w.heap.size + 1 + 1, 0, none⟩ = some (.int .i64 0) := f1.at rfl
  have d1 : wF.cell? ⟨w.heap.size + 1 + 1, 1, none⟩ = some (.int .i64 0) := f1.at rfl
  have d2 : wF.cell? ⟨w.heap.size + 1 + 1, 2, none⟩ = some (.slice none 0 0) := f1.at rfl
  have d3 : wF.cell? ⟨w.heap.size + 1 + 1, 3, none⟩ = some (.slice none 0 0) := f1.at rfl
  (try simp only [Exit.inBlock, Exit.then])
  refine bodyPost_ret (by simp [results, Try.results13, go_sem, d0, d1, d2, d3]; try rfl) rfl ?_
  exact ⟨rfl, fb⟩

set_option maxRecDepth 100000 in
set_option maxHeartbeats 4000000 in
theorem recv_b4 (h nx : Int) (A : Option Addr) (n c : Nat) (B : Option Addr) (m d : Nat) (O : List (Int × Int)) (I : List Int) (x y : Int) (w : World) (hn : n ≤ 9223372036854775807) (hm : m ≤ 9223372036854775807) (hlO : O.length = n) (hlI : I.length = m) (hRO : RL w A (cT O)) (hRI : RL w B (cI I)) (hAn : A = none → n = 0 ∧ c = 0) (hBn : B = none → m = 0 ∧ d = 0) (hv : vB h nx O I = true) (ht : vT (x, y) = true) (hin : x ∉ I) (h64 : m = 64) :
    Calls Try.prog 13 #[.agg #[.int .i64 h, .int .i64 nx, .slice A n c, .slice B m d], .agg #[.int .i64 x, .int .i64 y]] w fun e w' => e = .returned (.tuple #[zS, .int .i64 10]) ∧ Below w.heap.size w w' := by
  have HV := Lib.hid hv
  have HRO := Lib.hid hRO
  have HRI := Lib.hid hRI
  have HLO := Lib.hid hlO
  have HLI := Lib.hid hlI
  have HAN := Lib.hid hAn
  have HBN := Lib.hid hBn
  have HT := Lib.hid ht
  have hvs := vB_iff.1 hv
  have hvt := vT_iff.1 ht
  have hh2 := hvs.1
  have hn64 : n ≤ 64 := by have := hvs.2.1; omega
  have hm64 : m ≤ 64 := by have := hvs.2.1; omega
  have HINC := Lib.hid hvs.2.2.2.2.2
  obtain ⟨⟨q1, q2⟩, q3, q4⟩ := hh2
  obtain ⟨q5, q6⟩ := hvt
  simp only [] at q5 q6
  have HFD : Hid (∀ p, Place (at1 I) m x p → decide (p < m ∧ at1 I p = x) = false) := Lib.hid fun p hp => by
    have := place_mem HINC.out hlI hp
    simp only [decide_eq_false_iff_not] at *
    simp [this, hin]
  have e3 : ((m : Int) == 64) = true := by simp; omega
  clear hvs ht h64
  clear hv hRO hRI hlO hlI hAn hBn
  go_enter Try.func13, Try.ntmps13
  go_wp2_with (first
    | (go_at_call 18; with_reducible refine (val_any h nx A n c B m d O I _ hn hm HLO.out HLI.out (HRO.out.keep (bel_alloc (bel_alloc (bel_a w _) _) _)) (HRI.out.keep (bel_alloc (bel_alloc (bel_a w _) _) _))).mono ?_; rintro e w1 ⟨rfl, h1⟩; rw [HV.out]
       have H1 := Lib.hid (bel_step (bel_alloc (bel_alloc (bel_a w (.cells #[.int .i64 h, .int .i64 nx, .slice A n c, .slice B m d] 25)) (.cells #[.int .i64 x, .int .i64 y] 27)) (.cells #[.int .i64 0, .int .i64 0, .slice none 0 0, .slice none 0 0] 25)) h1)
       have p0 := (((OW.new w 25 [.int .i64 h, .int .i64 nx, .slice A n c, .slice B m d]).alloc (.cells #[.int .i64 x, .int .i64 y] 27)).alloc (.cells #[.int .i64 0, .int .i64 0, .slice none 0 0, .slice none 0 0] 25)).keep h1
       have p1 := ((OW.new1 w (.cells #[.int .i64 h, .int .i64 nx, .slice A n c, .slice B m d] 25) 27 [.int .i64 x, .int .i64 y]).alloc (.cells #[.int .i64 0, .int .i64 0, .slice none 0 0, .slice none 0 0] 25)).keep h1
       have p2 := (OW.new2 w (.cells #[.int .i64 h, .int .i64 nx, .slice A n c, .slice B m d] 25) (.cells #[.int .i64 x, .int .i64 y] 27) 25 [.int .i64 0, .int .i64 0, .slice none 0 0, .slice none 0 0]).keep h1
       have P0 := Lib.hid p0
       have P1 := Lib.hid p1
       have P2 := Lib.hid p2
       have l0 := p0.lt
       have l1 := p1.lt
       have l2 := p2.lt
       have c10 := p1.at (j := 0) rfl
       have c11 := p1.at (j := 1) rfl
       have c20 := p2.at (j := 0) rfl
       have c21 := p2.at (j := 1) rfl
       have c22 := p2.at (j := 2) rfl
       have c23 := p2.at (j := 3) rfl
       have z20 := p2.thaw 0
       have z21 := p2.thaw 1
       have z22 := p2.thaw 2
       have z23 := p2.thaw 3
       clear p0 p1 p2 h1)
    | (go_at_call 25; with_reducible refine (valT x y _).mono ?_; rintro e w2 ⟨rfl, h2⟩; rw [HT.out]
       have H2 := Lib.hid (bel_step H1.out h2)
       have Q0 := Lib.hid (P0.out.keep h2)
       have Q1 := Lib.hid (P1.out.keep h2)
       have Q2 := Lib.hid (P2.out.keep h2)
       have m0 := Q0.out.lt
       have m1 := Q1.out.lt
       have m2 := Q2.out.lt
       have b00 := Q0.out.at (j := 0) rfl
       have b01 := Q0.out.at (j := 1) rfl
       have b02 := Q0.out.at (j := 2) rfl
       have b03 := Q0.out.at (j := 3) rfl
       have b10 := Q1.out.at (j := 0) rfl
       have b11 := Q1.out.at (j := 1) rfl
       have b20 := Q2.out.at (j := 0) rfl
       have b21 := Q2.out.at (j := 1) rfl
       have b22 := Q2.out.at (j := 2) rfl
       have b23 := Q2.out.at (j := 3) rfl
       have y20 := Q2.out.thaw 0
       have y21 := Q2.out.thaw 1
       have y22 := Q2.out.thaw 2
       have y23 := Q2.out.thaw 3
       clear h2)
    | (go_at_call 26; with_reducible refine (keys_any _).mono ?_; rintro e w3 ⟨rfl, rfl⟩)
    | (go_at_call 27; with_reducible refine (find_int B m d I x _ (by omega) HLI.out (HRI.out.keep H2.out) HINC.out).mono ?_; rintro e w3 ⟨⟨p, rfl, hpl⟩, rfl⟩; rw [HFD.out p hpl]
       have HPL := Lib.hid hpl
       have hpm := hpl.1
       clear hpl))
  all_goals (try (exfalso; omega))
  have f1 := (((Q2.out.set 0 (.int .i64 0)).set 1 (.int .i64 0)).set 2 (.slice none 0 0)).set 3 (.slice none 0 0)
  have fb := (((H2.out.setCell (p := ⟨w.heap.size + 1 + 1, 0, none⟩) (by show w.heap.size ≤ w.heap.size + 1 + 1; omega) (.int .i64 0)).setCell (p := ⟨w.heap.size + 1 + 1, 1, none⟩) (by show w.heap.size ≤ w.heap.size + 1 + 1; omega) (.int .i64 0)).setCell (p := ⟨w.heap.size + 1 + 1, 2, none⟩) (by show w.heap.size ≤ w.heap.size + 1 + 1; omega) (.slice none 0 0)).setCell (p := ⟨w.heap.size + 1 + 1, 3, none⟩) (by show w.heap.size ≤ w.heap.size + 1 + 1; omega) (.slice none 0 0)
  obtain ⟨wF, hwF⟩ : ∃ wF, (((w2.setCell ⟨w.heap.size + 1 + 1, 0, none⟩ (.int .i64 0)).setCell ⟨w.heap.size + 1 + 1, 1, none⟩ (.int .i64 0)).setCell ⟨w.heap.size + 1 + 1, 2, none⟩ (.slice none 0 0)).setCell ⟨w.heap.size + 1 + 1, 3, none⟩ (.slice none 0 0) = wF := ⟨_, rfl⟩
  rw [hwF] at f1 fb ⊢
  have d0 : wF.cell? ⟨w.heap.size + 1 + 1, 0, none⟩ = some (.int .i64 0) := f1.at rfl
  have d1 : wF.cell? ⟨w.heap.size + 1 + 1, 1, none⟩ = some (.int .i64 0) := f1.at rfl
  have d2 : wF.cell? ⟨w.heap.size + 1 + 1, 2, none⟩ = some (.slice none 0 0) := f1.at rfl
  have d3 : wF.cell? ⟨w.heap.size + 1 + 1, 3, none⟩ = some (.slice none 0 0) := f1.at rfl
  (try simp only [Exit.inBlock, Exit.then])
  refine bodyPost_ret (by simp [results, Try.results13, go_sem, d0, d1, d2, d3]; try rfl) rfl ?_
  exact ⟨rfl, fb⟩

set_option maxRecDepth 100000 in
set_option maxHeartbeats 4000000 in
theorem recv_b5 (h nx : Int) (A : Option Addr) (n c : Nat) (B : Option Addr) (m d : Nat) (O : List (Int × Int)) (I : List Int) (x y : Int) (w : World) (hn : n ≤ 9223372036854775807) (hm : m ≤ 9223372036854775807) (hlO : O.length = n) (hlI : I.length = m) (hRO : RL w A (cT O)) (hRI : RL w B (cI I)) (hAn : A = none → n = 0 ∧ c = 0) (hBn : B = none → m = 0 ∧ d = 0) (hv : vB h nx O I = true) (ht : vT (x, y) = true) (hin : x ∉ I) (h64 : m ≠ 64) (hr : 1000 < h + y) :
    Calls Try.prog 13 #[.agg #[.int .i64 h, .int .i64 nx, .slice A n c, .slice B m d], .agg #[.int .i64 x, .int .i64 y]] w fun e w' => e = .returned (.tuple #[zS, .int .i64 3]) ∧ Below w.heap.size w w' := by
  have HV := Lib.hid hv
  have HRO := Lib.hid hRO
  have HRI := Lib.hid hRI
  have HLO := Lib.hid hlO
  have HLI := Lib.hid hlI
  have HAN := Lib.hid hAn
  have HBN := Lib.hid hBn
  have HT := Lib.hid ht
  have hvs := vB_iff.1 hv
  have hvt := vT_iff.1 ht
  have hh2 := hvs.1
  have hn64 : n ≤ 64 := by have := hvs.2.1; omega
  have hm64 : m ≤ 64 := by have := hvs.2.1; omega
  have HINC := Lib.hid hvs.2.2.2.2.2
  obtain ⟨⟨q1, q2⟩, q3, q4⟩ := hh2
  obtain ⟨q5, q6⟩ := hvt
  simp only [] at q5 q6
  have HFD : Hid (∀ p, Place (at1 I) m x p → decide (p < m ∧ at1 I p = x) = false) := Lib.hid fun p hp => by
    have := place_mem HINC.out hlI hp
    simp only [decide_eq_false_iff_not] at *
    simp [this, hin]
  have e3 : ((m : Int) == 64) = false := by simp; omega
  clear hvs ht
  clear hv hRO hRI hlO hlI hAn hBn
  go_enter Try.func13, Try.ntmps13
  go_wp2_with (first
    | (go_at_call 18; with_reducible refine (val_any h nx A n c B m d O I _ hn hm HLO.out HLI.out (HRO.out.keep (bel_alloc (bel_alloc (bel_a w _) _) _)) (HRI.out.keep (bel_alloc (bel_alloc (bel_a w _) _) _))).mono ?_; rintro e w1 ⟨rfl, h1⟩; rw [HV.out]
       have H1 := Lib.hid (bel_step (bel_alloc (bel_alloc (bel_a w (.cells #[.int .i64 h, .int .i64 nx, .slice A n c, .slice B m d] 25)) (.cells #[.int .i64 x, .int .i64 y] 27)) (.cells #[.int .i64 0, .int .i64 0, .slice none 0 0, .slice none 0 0] 25)) h1)
       have p0 := (((OW.new w 25 [.int .i64 h, .int .i64 nx, .slice A n c, .slice B m d]).alloc (.cells #[.int .i64 x, .int .i64 y] 27)).alloc (.cells #[.int .i64 0, .int .i64 0, .slice none 0 0, .slice none 0 0] 25)).keep h1
       have p1 := ((OW.new1 w (.cells #[.int .i64 h, .int .i64 nx, .slice A n c, .slice B m d] 25) 27 [.int .i64 x, .int .i64 y]).alloc (.cells #[.int .i64 0, .int .i64 0, .slice none 0 0, .slice none 0 0] 25)).keep h1
       have p2 := (OW.new2 w (.cells #[.int .i64 h, .int .i64 nx, .slice A n c, .slice B m d] 25) (.cells #[.int .i64 x, .int .i64 y] 27) 25 [.int .i64 0, .int .i64 0, .slice none 0 0, .slice none 0 0]).keep h1
       have P0 := Lib.hid p0
       have P1 := Lib.hid p1
       have P2 := Lib.hid p2
       have l0 := p0.lt
       have l1 := p1.lt
       have l2 := p2.lt
       have c10 := p1.at (j := 0) rfl
       have c11 := p1.at (j := 1) rfl
       have c20 := p2.at (j := 0) rfl
       have c21 := p2.at (j := 1) rfl
       have c22 := p2.at (j := 2) rfl
       have c23 := p2.at (j := 3) rfl
       have z20 := p2.thaw 0
       have z21 := p2.thaw 1
       have z22 := p2.thaw 2
       have z23 := p2.thaw 3
       clear p0 p1 p2 h1)
    | (go_at_call 25; with_reducible refine (valT x y _).mono ?_; rintro e w2 ⟨rfl, h2⟩; rw [HT.out]
       have H2 := Lib.hid (bel_step H1.out h2)
       have Q0 := Lib.hid (P0.out.keep h2)
       have Q1 := Lib.hid (P1.out.keep h2)
       have Q2 := Lib.hid (P2.out.keep h2)
       have m0 := Q0.out.lt
       have m1 := Q1.out.lt
       have m2 := Q2.out.lt
       have b00 := Q0.out.at (j := 0) rfl
       have b01 := Q0.out.at (j := 1) rfl
       have b02 := Q0.out.at (j := 2) rfl
       have b03 := Q0.out.at (j := 3) rfl
       have b10 := Q1.out.at (j := 0) rfl
       have b11 := Q1.out.at (j := 1) rfl
       have b20 := Q2.out.at (j := 0) rfl
       have b21 := Q2.out.at (j := 1) rfl
       have b22 := Q2.out.at (j := 2) rfl
       have b23 := Q2.out.at (j := 3) rfl
       have y20 := Q2.out.thaw 0
       have y21 := Q2.out.thaw 1
       have y22 := Q2.out.thaw 2
       have y23 := Q2.out.thaw 3
       clear h2)
    | (go_at_call 26; with_reducible refine (keys_any _).mono ?_; rintro e w3 ⟨rfl, rfl⟩)
    | (go_at_call 27; with_reducible refine (find_int B m d I x _ (by omega) HLI.out (HRI.out.keep H2.out) HINC.out).mono ?_; rintro e w3 ⟨⟨p, rfl, hpl⟩, rfl⟩; rw [HFD.out p hpl]
       have HPL := Lib.hid hpl
       have hpm := hpl.1
       clear hpl))
  all_goals (try (exfalso; omega))
  have f1 := (((Q2.out.set 0 (.int .i64 0)).set 1 (.int .i64 0)).set 2 (.slice none 0 0)).set 3 (.slice none 0 0)
  have fb := (((H2.out.setCell (p := ⟨w.heap.size + 1 + 1, 0, none⟩) (by show w.heap.size ≤ w.heap.size + 1 + 1; omega) (.int .i64 0)).setCell (p := ⟨w.heap.size + 1 + 1, 1, none⟩) (by show w.heap.size ≤ w.heap.size + 1 + 1; omega) (.int .i64 0)).setCell (p := ⟨w.heap.size + 1 + 1, 2, none⟩) (by show w.heap.size ≤ w.heap.size + 1 + 1; omega) (.slice none 0 0)).setCell (p := ⟨w.heap.size + 1 + 1, 3, none⟩) (by show w.heap.size ≤ w.heap.size + 1 + 1; omega) (.slice none 0 0)
  obtain ⟨wF, hwF⟩ : ∃ wF, (((w2.setCell ⟨w.heap.size + 1 + 1, 0, none⟩ (.int .i64 0)).setCell ⟨w.heap.size + 1 + 1, 1, none⟩ (.int .i64 0)).setCell ⟨w.heap.size + 1 + 1, 2, none⟩ (.slice none 0 0)).setCell ⟨w.heap.size + 1 + 1, 3, none⟩ (.slice none 0 0) = wF := ⟨_, rfl⟩
  rw [hwF] at f1 fb ⊢
  have d0 : wF.cell? ⟨w.heap.size + 1 + 1, 0, none⟩ = some (.int .i64 0) := f1.at rfl
  have d1 : wF.cell? ⟨w.heap.size + 1 + 1, 1, none⟩ = some (.int .i64 0) := f1.at rfl
  have d2 : wF.cell? ⟨w.heap.size + 1 + 1, 2, none⟩ = some (.slice none 0 0) := f1.at rfl
  have d3 : wF.cell? ⟨w.heap.size + 1 + 1, 3, none⟩ = some (.slice none 0 0) := f1.at rfl
  (try simp only [Exit.inBlock, Exit.then])
  refine bodyPost_ret (by simp [results, Try.results13, go_sem, d0, d1, d2, d3]; try rfl) rfl ?_
  exact ⟨rfl, fb⟩

set_option maxRecDepth 100000 in
set_option maxHeartbeats 4000000 in
theorem recv_okF (h nx : Int) (A : Option Addr) (n c : Nat) (B : Option Addr) (m d : Nat) (O : List (Int × Int)) (I : List Int) (x y : Int) (w : World) (hn : n ≤ 9223372036854775807) (hm : m ≤ 9223372036854775807) (hlO : O.length = n) (hlI : I.length = m) (hRO : RL w A (cT O)) (hRI : RL w B (cI I)) (hAn : A = none → n = 0 ∧ c = 0) (hBn : B = none → m = 0 ∧ d = 0) (hv : vB h nx O I = true) (ht : vT (x, y) = true) (hin : x ∉ I) (h64 : m ≠ 64) (hr : h + y ≤ 1000) :
    Calls Try.prog 13 #[.agg #[.int .i64 h, .int .i64 nx, .slice A n c, .slice B m d], .agg #[.int .i64 x, .int .i64 y]] w fun e w' => (∃ v, e = .returned (.tuple #[v, .int .i64 0]) ∧ SN w' v (h + y) nx O (insO x I) ∧ SF w.heap.size v) ∧ Below w.heap.size w w' := by
  have HV := Lib.hid hv
  have HRO := Lib.hid hRO
  have HRI := Lib.hid hRI
  have HLO := Lib.hid hlO
  have HLI := Lib.hid hlI
  have HAN := Lib.hid hAn
  have HBN := Lib.hid hBn
  have HT := Lib.hid ht
  have hvs := vB_iff.1 hv
  have hvt := vT_iff.1 ht
  have hh2 := hvs.1
  have hn64 : n ≤ 64 := by have := hvs.2.1; omega
  have hm64 : m ≤ 64 := by have := hvs.2.1; omega
  have HINC := Lib.hid hvs.2.2.2.2.2
  obtain ⟨⟨q1, q2⟩, q3, q4⟩ := hh2
  obtain ⟨q5, q6⟩ := hvt
  simp only [] at q5 q6
  have HFD : Hid (∀ p, Place (at1 I) m x p → decide (p < m ∧ at1 I p = x) = false) := Lib.hid fun p hp => by
    have := place_mem HINC.out hlI hp
    simp only [decide_eq_false_iff_not] at *
    simp [this, hin]
  have e3 : ((m : Int) == 64) = false := by simp; omega
  have HIN := Lib.hid hin
  clear hvs ht hin
  clear hv hRO hRI hlO hlI hAn hBn
  go_enter Try.func13, Try.ntmps13
  go_wp2_with (first
    | (go_at_call 18; with_reducible refine (val_any h nx A n c B m d O I _ hn hm HLO.out HLI.out (HRO.out.keep (bel_alloc (bel_alloc (bel_a w _) _) _)) (HRI.out.keep (bel_alloc (bel_alloc (bel_a w _) _) _))).mono ?_; rintro e w1 ⟨rfl, h1⟩; rw [HV.out]
       have H1 := Lib.hid (bel_step (bel_alloc (bel_alloc (bel_a w (.cells #[.int .i64 h, .int .i64 nx, .slice A n c, .slice B m d] 25)) (.cells #[.int .i64 x, .int .i64 y] 27)) (.cells #[.int .i64 0, .int .i64 0, .slice none 0 0, .slice none 0 0] 25)) h1)
       have p0 := (((OW.new w 25 [.int .i64 h, .int .i64 nx, .slice A n c, .slice B m d]).alloc (.cells #[.int .i64 x, .int .i64 y] 27)).alloc (.cells #[.int .i64 0, .int .i64 0, .slice none 0 0, .slice none 0 0] 25)).keep h1
       have p1 := ((OW.new1 w (.cells #[.int .i64 h, .int .i64 nx, .slice A n c, .slice B m d] 25) 27 [.int .i64 x, .int .i64 y]).alloc (.cells #[.int .i64 0, .int .i64 0, .slice none 0 0, .slice none 0 0] 25)).keep h1
       have p2 := (OW.new2 w (.cells #[.int .i64 h, .int .i64 nx, .slice A n c, .slice B m d] 25) (.cells #[.int .i64 x, .int .i64 y] 27) 25 [.int .i64 0, .int .i64 0, .slice none 0 0, .slice none 0 0]).keep h1
       have P0 := Lib.hid p0
       have P1 := Lib.hid p1
       have P2 := Lib.hid p2
       have l0 := p0.lt
       have l1 := p1.lt
       have l2 := p2.lt
       have c10 := p1.at (j := 0) rfl
       have c11 := p1.at (j := 1) rfl
       have c20 := p2.at (j := 0) rfl
       have c21 := p2.at (j := 1) rfl
       have c22 := p2.at (j := 2) rfl
       have c23 := p2.at (j := 3) rfl
       have z20 := p2.thaw 0
       have z21 := p2.thaw 1
       have z22 := p2.thaw 2
       have z23 := p2.thaw 3
       clear p0 p1 p2 h1)
    | (go_at_call 25; with_reducible refine (valT x y _).mono ?_; rintro e w2 ⟨rfl, h2⟩; rw [HT.out]
       have H2 := Lib.hid (bel_step H1.out h2)
       have Q0 := Lib.hid (P0.out.keep h2)
       have Q1 := Lib.hid (P1.out.keep h2)
       have Q2 := Lib.hid (P2.out.keep h2)
       have m0 := Q0.out.lt
       have m1 := Q1.out.lt
       have m2 := Q2.out.lt
       have b00 := Q0.out.at (j := 0) rfl
       have b01 := Q0.out.at (j := 1) rfl
       have b02 := Q0.out.at (j := 2) rfl
       have b03 := Q0.out.at (j := 3) rfl
       have b10 := Q1.out.at (j := 0) rfl
       have b11 := Q1.out.at (j := 1) rfl
       have b20 := Q2.out.at (j := 0) rfl
       have b21 := Q2.out.at (j := 1) rfl
       have b22 := Q2.out.at (j := 2) rfl
       have b23 := Q2.out.at (j := 3) rfl
       have y20 := Q2.out.thaw 0
       have y21 := Q2.out.thaw 1
       have y22 := Q2.out.thaw 2
       have y23 := Q2.out.thaw 3
       clear h2)
    | (go_at_call 26; with_reducible refine (keys_any _).mono ?_; rintro e w3 ⟨rfl, rfl⟩)
    | (go_at_call 27; with_reducible refine (find_int B m d I x _ (by omega) HLI.out (HRI.out.keep H2.out) HINC.out).mono ?_; rintro e w3 ⟨⟨p, rfl, hpl⟩, rfl⟩; rw [HFD.out p hpl]
       have HPL := Lib.hid hpl
       have hpm := hpl.1
       clear hpl))
  all_goals (try (exfalso; omega))
  refine (dup_any h nx A n c B m d O I _ (by omega) (by omega) HLO.out HLI.out (HRO.out.keep H2.out) (HRI.out.keep H2.out) HAN.out HBN.out).mono ?_
  rintro e w3 ⟨⟨gO, gI, rfl, hO3, hI3, lgO, lgI⟩, h3⟩
  have H3 := Lib.hid (bel_step H2.out h3)
  have R1 := Lib.hid (Q1.out.keep h3)
  have R2 := Lib.hid (Q2.out.keep h3)
  have HO3 := Lib.hid hO3
  have HI3 := Lib.hid hI3
  have n1 := R1.out.lt
  have n2 := R2.out.lt
  have a10 := R1.out.at (j := 0) rfl
  have a11 := R1.out.at (j := 1) rfl
  clear h3 hO3 hI3 c10 c11 c20 c21 c22 c23 z20 z21 z22 z23 b00 b01 b02 b03 b10 b11 b20 b21 b22 b23 y20 y21 y22 y23 P0 P1 P2 Q0 Q1 Q2 H1 H2
  go_wp2_with (go_at_call 28; with_reducible refine (ins_int gI m p I x _ (by omega) HLI.out hpm (HI3.out.alloc _)).mono ?_; rintro e w4 ⟨⟨g4, rfl, hI4, lg4⟩, h4⟩
               have H4 := Lib.hid (bel_step (bel_alloc H3.out _) h4)
               have S2 := Lib.hid ((R2.out.alloc _).keep h4)
               have S9 := Lib.hid ((OW.new w3 25 [.int .i64 (h + y), .int .i64 nx, .slice (some ⟨gO, 0, none⟩) n n, .slice (some ⟨gI, 0, none⟩) m m]).keep h4)
               have HI4 := Lib.hid hI4
               have HO4 := Lib.hid ((HO3.out.alloc _).keep h4)
               have x0 := S9.out.at (j := 0) rfl
               have x1 := S9.out.at (j := 1) rfl
               have x2 := S9.out.at (j := 2) rfl
               have x3 := S9.out.at (j := 3) rfl
               have f3 := S9.out.thaw 3
               have c20 := S2.out.at (j := 0) rfl
               have c21 := S2.out.at (j := 1) rfl
               have c22 := S2.out.at (j := 2) rfl
               have c23 := S2.out.at (j := 3) rfl
               have z20 := S2.out.thaw 0
               have z21 := S2.out.thaw 1
               have z22 := S2.out.thaw 2
               have z23 := S2.out.thaw 3
               have v1 : ¬ w3.heap.size = w.heap.size + 1 + 1 := by omega
               have v2 : ¬ w.heap.size + 1 + 1 = w3.heap.size := by omega
               clear h4 hI4)
  rw [World.size_alloc] at lg4
  have o2 := HO3.out.lt
  have o3 := HI3.out.lt
  have FIN : Hid (I.take p ++ x :: I.drop p = insO x I) := Lib.hid (place_ins HINC.out HLI.out HPL.out HIN.out)
  have u2 := (S2.out.far (b := w3.heap.size) (by omega) 3 (.slice (some ⟨g4, 0, none⟩) (m + 1) (m + 1)))
  have f1 := (((u2.set 0 (.int .i64 (h + y))).set 1 (.int .i64 nx)).set 2 (.slice (some ⟨gO, 0, none⟩) n n)).set 3 (.slice (some ⟨g4, 0, none⟩) (m + 1) (m + 1))
  have uI := (HI4.out.far (b := w3.heap.size) (by omega) 3 (.slice (some ⟨g4, 0, none⟩) (m + 1) (m + 1)))
  have fI := (((uI.far (b := w.heap.size + 1 + 1) (by omega) 0 (.int .i64 (h + y))).far (b := w.heap.size + 1 + 1) (by omega) 1 (.int .i64 nx)).far (b := w.heap.size + 1 + 1) (by omega) 2 (.slice (some ⟨gO, 0, none⟩) n n)).far (b := w.heap.size + 1 + 1) (by omega) 3 (.slice (some ⟨g4, 0, none⟩) (m + 1) (m + 1))
  have uO := (HO4.out.far (b := w3.heap.size) (by omega) 3 (.slice (some ⟨g4, 0, none⟩) (m + 1) (m + 1)))
  have fO := (((uO.far (b := w.heap.size + 1 + 1) (by omega) 0 (.int .i64 (h + y))).far (b := w.heap.size + 1 + 1) (by omega) 1 (.int .i64 nx)).far (b := w.heap.size + 1 + 1) (by omega) 2 (.slice (some ⟨gO, 0, none⟩) n n)).far (b := w.heap.size + 1 + 1) (by omega) 3 (.slice (some ⟨g4, 0, none⟩) (m + 1) (m + 1))
  have fb := ((((H4.out.setCell (p := ⟨w3.heap.size, 3, none⟩) (by show w.heap.size ≤ w3.heap.size; omega) (.slice (some ⟨g4, 0, none⟩) (m + 1) (m + 1))).setCell (p := ⟨w.heap.size + 1 + 1, 0, none⟩) (by show w.heap.size ≤ w.heap.size + 1 + 1; omega) (.int .i64 (h + y))).setCell (p := ⟨w.heap.size + 1 + 1, 1, none⟩) (by show w.heap.size ≤ w.heap.size + 1 + 1; omega) (.int .i64 nx)).setCell (p := ⟨w.heap.size + 1 + 1, 2, none⟩) (by show w.heap.size ≤ w.heap.size + 1 + 1; omega) (.slice (some ⟨gO, 0, none⟩) n n)).setCell (p := ⟨w.heap.size + 1 + 1, 3, none⟩) (by show w.heap.size ≤ w.heap.size + 1 + 1; omega) (.slice (some ⟨g4, 0, none⟩) (m + 1) (m + 1))
  obtain ⟨wF, hwF⟩ : ∃ wF, ((((w4.setCell ⟨w3.heap.size, 3, none⟩ (.slice (some ⟨g4, 0, none⟩) (m + 1) (m + 1))).setCell ⟨w.heap.size + 1 + 1, 0, none⟩ (.int .i64 (h + y))).setCell ⟨w.heap.size + 1 + 1, 1, none⟩ (.int .i64 nx)).setCell ⟨w.heap.size + 1 + 1, 2, none⟩ (.slice (some ⟨gO, 0, none⟩) n n)).setCell ⟨w.heap.size + 1 + 1, 3, none⟩ (.slice (some ⟨g4, 0, none⟩) (m + 1) (m + 1)) = wF := ⟨_, rfl⟩
  rw [hwF] at f1 fI fO fb ⊢
  have d0 : wF.cell? ⟨w.heap.size + 1 + 1, 0, none⟩ = some (.int .i64 (h + y)) := f1.at rfl
  have d1 : wF.cell? ⟨w.heap.size + 1 + 1, 1, none⟩ = some (.int .i64 nx) := f1.at rfl
  have d2 : wF.cell? ⟨w.heap.size + 1 + 1, 2, none⟩ = some (.slice (some ⟨gO, 0, none⟩) n n) := f1.at rfl
  have d3 : wF.cell? ⟨w.heap.size + 1 + 1, 3, none⟩ = some (.slice (some ⟨g4, 0, none⟩) (m + 1) (m + 1)) := f1.at rfl
  rw [FIN.out] at fI
  (try simp only [Exit.inBlock, Exit.then])
  refine bodyPost_ret (by simp [results, Try.results13, go_sem, d0, d1, d2, d3]; try rfl) rfl ?_
  exact ⟨⟨_, rfl, OW_sn (n := n) (m := m + 1) fO fI HLO.out (by rw [insO_len, HLI.out]) (by omega) (by omega), _, _, _, _, _, _, rfl, by omega, by omega⟩, fb⟩

theorem recv_ok (h nx : Int) (A : Option Addr) (n c : Nat) (B : Option Addr) (m d : Nat) (O : List (Int × Int)) (I : List Int) (x y : Int) (w : World) (hn : n ≤ 9223372036854775807) (hm : m ≤ 9223372036854775807) (hlO : O.length = n) (hlI : I.length = m) (hRO : RL w A (cT O)) (hRI : RL w B (cI I)) (hAn : A = none → n = 0 ∧ c = 0) (hBn : B = none → m = 0 ∧ d = 0) (hv : vB h nx O I = true) (ht : vT (x, y) = true) (hin : x ∉ I) (h64 : m ≠ 64) (hr : h + y ≤ 1000) :
    Calls Try.prog 13 #[.agg #[.int .i64 h, .int .i64 nx, .slice A n c, .slice B m d], .agg #[.int .i64 x, .int .i64 y]] w fun e w' => (∃ v, e = .returned (.tuple #[v, .int .i64 0]) ∧ SN w' v (h + y) nx O (insO x I)) ∧ Below w.heap.size w w' := (recv_okF h nx A n c B m d O I x y w hn hm hlO hlI hRO hRI hAn hBn hv ht hin h64 hr).mono fun e w' ⟨⟨v, e1, e2, _⟩, hb⟩ => ⟨⟨v, e1, e2⟩, hb⟩

/-- Receive, whatever it is given -/
theorem recv_all (v : Value) (h nx : Int) (O : List (Int × Int)) (I : List Int) (x y : Int) (w : World) (hs : SV w v h nx O I) :
    Calls Try.prog 13 #[v, .agg #[.int .i64 x, .int .i64 y]] w fun e w' => (∃ v' er, e = .returned (.tuple #[v', .int .i64 er]) ∧ RecvR w' v' er h nx O I x y) ∧ Below w.heap.size w w' := by
  obtain ⟨A, c, B, d, rfl, hRO, hRI, hAn, hBn, hc, hd⟩ := hs
  have bad : ∀ er : Int, er ≠ 0 → er = rE h nx O I x y → ∀ w' : World, RecvR w' zS er h nx O I x y := fun er h0 he w' => ⟨he, .inr ⟨h0, rfl⟩⟩
  cases hv : vB h nx O I
  · refine (recv_b1 h nx A _ c B _ d O I x y w (by omega) (by omega) rfl rfl hRO hRI hAn hBn hv).mono ?_
    rintro e w' ⟨rfl, hb⟩
    exact ⟨⟨_, _, rfl, bad 1 (by decide) (by unfold rE; rw [if_neg (fun q => by rw [hv] at q; exact absurd q.1 (by decide))]) _⟩, hb⟩
  · cases ht : vT (x, y)
    · refine (recv_b2 h nx A _ c B _ d O I x y w (by omega) (by omega) rfl rfl hRO hRI hAn hBn hv ht).mono ?_
      rintro e w' ⟨rfl, hb⟩
      exact ⟨⟨_, _, rfl, bad 1 (by decide) (by unfold rE; rw [if_neg (fun q => by rw [ht] at q; exact absurd q.2 (by decide))]) _⟩, hb⟩
    · have hp : vB h nx O I = true ∧ vT (x, y) = true := ⟨hv, ht⟩
      by_cases h1 : x ∈ I
      · refine (recv_b3 h nx A _ c B _ d O I x y w (by omega) (by omega) rfl rfl hRO hRI hAn hBn hv ht h1).mono ?_
        rintro e w' ⟨rfl, hb⟩
        exact ⟨⟨_, _, rfl, bad 5 (by decide) (by unfold rE; rw [if_pos hp, if_pos h1]) _⟩, hb⟩
      · by_cases h2 : I.length = 64
        · refine (recv_b4 h nx A _ c B _ d O I x y w (by omega) (by omega) rfl rfl hRO hRI hAn hBn hv ht h1 h2).mono ?_
          rintro e w' ⟨rfl, hb⟩
          exact ⟨⟨_, _, rfl, bad 10 (by decide) (by unfold rE; rw [if_pos hp, if_neg h1, if_pos h2]) _⟩, hb⟩
        · by_cases h3 : 1000 < h + y
          · refine (recv_b5 h nx A _ c B _ d O I x y w (by omega) (by omega) rfl rfl hRO hRI hAn hBn hv ht h1 h2 h3).mono ?_
            rintro e w' ⟨rfl, hb⟩
            exact ⟨⟨_, _, rfl, bad 3 (by decide) (by unfold rE; rw [if_pos hp, if_neg h1, if_neg h2, if_pos h3]) _⟩, hb⟩
          · refine (recv_ok h nx A _ c B _ d O I x y w (by omega) (by omega) rfl rfl hRO hRI hAn hBn hv ht h1 h2 (by omega)).mono ?_
            rintro e w' ⟨⟨v', rfl, hs'⟩, hb⟩
            exact ⟨⟨_, _, rfl, by unfold rE; rw [if_pos hp, if_neg h1, if_neg h2, if_neg h3], .inl ⟨rfl, hs'⟩⟩, hb⟩
end Go.Proofs.Yteeohndgkfilaaa
