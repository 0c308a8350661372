/-
  THE WALKS over package share, ninth part: Acked.
-/
import Derived.Test.YteeohndgkfilaaaRecv
namespace Go.Proofs.Yteeohndgkfilaaa
open Go.RowKit
set_option linter.unusedVariables false
attribute [local go_sem ↓] Go.wp_at_zero Go.wp_at_succ

/-- a list without a number -/
def wo (x : Int) (l : List (Int × Int)) : List (Int × Int) := l.filter fun q => q.1 != x
/-- there is a transfer of this number -/
def hasT (x : Int) (l : List (Int × Int)) : Prop := ∃ i, i < l.length ∧ (at2 l i).1 = x
theorem at2_cons (y : Int × Int) (l : List (Int × Int)) (i : Nat) : at2 (y :: l) (i + 1) = at2 l i := rfl
theorem mem2_at {l : List (Int × Int)} {q : Int × Int} : q ∈ l ↔ ∃ i, i < l.length ∧ at2 l i = q := by
  constructor
  · intro h
    obtain ⟨i, hi, he⟩ := List.getElem_of_mem h
    exact ⟨i, hi, by have := at2_get hi; rw [List.getElem?_eq_getElem hi] at this; exact (Option.some.inj this).symm.trans he⟩
  · rintro ⟨i, hi, rfl⟩
    exact List.mem_of_getElem? (at2_get hi)
theorem wo_self {x : Int} {l : List (Int × Int)} (h : ∀ i, i < l.length → (at2 l i).1 ≠ x) : wo x l = l := by
  unfold wo
  rw [List.filter_eq_self]
  intro q hq
  obtain ⟨i, hi, rfl⟩ := mem2_at.1 hq
  simpa using h i hi
theorem wo_at {x : Int} : ∀ (l : List (Int × Int)) (p : Nat), p < l.length → (at2 l p).1 = x → (∀ i, i < l.length → i ≠ p → (at2 l i).1 ≠ x) → l.take p ++ l.drop (p + 1) = wo x l := by
  intro l
  induction l with
  | nil => intro p hp; simp at hp
  | cons y l ih =>
    intro p hp h1 h2
    cases p with
    | zero =>
      have e : y.1 = x := h1
      have hw : wo x l = l := wo_self fun i hi => h2 (i + 1) (by simp; omega) (by omega)
      unfold wo at hw ⊢
      simp [e, hw]
    | succ p =>
      have e : y.1 ≠ x := h2 0 (by simp) (by omega)
      have hw := ih p (by simpa using hp) h1 (fun i hi hne => h2 (i + 1) (by simp; omega) (by omega))
      unfold wo at hw ⊢
      simp [e, ← hw]
theorem placeT_mem {l : List (Int × Int)} {x : Int} {p n : Nat} (hI : IncT l) (hn : l.length = n) (hp : Place (fun i => (at2 l i).1) n x p) : (p < n ∧ (at2 l p).1 = x) ↔ hasT x l := by
  subst hn
  constructor
  · rintro ⟨h1, h2⟩; exact ⟨p, h1, h2⟩
  · rintro ⟨i, hi, he⟩
    rcases Nat.lt_trichotomy i p with h | h | h
    · have := hp.2.1 i h; simp only [] at this; omega
    · subst h; exact ⟨hi, he⟩
    · have h1 := incT_lt hI p i h hi
      have h2 := hp.2.2 p (Nat.le_refl _) (by omega)
      simp only [] at h2
      omega
theorem placeT_wo {l : List (Int × Int)} {x : Int} {p n : Nat} (hI : IncT l) (hn : l.length = n) (hp : Place (fun i => (at2 l i).1) n x p) (hx : hasT x l) : p < n ∧ l.take p ++ l.drop (p + 1) = wo x l := by
  obtain ⟨h1, h2⟩ := (placeT_mem hI hn hp).2 hx
  subst hn
  refine ⟨h1, wo_at l p h1 h2 fun i hi hne he => ?_⟩
  rcases Nat.lt_or_gt_of_ne hne with h | h
  · have := incT_lt hI i p h h1; omega
  · have := incT_lt hI p i h hi; omega
open Classical in
/-- what Acked answers -/
noncomputable def aE (h nx : Int) (O : List (Int × Int)) (I : List Int) (x : Int) : Int := if vB h nx O I = true then (if hasT x O then 0 else 4) else 1
def AckR (W : World) (v : Value) (er : Int) (h nx : Int) (O : List (Int × Int)) (I : List Int) (x : Int) : Prop :=
  er = aE h nx O I x ∧ ((er = 0 ∧ SN W v h nx (wo x O) I) ∨ (er ≠ 0 ∧ v = zS))

set_option maxRecDepth 100000 in
set_option maxHeartbeats 4000000 in
theorem ack_b1 (h nx : Int) (A : Option Addr) (n c : Nat) (B : Option Addr) (m d : Nat) (O : List (Int × Int)) (I : List Int) (x : Int) (w : World) (hn : n ≤ 9223372036854775807) (hm : m ≤ 9223372036854775807) (hlO : O.length = n) (hlI : I.length = m) (hRO : RL w A (cT O)) (hRI : RL w B (cI I)) (hAn : A = none → n = 0 ∧ c = 0) (hBn : B = none → m = 0 ∧ d = 0) (hv : vB h nx O I = false) :
    Calls Try.prog 15 #[.agg #[.int .i64 h, .int .i64 nx, .slice A n c, .slice B m d], .int .i64 x] w fun e w' => e = .returned (.tuple #[zS, .int .i64 1]) ∧ Below w.heap.size w w' := by
  have HV := Lib.hid hv
  have HRO := Lib.hid hRO
  have HRI := Lib.hid hRI
  have HLO := Lib.hid hlO
  have HLI := Lib.hid hlI
  have HAN := Lib.hid hAn
  have HBN := Lib.hid hBn

  clear hv hRO hRI hlO hlI hAn hBn
  go_enter Try.func15, Try.ntmps15
  go_wp2_with (first
    | (go_at_call 18; with_reducible refine (val_any h nx A n c B m d O I _ hn hm HLO.out HLI.out (HRO.out.keep (bel_alloc (bel_a w _) _)) (HRI.out.keep (bel_alloc (bel_a w _) _))).mono ?_; rintro e w1 ⟨rfl, h1⟩; rw [HV.out]
       have H1 := Lib.hid (bel_step (bel_alloc (bel_a w (.cells #[.int .i64 h, .int .i64 nx, .slice A n c, .slice B m d] 25)) (.cells #[.int .i64 0, .int .i64 0, .slice none 0 0, .slice none 0 0] 25)) h1)
       have p0 := ((OW.new w 25 [.int .i64 h, .int .i64 nx, .slice A n c, .slice B m d]).alloc (.cells #[.int .i64 0, .int .i64 0, .slice none 0 0, .slice none 0 0] 25)).keep h1
       have p2 := (OW.new1 w (.cells #[.int .i64 h, .int .i64 nx, .slice A n c, .slice B m d] 25) 25 [.int .i64 0, .int .i64 0, .slice none 0 0, .slice none 0 0]).keep h1
       have P0 := Lib.hid p0
       have P2 := Lib.hid p2
       have l0 := p0.lt
       have l2 := p2.lt
       have c02 := p0.at (j := 2) rfl
       have c20 := p2.at (j := 0) rfl
       have c21 := p2.at (j := 1) rfl
       have c22 := p2.at (j := 2) rfl
       have c23 := p2.at (j := 3) rfl
       have z20 := p2.thaw 0
       have z21 := p2.thaw 1
       have z22 := p2.thaw 2
       have z23 := p2.thaw 3
       clear p0 p2 h1))
  all_goals (try (exfalso; omega))
  have f1 := (((P2.out.set 0 (.int .i64 0)).set 1 (.int .i64 0)).set 2 (.slice none 0 0)).set 3 (.slice none 0 0)
  have fb := (((H1.out.setCell (p := ⟨w.heap.size + 1, 0, none⟩) (by show w.heap.size ≤ w.heap.size + 1; omega) (.int .i64 0)).setCell (p := ⟨w.heap.size + 1, 1, none⟩) (by show w.heap.size ≤ w.heap.size + 1; omega) (.int .i64 0)).setCell (p := ⟨w.heap.size + 1, 2, none⟩) (by show w.heap.size ≤ w.heap.size + 1; omega) (.slice none 0 0)).setCell (p := ⟨w.heap.size + 1, 3, none⟩) (by show w.heap.size ≤ w.heap.size + 1; omega) (.slice none 0 0)
  obtain ⟨wF, hwF⟩ : ∃ wF, (((w1.setCell ⟨w.heap.size + 1, 0, none⟩ (.int .i64 0)).setCell ⟨w.heap.size + 1, 1, none⟩ (.int .i64 0)).setCell ⟨w.heap.size + 1, 2, none⟩ (.slice none 0 0)).setCell ⟨w.heap.size + 1, 3, none⟩ (.slice none 0 0) = wF := ⟨_, rfl⟩
  rw [hwF] at f1 fb ⊢
  have d0 : wF.cell? ⟨w.heap.size + 1, 0, none⟩ = some (.int .i64 0) := f1.at rfl
  have d1 : wF.cell? ⟨w.heap.size + 1, 1, none⟩ = some (.int .i64 0) := f1.at rfl
  have d2 : wF.cell? ⟨w.heap.size + 1, 2, none⟩ = some (.slice none 0 0) := f1.at rfl
  have d3 : wF.cell? ⟨w.heap.size + 1, 3, none⟩ = some (.slice none 0 0) := f1.at rfl
  (try simp only [Exit.inBlock, Exit.then])
  refine bodyPost_ret (by simp [results, Try.results15, go_sem, d0, d1, d2, d3]; try rfl) rfl ?_
  exact ⟨rfl, fb⟩

set_option maxRecDepth 100000 in
set_option maxHeartbeats 4000000 in
theorem ack_b2 (h nx : Int) (A : Option Addr) (n c : Nat) (B : Option Addr) (m d : Nat) (O : List (Int × Int)) (I : List Int) (x : Int) (w : World) (hn : n ≤ 9223372036854775807) (hm : m ≤ 9223372036854775807) (hlO : O.length = n) (hlI : I.length = m) (hRO : RL w A (cT O)) (hRI : RL w B (cI I)) (hAn : A = none → n = 0 ∧ c = 0) (hBn : B = none → m = 0 ∧ d = 0) (hv : vB h nx O I = true) (hin : ¬ hasT x O) :
    Calls Try.prog 15 #[.agg #[.int .i64 h, .int .i64 nx, .slice A n c, .slice B m d], .int .i64 x] w fun e w' => e = .returned (.tuple #[zS, .int .i64 4]) ∧ Below w.heap.size w w' := by
  have HV := Lib.hid hv
  have HRO := Lib.hid hRO
  have HRI := Lib.hid hRI
  have HLO := Lib.hid hlO
  have HLI := Lib.hid hlI
  have HAN := Lib.hid hAn
  have HBN := Lib.hid hBn
  have hvs := vB_iff.1 hv
  have hn64 : n ≤ 64 := by have := hvs.2.1; omega
  have hm64 : m ≤ 64 := by have := hvs.2.1; omega
  have HINC := Lib.hid hvs.2.2.2.2.1
  have HFD : Hid (∀ p, Place (fun i => (at2 O i).1) n x p → decide (p < n ∧ (at2 O p).1 = x) = false) := Lib.hid fun p hp => by
    have := placeT_mem HINC.out hlO hp
    simp only [decide_eq_false_iff_not] at *
    simp [this, hin]
  have HIN := Lib.hid hin
  clear hvs hin

  clear hv hRO hRI hlO hlI hAn hBn
  go_enter Try.func15, Try.ntmps15
  go_wp2_with (first
    | (go_at_call 18; with_reducible refine (val_any h nx A n c B m d O I _ hn hm HLO.out HLI.out (HRO.out.keep (bel_alloc (bel_a w _) _)) (HRI.out.keep (bel_alloc (bel_a w _) _))).mono ?_; rintro e w1 ⟨rfl, h1⟩; rw [HV.out]
       have H1 := Lib.hid (bel_step (bel_alloc (bel_a w (.cells #[.int .i64 h, .int .i64 nx, .slice A n c, .slice B m d] 25)) (.cells #[.int .i64 0, .int .i64 0, .slice none 0 0, .slice none 0 0] 25)) h1)
       have p0 := ((OW.new w 25 [.int .i64 h, .int .i64 nx, .slice A n c, .slice B m d]).alloc (.cells #[.int .i64 0, .int .i64 0, .slice none 0 0, .slice none 0 0] 25)).keep h1
       have p2 := (OW.new1 w (.cells #[.int .i64 h, .int .i64 nx, .slice A n c, .slice B m d] 25) 25 [.int .i64 0, .int .i64 0, .slice none 0 0, .slice none 0 0]).keep h1
       have P0 := Lib.hid p0
       have P2 := Lib.hid p2
       have l0 := p0.lt
       have l2 := p2.lt
       have c02 := p0.at (j := 2) rfl
       have c20 := p2.at (j := 0) rfl
       have c21 := p2.at (j := 1) rfl
       have c22 := p2.at (j := 2) rfl
       have c23 := p2.at (j := 3) rfl
       have z20 := p2.thaw 0
       have z21 := p2.thaw 1
       have z22 := p2.thaw 2
       have z23 := p2.thaw 3
       clear p0 p2 h1)
    | (go_at_call 26; with_reducible refine (keys_any _).mono ?_; rintro e w3 ⟨rfl, rfl⟩)
    | (go_at_call 31; with_reducible refine (find_tr A n c O x _ (by omega) HLO.out (HRO.out.keep H1.out) HINC.out).mono ?_; rintro e w2 ⟨⟨p, rfl, hpl⟩, h2⟩; rw [HFD.out p hpl]
       have HPL := Lib.hid hpl
       have hpm := hpl.1
       have H2 := Lib.hid (bel_step H1.out h2)
       have Q0 := Lib.hid (P0.out.keep h2)
       have Q2 := Lib.hid (P2.out.keep h2)
       have m0 := Q0.out.lt
       have m2 := Q2.out.lt
       have b00 := Q0.out.at (j := 0) rfl
       have b01 := Q0.out.at (j := 1) rfl
       have b02 := Q0.out.at (j := 2) rfl
       have b03 := Q0.out.at (j := 3) rfl
       have b20 := Q2.out.at (j := 0) rfl
       have b21 := Q2.out.at (j := 1) rfl
       have b22 := Q2.out.at (j := 2) rfl
       have b23 := Q2.out.at (j := 3) rfl
       have y20 := Q2.out.thaw 0
       have y21 := Q2.out.thaw 1
       have y22 := Q2.out.thaw 2
       have y23 := Q2.out.thaw 3
       clear hpl h2))
  all_goals (try (exfalso; omega))
  have f1 := (((Q2.out.set 0 (.int .i64 0)).set 1 (.int .i64 0)).set 2 (.slice none 0 0)).set 3 (.slice none 0 0)
  have fb := (((H2.out.setCell (p := ⟨w.heap.size + 1, 0, none⟩) (by show w.heap.size ≤ w.heap.size + 1; omega) (.int .i64 0)).setCell (p := ⟨w.heap.size + 1, 1, none⟩) (by show w.heap.size ≤ w.heap.size + 1; omega) (.int .i64 0)).setCell (p := ⟨w.heap.size + 1, 2, none⟩) (by show w.heap.size ≤ w.heap.size + 1; omega) (.slice none 0 0)).setCell (p := ⟨w.heap.size + 1, 3, none⟩) (by show w.heap.size ≤ w.heap.size + 1; omega) (.slice none 0 0)
  obtain ⟨wF, hwF⟩ : ∃ wF, (((w2.setCell ⟨w.heap.size + 1, 0, none⟩ (.int .i64 0)).setCell ⟨w.heap.size + 1, 1, none⟩ (.int .i64 0)).setCell ⟨w.heap.size + 1, 2, none⟩ (.slice none 0 0)).setCell ⟨w.heap.size + 1, 3, none⟩ (.slice none 0 0) = wF := ⟨_, rfl⟩
  rw [hwF] at f1 fb ⊢
  have d0 : wF.cell? ⟨w.heap.size + 1, 0, none⟩ = some (.int .i64 0) := f1.at rfl
  have d1 : wF.cell? ⟨w.heap.size + 1, 1, none⟩ = some (.int .i64 0) := f1.at rfl
  have d2 : wF.cell? ⟨w.heap.size + 1, 2, none⟩ = some (.slice none 0 0) := f1.at rfl
  have d3 : wF.cell? ⟨w.heap.size + 1, 3, none⟩ = some (.slice none 0 0) := f1.at rfl
  (try simp only [Exit.inBlock, Exit.then])
  refine bodyPost_ret (by simp [results, Try.results15, go_sem, d0, d1, d2, d3]; try rfl) rfl ?_
  exact ⟨rfl, fb⟩

set_option maxRecDepth 100000 in
set_option maxHeartbeats 4000000 in
theorem ack_okF (h nx : Int) (A : Option Addr) (n c : Nat) (B : Option Addr) (m d : Nat) (O : List (Int × Int)) (I : List Int) (x : Int) (w : World) (hn : n ≤ 9223372036854775807) (hm : m ≤ 9223372036854775807) (hlO : O.length = n) (hlI : I.length = m) (hRO : RL w A (cT O)) (hRI : RL w B (cI I)) (hAn : A = none → n = 0 ∧ c = 0) (hBn : B = none → m = 0 ∧ d = 0) (hv : vB h nx O I = true) (hin : hasT x O) :
    Calls Try.prog 15 #[.agg #[.int .i64 h, .int .i64 nx, .slice A n c, .slice B m d], .int .i64 x] w fun e w' => (∃ v, e = .returned (.tuple #[v, .int .i64 0]) ∧ SN w' v h nx (wo x O) I ∧ SF w.heap.size v) ∧ Below w.heap.size w w' := by
  have HV := Lib.hid hv
  have HRO := Lib.hid hRO
  have HRI := Lib.hid hRI
  have HLO := Lib.hid hlO
  have HLI := Lib.hid hlI
  have HAN := Lib.hid hAn
  have HBN := Lib.hid hBn
  have hvs := vB_iff.1 hv
  have hn64 : n ≤ 64 := by have := hvs.2.1; omega
  have hm64 : m ≤ 64 := by have := hvs.2.1; omega
  have HINC := Lib.hid hvs.2.2.2.2.1
  have HFD : Hid (∀ p, Place (fun i => (at2 O i).1) n x p → decide (p < n ∧ (at2 O p).1 = x) = true) := Lib.hid fun p hp => by
    have := placeT_mem HINC.out hlO hp
    simp only [decide_eq_true_eq] at *
    simp [this, hin]
  have HIN := Lib.hid hin
  clear hvs hin

  clear hv hRO hRI hlO hlI hAn hBn
  go_enter Try.func15, Try.ntmps15
  go_wp2_with (first
    | (go_at_call 18; with_reducible refine (val_any h nx A n c B m d O I _ hn hm HLO.out HLI.out (HRO.out.keep (bel_alloc (bel_a w _) _)) (HRI.out.keep (bel_alloc (bel_a w _) _))).mono ?_; rintro e w1 ⟨rfl, h1⟩; rw [HV.out]
       have H1 := Lib.hid (bel_step (bel_alloc (bel_a w (.cells #[.int .i64 h, .int .i64 nx, .slice A n c, .slice B m d] 25)) (.cells #[.int .i64 0, .int .i64 0, .slice none 0 0, .slice none 0 0] 25)) h1)
       have p0 := ((OW.new w 25 [.int .i64 h, .int .i64 nx, .slice A n c, .slice B m d]).alloc (.cells #[.int .i64 0, .int .i64 0, .slice none 0 0, .slice none 0 0] 25)).keep h1
       have p2 := (OW.new1 w (.cells #[.int .i64 h, .int .i64 nx, .slice A n c, .slice B m d] 25) 25 [.int .i64 0, .int .i64 0, .slice none 0 0, .slice none 0 0]).keep h1
       have P0 := Lib.hid p0
       have P2 := Lib.hid p2
       have l0 := p0.lt
       have l2 := p2.lt
       have c02 := p0.at (j := 2) rfl
       have c20 := p2.at (j := 0) rfl
       have c21 := p2.at (j := 1) rfl
       have c22 := p2.at (j := 2) rfl
       have c23 := p2.at (j := 3) rfl
       have z20 := p2.thaw 0
       have z21 := p2.thaw 1
       have z22 := p2.thaw 2
       have z23 := p2.thaw 3
       clear p0 p2 h1)
    | (go_at_call 26; with_reducible refine (keys_any _).mono ?_; rintro e w3 ⟨rfl, rfl⟩)
    | (go_at_call 31; with_reducible refine (find_tr A n c O x _ (by omega) HLO.out (HRO.out.keep H1.out) HINC.out).mono ?_; rintro e w2 ⟨⟨p, rfl, hpl⟩, h2⟩; rw [HFD.out p hpl]
       have HPL := Lib.hid hpl
       have hpm := hpl.1
       have H2 := Lib.hid (bel_step H1.out h2)
       have Q0 := Lib.hid (P0.out.keep h2)
       have Q2 := Lib.hid (P2.out.keep h2)
       have m0 := Q0.out.lt
       have m2 := Q2.out.lt
       have b00 := Q0.out.at (j := 0) rfl
       have b01 := Q0.out.at (j := 1) rfl
       have b02 := Q0.out.at (j := 2) rfl
       have b03 := Q0.out.at (j := 3) rfl
       have b20 := Q2.out.at (j := 0) rfl
       have b21 := Q2.out.at (j := 1) rfl
       have b22 := Q2.out.at (j := 2) rfl
       have b23 := Q2.out.at (j := 3) rfl
       have y20 := Q2.out.thaw 0
       have y21 := Q2.out.thaw 1
       have y22 := Q2.out.thaw 2
       have y23 := Q2.out.thaw 3
       clear hpl h2))
  all_goals (try (exfalso; omega))
  have hpw := placeT_wo HINC.out HLO.out HPL.out HIN.out
  obtain ⟨k, hk⟩ : ∃ k, n = k + 1 := ⟨n - 1, by omega⟩
  have hpn := hpw.1
  have HPW := Lib.hid hpw.2
  have HK := Lib.hid hk
  have hk1 : n ≤ k + 1 := by omega
  have hk2 : k + 1 ≤ n := by omega
  clear hpw hk
  refine (dup_any h nx A n c B m d O I _ (by omega) (by omega) HLO.out HLI.out (HRO.out.keep H2.out) (HRI.out.keep H2.out) HAN.out HBN.out).mono ?_
  rintro e w3 ⟨⟨gO, gI, rfl, hO3, hI3, lgO, lgI⟩, h3⟩
  have H3 := Lib.hid (bel_step H2.out h3)
  have R2 := Lib.hid (Q2.out.keep h3)
  have HO3 := Lib.hid hO3
  have HI3 := Lib.hid hI3
  have n2 := R2.out.lt
  clear h3 hO3 hI3 c02 c20 c21 c22 c23 z20 z21 z22 z23 b00 b01 b02 b03 b20 b21 b22 b23 y20 y21 y22 y23 P0 P2 Q0 Q2 H1 H2
  go_wp2_with (go_at_call 32; with_reducible refine (del_tr gO n k p O _ (by omega) HK.out HLO.out hpn (HO3.out.alloc _)).mono ?_; rintro e w4 ⟨⟨g4, rfl, hO4, lg4⟩, h4⟩
               have H4 := Lib.hid (bel_step (bel_alloc H3.out _) h4)
               have S2 := Lib.hid ((R2.out.alloc _).keep h4)
               have S9 := Lib.hid ((OW.new w3 25 [.int .i64 h, .int .i64 nx, .slice (some ⟨gO, 0, none⟩) n n, .slice (some ⟨gI, 0, none⟩) m m]).keep h4)
               have HO4 := Lib.hid hO4
               have HI4 := Lib.hid ((HI3.out.alloc _).keep h4)
               have x0 := S9.out.at (j := 0) rfl
               have x1 := S9.out.at (j := 1) rfl
               have x2 := S9.out.at (j := 2) rfl
               have x3 := S9.out.at (j := 3) rfl
               have f3 := S9.out.thaw 2
               have c20 := S2.out.at (j := 0) rfl
               have c21 := S2.out.at (j := 1) rfl
               have c22 := S2.out.at (j := 2) rfl
               have c23 := S2.out.at (j := 3) rfl
               have z20 := S2.out.thaw 0
               have z21 := S2.out.thaw 1
               have z22 := S2.out.thaw 2
               have z23 := S2.out.thaw 3
               have v1 : ¬ w3.heap.size = w.heap.size + 1 := by omega
               have v2 : ¬ w.heap.size + 1 = w3.heap.size := by omega
               clear h4 hO4)
  rw [World.size_alloc] at lg4
  have o2 := HO3.out.lt
  have o3 := HI3.out.lt
  have u2 := (S2.out.far (b := w3.heap.size) (by omega) 2 (.slice (some ⟨g4, 0, none⟩) k k))
  have f1 := (((u2.set 0 (.int .i64 h)).set 1 (.int .i64 nx)).set 2 (.slice (some ⟨g4, 0, none⟩) k k)).set 3 (.slice (some ⟨gI, 0, none⟩) m m)
  have uI := (HI4.out.far (b := w3.heap.size) (by omega) 2 (.slice (some ⟨g4, 0, none⟩) k k))
  have fI := (((uI.far (b := w.heap.size + 1) (by omega) 0 (.int .i64 h)).far (b := w.heap.size + 1) (by omega) 1 (.int .i64 nx)).far (b := w.heap.size + 1) (by omega) 2 (.slice (some ⟨g4, 0, none⟩) k k)).far (b := w.heap.size + 1) (by omega) 3 (.slice (some ⟨gI, 0, none⟩) m m)
  have uO := (HO4.out.far (b := w3.heap.size) (by omega) 2 (.slice (some ⟨g4, 0, none⟩) k k))
  have fO := (((uO.far (b := w.heap.size + 1) (by omega) 0 (.int .i64 h)).far (b := w.heap.size + 1) (by omega) 1 (.int .i64 nx)).far (b := w.heap.size + 1) (by omega) 2 (.slice (some ⟨g4, 0, none⟩) k k)).far (b := w.heap.size + 1) (by omega) 3 (.slice (some ⟨gI, 0, none⟩) m m)
  have fb := ((((H4.out.setCell (p := ⟨w3.heap.size, 2, none⟩) (by show w.heap.size ≤ w3.heap.size; omega) (.slice (some ⟨g4, 0, none⟩) k k)).setCell (p := ⟨w.heap.size + 1, 0, none⟩) (by show w.heap.size ≤ w.heap.size + 1; omega) (.int .i64 h)).setCell (p := ⟨w.heap.size + 1, 1, none⟩) (by show w.heap.size ≤ w.heap.size + 1; omega) (.int .i64 nx)).setCell (p := ⟨w.heap.size + 1, 2, none⟩) (by show w.heap.size ≤ w.heap.size + 1; omega) (.slice (some ⟨g4, 0, none⟩) k k)).setCell (p := ⟨w.heap.size + 1, 3, none⟩) (by show w.heap.size ≤ w.heap.size + 1; omega) (.slice (some ⟨gI, 0, none⟩) m m)
  obtain ⟨wF, hwF⟩ : ∃ wF, ((((w4.setCell ⟨w3.heap.size, 2, none⟩ (.slice (some ⟨g4, 0, none⟩) k k)).setCell ⟨w.heap.size + 1, 0, none⟩ (.int .i64 h)).setCell ⟨w.heap.size + 1, 1, none⟩ (.int .i64 nx)).setCell ⟨w.heap.size + 1, 2, none⟩ (.slice (some ⟨g4, 0, none⟩) k k)).setCell ⟨w.heap.size + 1, 3, none⟩ (.slice (some ⟨gI, 0, none⟩) m m) = wF := ⟨_, rfl⟩
  rw [hwF] at f1 fI fO fb ⊢
  have d0 : wF.cell? ⟨w.heap.size + 1, 0, none⟩ = some (.int .i64 h) := f1.at rfl
  have d1 : wF.cell? ⟨w.heap.size + 1, 1, none⟩ = some (.int .i64 nx) := f1.at rfl
  have d2 : wF.cell? ⟨w.heap.size + 1, 2, none⟩ = some (.slice (some ⟨g4, 0, none⟩) k k) := f1.at rfl
  have d3 : wF.cell? ⟨w.heap.size + 1, 3, none⟩ = some (.slice (some ⟨gI, 0, none⟩) m m) := f1.at rfl
  have hlen : (O.take p ++ O.drop (p + 1)).length = k := by have := HLO.out; simp; omega
  rw [HPW.out] at fO hlen
  (try simp only [Exit.inBlock, Exit.then])
  refine bodyPost_ret (by simp [results, Try.results15, go_sem, d0, d1, d2, d3]; try rfl) rfl ?_
  exact ⟨⟨_, rfl, OW_sn (n := k) (m := m) fO fI hlen HLI.out (by omega) (by omega), _, _, _, _, _, _, rfl, by omega, by omega⟩, fb⟩

theorem ack_ok (h nx : Int) (A : Option Addr) (n c : Nat) (B : Option Addr) (m d : Nat) (O : List (Int × Int)) (I : List Int) (x : Int) (w : World) (hn : n ≤ 9223372036854775807) (hm : m ≤ 9223372036854775807) (hlO : O.length = n) (hlI : I.length = m) (hRO : RL w A (cT O)) (hRI : RL w B (cI I)) (hAn : A = none → n = 0 ∧ c = 0) (hBn : B = none → m = 0 ∧ d = 0) (hv : vB h nx O I = true) (hin : hasT x O) :
    Calls Try.prog 15 #[.agg #[.int .i64 h, .int .i64 nx, .slice A n c, .slice B m d], .int .i64 x] w fun e w' => (∃ v, e = .returned (.tuple #[v, .int .i64 0]) ∧ SN w' v h nx (wo x O) I) ∧ Below w.heap.size w w' := (ack_okF h nx A n c B m d O I x w hn hm hlO hlI hRO hRI hAn hBn hv hin).mono fun e w' ⟨⟨v, e1, e2, _⟩, hb⟩ => ⟨⟨v, e1, e2⟩, hb⟩

/-- Acked, whatever it is given -/
theorem ack_all (v : Value) (h nx : Int) (O : List (Int × Int)) (I : List Int) (x : Int) (w : World) (hs : SV w v h nx O I) :
    Calls Try.prog 15 #[v, .int .i64 x] w fun e w' => (∃ v' er, e = .returned (.tuple #[v', .int .i64 er]) ∧ AckR w' v' er h nx O I x) ∧ Below w.heap.size w w' := by
  obtain ⟨A, c, B, d, rfl, hRO, hRI, hAn, hBn, hc, hd⟩ := hs
  cases hv : vB h nx O I
  · refine (ack_b1 h nx A _ c B _ d O I x w (by omega) (by omega) rfl rfl hRO hRI hAn hBn hv).mono ?_
    rintro e w' ⟨rfl, hb⟩
    exact ⟨⟨_, _, rfl, by unfold aE; rw [if_neg (by rw [hv]; decide)], .inr ⟨by decide, rfl⟩⟩, hb⟩
  · by_cases h1 : hasT x O
    · refine (ack_ok h nx A _ c B _ d O I x w (by omega) (by omega) rfl rfl hRO hRI hAn hBn hv h1).mono ?_
      rintro e w' ⟨⟨v', rfl, hs'⟩, hb⟩
      exact ⟨⟨_, _, rfl, by unfold aE; rw [if_pos hv, if_pos h1], .inl ⟨rfl, hs'⟩⟩, hb⟩
    · refine (ack_b2 h nx A _ c B _ d O I x w (by omega) (by omega) rfl rfl hRO hRI hAn hBn hv h1).mono ?_
      rintro e w' ⟨rfl, hb⟩
      exact ⟨⟨_, _, rfl, by unfold aE; rw [if_pos hv, if_neg h1], .inr ⟨by decide, rfl⟩⟩, hb⟩
end Go.Proofs.Yteeohndgkfilaaa
