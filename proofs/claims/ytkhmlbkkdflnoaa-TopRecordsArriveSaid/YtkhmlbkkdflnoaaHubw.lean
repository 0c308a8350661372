/-
  THE WALKS over package hub, seventh part: Receive where messages are handed over.
-/
import Derived.Test.YtkhmlbkkdflnoaaHubv
import Derived.Test.YtkhmlbkkdflnoaaHubr
import Derived.Test.YtkhmlbkkdflnoaaRangeA
import Derived.Deep.RegionHeld3
namespace Go.Proofs.Ytkhmlbkkdflnoaa.Hb
open Go.RowKit Go.Shelf
open Rc (own_below)
open Ch (kept_low)
attribute [local go_sem ↓] Go.wp_at_zero Go.wp_at_succ
attribute [local go_sem] Oper.semAt_some
set_option linter.unusedVariables false
set_option linter.unusedSimpArgs false

theorem wpIn_rangeB {F : Fence} {n : Nat} {P : Program} {α : Type} {g : Operand} {ps : Array Tmp} {assign body : Code} {Q : Exit → Act → World → Prop} {a : Act} {w : World} (s : Nat)
    (hro : F.round = none) (h1 : 1 ≤ n) {gf : Nat} {lb : Array Value} (hg : a.eval g = .func (.func gf) #[] lb) (hFg : F.fn gf) (eg : ∀ args w, (callFunc gf args).run P w = .ok (.enter gf args) w)
    {encs : α → Array Value} {Kp : World → World → Prop} {S Sp : List α → Prop} {N : Nat} {w0 : World} (hseq : SeqStopsK F (n - 1) P gf lb encs Kp S Sp N w0)
    (hKt : ∀ {A B C : World}, Kp A B → Kp B C → Kp A C) (hKb : ∀ (W : World) (l : Nat) (o o' : Obj), w.heap.size ≤ l → W.heap[l]? = some o → o.isCells = false → o.isWalk = false → Kp W (W.putObj l o')) (hb0 : Below w0.heap.size w0 w) (hps : ∀ x, (encs x).size = ps.size)
    (I : List α → World → Prop) (Ia : List α → α → Nat → World → Prop) (Ix : Code → List α → World → Prop) (hI : OwnFrom w.heap.size I) (hIa : ∀ x B, OwnFrom w.heap.size (fun pre => Ia pre x B)) (hIx : ∀ c, OwnFrom w.heap.size (Ix c)) (h0 : I [] w)
    (hassign : ∀ (l : Nat) (pre : List α) (x : α) (W : World), I pre W → pre.length < N →
      assign.wpIn (F.inRound l) (n - 1 - 1) P (Exit.then (fun a2 W2 => KeepsOthers W W2 ∧ Kp W W2 ∧ ∃ B, a2 = { tmps := ((ps.zip (encs x)).foldl (fun t (p, v) => t.setIfInBounds p v) a.tmps).setIfInBounds s (.pointer (some ⟨B, 0, none⟩)), defers := [] } ∧ Ia pre x B W2) (fun _ _ _ => False)) { tmps := (ps.zip (encs x)).foldl (fun t (p, v) => t.setIfInBounds p v) a.tmps, defers := [] } W)
    (hbody : ∀ (l : Nat) (pre : List α) (x : α) (B : Nat) (W : World), Ia pre x B W → pre.length < N → body.wpIn (F.inRound l) (n - 1 - 1) P (ownPostK Kp I Ix (pre ++ [x]) W) { tmps := ((ps.zip (encs x)).foldl (fun t (p, v) => t.setIfInBounds p v) a.tmps).setIfInBounds s (.pointer (some ⟨B, 0, none⟩)), defers := [] } W)
    (hdone : ∀ (D : Nat) (xs : List α) (W : World), w.heap.size ≤ D → S xs → I xs W → W.heap[D]? = some (.deferred (some [])) → Q .normal { a with defers := { target := .collected D, args := #[] } :: a.defers } W)
    (hstop : ∀ (D : Nat) (c : Code) (pre : List α) (W : World), w.heap.size ≤ D → Sp pre → Ix c pre W → W.heap[D]? = some (.deferred (some [])) → c.wpIn F n P Q { a with defers := { target := .collected D, args := #[] } :: a.defers } W) :
    (Code.rangeFunc g ps assign body).wpIn F n P Q a w :=
  wpIn_rangeA hro h1 hg hFg eg hseq hKt hKb hb0 hps I (fun pre x a2 W => ∃ B, a2 = { tmps := ((ps.zip (encs x)).foldl (fun t (p, v) => t.setIfInBounds p v) a.tmps).setIfInBounds s (.pointer (some ⟨B, 0, none⟩)), defers := [] } ∧ Ia pre x B W) Ix hI
    (fun x a2 => by
      rintro s1 A B row ⟨b, h2, h3⟩ hgr hr
      exact ⟨b, h2, hIa x b s1 A B row h3 hgr hr⟩)
    hIx h0 hassign
    (fun l pre x a2 W ⟨B, h2, h3⟩ hl => by rw [h2]; exact hbody l pre x B W h3 hl)
    hdone hstop

theorem app2 {W w1 : World} {n₁ base B : Nat} {t e : TypeId} {size : Nat} {v v' : Value} {k m : Nat} {xs ys : List Value} {tmp : Obj}
    (hv : Boxed W B t v) (hte : t ≠ e) (hrow : W.ownsRow base e size v k xs) (hn : n₁ ≤ W.heap.size) (hB : n₁ ≤ B) (hb : n₁ ≤ base)
    (hown' : w1.ownsRow base e size v' m ys) (hgrow : (W.alloc tmp).grownBy w1 v.ownBlock) :
    Boxed w1 B t v ∧ Boxed (w1.setCell ⟨B, 0, none⟩ v') B t v' ∧ (w1.setCell ⟨B, 0, none⟩ v').ownsRow base e size v' m ys ∧ KeepsOthers W (w1.setCell ⟨B, 0, none⟩ v') ∧ Below n₁ W (w1.setCell ⟨B, 0, none⟩ v') ∧
      ∀ j, j < W.heap.size → j < base → j ≠ B → (w1.setCell ⟨B, 0, none⟩ v').heap[j]? = W.heap[j]? := by
  have hv1 : Boxed w1 B t v := (hv.alloc tmp).kept hgrow (hv.not_row hte hrow)
  have hge := own_ge hrow
  refine ⟨hv1, hv1.set v', hown'.kept (grownBy_setCell' w1 B v') (.inr (hv1.not_row hte hown').symm), ?_, ?_, ?_⟩
  · refine ((KeepsOthers.alloc W tmp).trans (KeepsOthers.of_grownBy hgrow fun j o ej hj => ?_)).trans (KeepsOthers.setCell _ _ _)
    rcases (hrow.alloc tmp).2 with ⟨rfl, _⟩ | ⟨g, cap, cur, rfl, _, hgb, _⟩
    · simp [Value.ownBlock] at ej
    · obtain rfl : g = j := by simpa [Value.ownBlock] using ej
      rw [hgb] at hj; cases hj; rfl
  · exact (((Below.refl n₁ W).alloc hn tmp).grown hgrow (by simp; omega) fun j ej => by have := hge j ej; omega).setCell (p := ⟨B, 0, none⟩) hB v'
  · intro j hj hjb hjB
    rw [Below.heap_setCell w1 ⟨B, 0, none⟩ v' j hjB, hgrow.block j (by simp; omega) (fun ej => by have := hge j ej.symm; omega)]
    exact Below.heap_alloc W tmp j hj
theorem own_kb {W W' : World} {B n : Nat} {t : TypeId} {s k : Nat} {v : Value} {xs : List Value} (h : W.ownsRow B t s v k xs) (hb : ∀ j, j < n → W'.heap[j]? = W.heap[j]?) (hl : ∀ j, v.ownBlock = some j → j < n) : W'.ownsRow B t s v k xs := by
  refine ⟨h.1, ?_⟩
  rcases h.2 with h' | ⟨g, cap, cur, rfl, h2, h3, r⟩
  · exact .inl h'
  · exact .inr ⟨g, cap, cur, rfl, h2, (hb g (hl g rfl)).trans h3, r⟩
theorem rn_spec {N : Int} {f : Nat → Int} {q r : Nat} (h : rn N f q = r) : (∀ j, j < r → f j = N + 1 + j) ∧ (r < q → ¬ f r = N + 1 + r) := by
  subst h
  refine ⟨fun j hj => ?_, fun h e => ?_⟩
  · have := fi_lt (fun i => decide (f i = N + 1 + i)) q j hj
    simpa using this
  · have := fi_at (fun i => decide (f i = N + 1 + i)) q h
    have h2 : ¬ f (rn N f q) = N + 1 + (rn N f q : Nat) := by simpa [rn] using this
    exact h2 e
/-- the numbers of those handed over -/
def nx (m : Int) (pre : List Nat) (i : Nat) : Int := m + (pre.getD i 0 : Nat)
/-- what holds while messages are handed over -/
def OI (pb : Nat) (m : Int) (w : World) (pre : List Nat) (W : World) : Prop :=
  ∃ v, Boxed W pb 65 v ∧ W.ownsRow (pb + 3) 69 3 v pre.length (tri (mg (nx m pre)) pre.length) ∧ Below pb w W ∧ pb + 3 ≤ W.heap.size
theorem nx_snoc {m : Int} {pre : List Nat} {x : Nat} : tri (mg (nx m pre)) pre.length ++ [.int .i64 3, .int .i64 (m + x), .int .i64 (m + x - 1)] = tri (mg (nx m (pre ++ [x]))) (pre ++ [x]).length := by
  have e : (pre ++ [x]).length = pre.length + 1 := by simp
  rw [e]
  show _ = tri (mg (nx m (pre ++ [x]))) pre.length ++ _
  rw [tri_congr (X := mg (nx m pre)) (Y := mg (nx m (pre ++ [x]))) pre.length fun i hi j hj => by
    have : nx m (pre ++ [x]) i = nx m pre i := by
      unfold nx
      rw [List.getD_eq_getElem?_getD, List.getD_eq_getElem?_getD, List.getElem?_append_left hi]
    unfold mg
    rw [this]]
  have h2 : nx m (pre ++ [x]) pre.length = m + x := by
    unfold nx
    rw [List.getD_eq_getElem?_getD]
    simp
  simp [mg, h2]
theorem OI.own (pb : Nat) (m : Int) (w : World) (n : Nat) (hn : pb + 3 ≤ n) : OwnFrom n (OI pb m w) := by
  rintro s A B row ⟨v, x0, x1, x2, x3⟩ hg hr
  refine ⟨v, kept_low hg hr (by omega) x0, x1.kept hg ?_, ?_, Nat.le_trans x3 hg.size⟩
  · by_cases h : v.ownBlock = none
    · exact .inl h
    · refine .inr fun e => ?_
      obtain ⟨k, hk⟩ : ∃ k, v.ownBlock = some k := Option.ne_none_iff_exists'.1 h
      obtain ⟨o, ho, hc⟩ := (hr k (e.symm.trans hk)).2
      rcases x1.2 with ⟨rfl, _⟩ | ⟨g', cap', cur, rfl, _, hgb, _⟩
      · simp [Value.ownBlock] at hk
      · have : g' = k := by simpa [Value.ownBlock] using hk
        subst this
        rw [hgb] at ho
        cases ho
        cases hc
  · exact x2.trans ⟨hg.os, hg.tape, hg.output, hg.size, fun k hk => hg.block k (by omega) (fun e => by have := (hr k e.symm).1; omega)⟩
/-- behind the assignment: the message lies in block B8 -/
def OA (pb : Nat) (m : Int) (w : World) (pre : List Nat) (x B8 : Nat) (W : World) : Prop :=
  W.heap[B8]? = some (.cells #[.int .i64 3, .int .i64 (m + x), .int .i64 (m + x - 1)] 69 (0, 0)) ∧ OI pb m w pre W ∧ pb + 3 ≤ B8
theorem OA.own (pb : Nat) (m : Int) (w : World) (x B8 : Nat) (n : Nat) (hn : pb + 3 ≤ n) : OwnFrom n (fun pre => OA pb m w pre x B8) := by
  rintro s A' B row ⟨h2, h3, h4⟩ hg hr
  refine ⟨?_, OI.own pb m w n hn s A' B row h3 hg hr, h4⟩
  refine (hg.block B8 (Array.getElem?_eq_some_iff.1 h2).1 (fun e => ?_)).trans h2
  obtain ⟨o, ho, hc⟩ := (hr B8 e.symm).2
  rw [h2] at ho
  cases ho
  cases hc
theorem rng_tri {m : Int} {r : Nat} : tri (mg (nx m (List.range (r + 1)))) (r + 1) = tri (mg (fun i => m + i)) (r + 1) :=
  tri_congr _ fun i hi j hj => by
    have : nx m (List.range (r + 1)) i = m + i := by
      unfold nx
      rw [List.getD_eq_getElem?_getD, List.getElem?_range hi]
      rfl
    unfold mg
    rw [this]
theorem over_wt {N m : Int} {q r : Nat} {f : Nat → Int} (h : Wt N q f) (hm : m ≤ 999) (h1 : N ≤ m) (h2 : m ≤ N) (hr : r ≤ q) (hs : (∀ j, j < r → f j = m + 1 + j) ∧ (r < q → ¬ f r = m + 1 + r)) : Wt (N + ((r : Int) + 1)) (q - r) (fun i => f (r + i)) := by
  obtain ⟨a1, a2, a3, a4⟩ := h
  refine ⟨⟨by omega, ?_⟩, by omega, fun i hi => ?_, fun i j hij hj => a4 (r + i) (r + j) (by omega) (by omega)⟩
  · rcases Nat.eq_zero_or_pos r with e | e
    · subst e
      simp
      omega
    · have e1 := hs.1 (r - 1) (by omega)
      have e2 := (a3 (r - 1) (by omega)).2
      omega
  · have hrq : r < q := by omega
    have e3 := hs.2 hrq
    have e4 : N + r < f r := by
      rcases Nat.eq_zero_or_pos r with e | e
      · subst e
        have := (a3 0 (by omega)).1
        simp
        omega
      · have e1 := hs.1 (r - 1) (by omega)
        have e2 := a4 (r - 1) r (by omega) hrq
        omega
    have e5 : f r ≤ f (r + i) := by
      rcases Nat.eq_zero_or_pos i with e | e
      · subst e; exact Int.le_refl _
      · have := a4 r (r + i) (by omega) (by omega)
        omega
    have e6 := (a3 (r + i) (by omega)).2
    show N + ((r : Int) + 1) < f (r + i) ∧ f (r + i) ≤ 999
    omega
theorem RP_set {w : World} {A : Option Addr} {n g j : Nat} {X : Nat → Nat → Int} (h : RP w A n X) (hg : ∀ b o, A = some ⟨b, o, none⟩ → b ≠ g) (u : Value) : RP (w.setCell ⟨g, j, none⟩ u) A n X := fun i hi => by
  obtain ⟨b, o, e, hb, c0, c1, c2⟩ := h i hi
  have hne := hg b o e
  refine ⟨b, o, e, by simpa [World.setCell] using hb, ?_, ?_, ?_⟩ <;> rw [World.cell?_setCell_other _ _ _ _ (by intro e; injection e with e1; exact hne e1.symm)] <;> assumption
theorem inbox_sep {W : World} {B g c g3 : Nat} {N : Int} {q : Nat} {f : Nat → Int} {cw : Nat} (h : OB W B g c N q f (some ⟨g3, 0, none⟩) cw) : g3 ≠ g := by
  rcases h.1.2 with ⟨h', _⟩ | ⟨_, _, _, e1, _, h1, _⟩
  · cases h'
  · rcases h.2.1.2 with ⟨h', _⟩ | ⟨_, _, _, e2, _, h2, _⟩
    · cases h'
    · cases e1
      cases e2
      intro e
      rw [e, h1] at h2
      simp at h2
theorem over_fin {W W2 : World} {B g c pb D nq : Nat} {N M : Int} {q q' : Nat} {f f' : Nat → Int} {A8 A' : Option Addr} {cw8 : Nat} (h : OB W B g c N q f A8 cw8) (hBg : B ≤ g) (hgp : g < pb) (hD : pb + 3 ≤ D) (hBp : B ≤ pb)
    (hW2 : W2 = (((W.setCell ⟨g, 1, none⟩ (.int .i64 M)).drew.setCell ⟨g, 2, none⟩ (.slice A' q' q')).drew)) (hK : W.heap[D]? = some (.deferred (some []))) (hps : pb + 3 ≤ W.heap.size)
    (hR : RP W A' q' (mg f')) (hA : ∀ b o, A' = some ⟨b, o, none⟩ → b ≠ g ∧ b < pb) (hn : A' = none → q' = 0) (hw : Wt M q' f') :
    (W2.drewN nq).heap[D]? = some (.deferred (some [])) ∧ B1 ((W2.drewN nq).putObj D (.deferred none)) g M q' f' A' q' ∧ Below B W ((W2.drewN nq).putObj D (.deferred none)) ∧
      ∀ (n cc : Nat) (Ao : Option Addr) (X : Nat → Nat → Int), W.ownsRow (pb + 3) 69 3 (.slice Ao n cc) n (tri X n) → RP ((W2.drewN nq).putObj D (.deferred none)) Ao n X := by
  have h1 := h.b1.1
  have hB1 : B1 ((W.setCell ⟨g, 1, none⟩ (.int .i64 M)).setCell ⟨g, 2, none⟩ (.slice A' q' q')) g M q' f' A' q' := by
    refine ⟨⟨?_, ?_, ?_⟩, RP_set (RP_set hR (fun b o e => (hA b o e).1) _) (fun b o e => (hA b o e).1) _, hw, ⟨Nat.le_refl _, by have := hw.2.1; omega⟩, fun e => ⟨hn e, hn e⟩⟩
    · rw [World.cell?_setCell_other _ _ _ _ (by simp), World.cell?_setCell_other _ _ _ _ (by simp)]
      exact h1.1
    · rw [World.cell?_setCell_other _ _ _ _ (by simp)]
      exact World.cell?_setCell_same _ _ _ h1.2.1
    · exact World.cell?_setCell_same _ _ _ ((World.cell?_setCell_other W _ _ _ (by simp)).trans h1.2.2)
  have hheap : (W2.drewN nq).heap = ((W.setCell ⟨g, 1, none⟩ (.int .i64 M)).setCell ⟨g, 2, none⟩ (.slice A' q' q')).heap := by rw [hW2]; rfl
  have hK2 : (W2.drewN nq).heap[D]? = some (.deferred (some [])) := by
    rw [hheap, Below.heap_setCell _ ⟨g, 2, none⟩ _ _ (by simp; omega), Below.heap_setCell _ ⟨g, 1, none⟩ _ _ (by simp; omega)]
    exact hK
  have hb2 : Below B W (W2.drewN nq) := by
    rw [hW2]
    exact below_drewN (((((Below.refl B W).setCell (p := ⟨g, 1, none⟩) hBg _).drew).setCell (p := ⟨g, 2, none⟩) hBg _).drew) nq
  have hsz : (W2.drewN nq).heap.size = W.heap.size := by rw [hheap]; simp [World.setCell]
  have hput : ∀ k, k ≠ D → ((W2.drewN nq).putObj D (.deferred none)).heap[k]? = (W2.drewN nq).heap[k]? := fun k hk => World.putObj_heap_other hk
  refine ⟨hK2, ?_, ?_, ?_⟩
  · obtain ⟨⟨k0, k1, k2⟩, kr, kw, kc, kn⟩ := hB1
    have hc : ∀ b j, b ≠ D → ((W2.drewN nq).putObj D (.deferred none)).cell? ⟨b, j, none⟩ = ((W.setCell ⟨g, 1, none⟩ (.int .i64 M)).setCell ⟨g, 2, none⟩ (.slice A' q' q')).cell? ⟨b, j, none⟩ := fun b j hb => World.cell?_of_block ((hput b hb).trans (by rw [hheap]))
    refine ⟨⟨(hc g 0 (by omega)).trans k0, (hc g 1 (by omega)).trans k1, (hc g 2 (by omega)).trans k2⟩, fun i hi => ?_, kw, kc, kn⟩
    obtain ⟨b, o, e, hb, c0, c1, c2⟩ := kr i hi
    have hbp := (hA b o e).2
    refine ⟨b, o, e, ?_, (hc b _ (by omega)).trans c0, (hc b _ (by omega)).trans c1, (hc b _ (by omega)).trans c2⟩
    have : ((W2.drewN nq).putObj D (.deferred none)).heap.size = (W2.drewN nq).heap.size := by simp [World.putObj]
    omega
  · exact hb2.trans ⟨rfl, rfl, rfl, by simp [World.putObj], fun k hk => hput k (by omega)⟩
  · intro n cc Ao X ho i hi
    obtain ⟨b, o, e, hb, c0, c1, c2⟩ := RP_own ho i hi
    have hbD : b ≠ D ∧ b ≠ g := by
      rcases ho.2 with ⟨h', _⟩ | ⟨g', cap', cur, h', hB', hgb, _⟩
      · cases h'; cases e
      · cases h'
        cases e
        refine ⟨fun e => ?_, by omega⟩
        rw [e, hK] at hgb
        cases hgb
    have hc : ∀ j, ((W2.drewN nq).putObj D (.deferred none)).cell? ⟨b, j, none⟩ = W.cell? ⟨b, j, none⟩ := fun j => World.cell?_of_block (((hput b hbD.1).trans (by rw [hheap])).trans ((Below.heap_setCell _ ⟨g, 2, none⟩ _ _ hbD.2).trans (Below.heap_setCell _ ⟨g, 1, none⟩ _ _ hbD.2)))
    refine ⟨b, o, e, ?_, (hc _).trans c0, (hc _).trans c1, (hc _).trans c2⟩
    have : ((W2.drewN nq).putObj D (.deferred none)).heap.size = (W2.drewN nq).heap.size := by simp [World.putObj]
    omega
set_option maxRecDepth 100000 in
set_option maxHeartbeats 8000000 in
theorem rec_over1 (b c : Nat) (N m : Int) (q : Nat) (f : Nat → Int) (A : Option Addr) (cw : Nat) (w : World) (h : B1 w b N q f A cw) (hm : 1 ≤ m ∧ m ≤ 999) (hn1 : N ≤ m) (hn2 : m ≤ N) (hw : isW f m q = false) :
    Calls Try.prog 21 #[.slice (some ⟨b, 0, none⟩) 1 c, .agg #[.int .i64 3, .int .i64 m, .int .i64 (m - 1)]] w fun e w' => ∃ g c' A' cw' Ao co, e = .returned (.tuple #[.slice (some ⟨g, 0, none⟩) 1 c', .slice Ao (rn m f q + 1) co, .int .i64 0]) ∧ B1 w' g (N + (rn m f q + 1)) (q - rn m f q) (fun i => f (rn m f q + i)) A' cw' ∧ (RP w' Ao (rn m f q + 1) (mg (fun i => m + i)) ∧ rn m f q + 1 ≤ co ∧ co ≤ 9223372036854775807) ∧ Below w.heap.size w w' ∧ w.heap.size ≤ g ∧ (∀ b o, A' = some ⟨b, o, none⟩ → w.heap.size ≤ b) ∧ ∀ b o, Ao = some ⟨b, o, none⟩ → w.heap.size ≤ b := by
  have HWQ := Lib.hid hw
  obtain ⟨s0, hs, hs0, hs1, hs2⟩ := info_parts infoMsg
  have KJ := Lib.hid hs
  have KY0 := Lib.hid hs0
  have KY1 := Lib.hid hs1
  have KY2 := Lib.hid hs2
  clear hs hs0 hs1 hs2
  have H := Lib.hid h
  have hwt := h.2.2.1
  have hn := hwt.1
  have hq := hwt.2.1
  clear h hwt
  have HV := Lib.hid (fun W => vmsg_yes 3 m (m - 1) W (by omega) (by omega) (by omega))
  have HMB := Lib.hid (heap_alloc_new w (.cells #[.int .i64 3, .int .i64 m, .int .i64 (m - 1)] 69))
  have HB0 := Lib.hid (bel_alloc (Below.refl _ w) (.cells #[.int .i64 3, .int .i64 m, .int .i64 (m - 1)] 69))
  obtain ⟨w0, hw0⟩ : ∃ w0, w.alloc (.cells #[.int .i64 3, .int .i64 m, .int .i64 (m - 1)] 69) = w0 := ⟨_, rfl⟩
  rw [hw0] at HMB HB0
  have H0 := Lib.hid (H.out.keep HB0.out)
  refine (callsIn_wide (n := 9)).1 ?_
  refine callsIn_of_wp_marks Try.func21 rfl trivial ?_ rfl
  simp only [Try.ntmps21, List.size_toArray, List.length_cons, List.length_nil, Nat.reduceAdd, Nat.reduceSub, Array.replicate_succ, Array.replicate_zero, List.push_toArray, List.append_toArray, List.nil_append, List.cons_append]
  refine wpIn_wide.2 ?_
  go_upto_region 1 with fail
  clear hw0
  go_upto_region 3 with (first
    | (go_at_call 49; with_reducible refine (valid1 b c N q f A cw _ H0.out).mono ?_; rintro e w1 ⟨rfl, h1⟩
       obtain ⟨a0, a1, a2, a3⟩ := blk3 ((h1.block _ (Array.getElem?_eq_some_iff.1 HMB.out).1).trans HMB.out))
    | (go_at_call 50; with_reducible refine (HV.out _).mono ?_; rintro e w2 ⟨rfl, h2⟩))
  have H2 := Lib.hid (bel_step h1 h2)
  have HM2 := Lib.hid ((H2.out.block _ (Array.getElem?_eq_some_iff.1 HMB.out).1).trans HMB.out)
  have HO2 := Lib.hid (H0.out.keep H2.out)
  clear h1 h2 a0 a1 a2 a3
  obtain ⟨a0, a1, a2, a3⟩ := blk3 HM2.out
  go_upto_region 4 with (first
    | (go_at_call 51; with_reducible refine (find1 b c N q f A cw _ HO2.out).mono ?_; rintro e w3 ⟨rfl, h3⟩))
  have H3 := Lib.hid (bel_step H2.out h3)
  have HM3 := Lib.hid ((h3.block _ (Array.getElem?_eq_some_iff.1 HM2.out).1).trans HM2.out)
  have HO3 := Lib.hid (HO2.out.keep h3)
  clear h3 a0 a1 a2 a3
  obtain ⟨a0, a1, a2, a3⟩ := blk3 HM3.out
  go_upto_region 5 with fail
  have HB4 := Lib.hid (bel_alloc (Below.refl _ w3) (.cells #[.int .i64 3, .int .i64 1, .slice none 0 0] 123))
  have HP4 := Lib.hid (heap_alloc_new w3 (.cells #[.int .i64 3, .int .i64 1, .slice none 0 0] 123))
  obtain ⟨p9, hp9⟩ : ∃ p9, w3.heap.size = p9 := ⟨_, rfl⟩
  obtain ⟨w4, hw4⟩ : ∃ w4, w3.alloc (.cells #[.int .i64 3, .int .i64 1, .slice none 0 0] 123) = w4 := ⟨_, rfl⟩
  rw [hw4] at HB4 HP4 ⊢
  rw [hp9] at HB4 HP4 ⊢
  have HO4 := Lib.hid (HO3.out.keep (by rw [hp9]; exact HB4.out))
  clear a0 a1 a2 a3 hw4
  obtain ⟨⟨c0, c1, c2⟩, _⟩ := HO4.out
  obtain ⟨d0, d1, d2, d3⟩ := blk3 HP4.out
  have d4 := d3 0
  have d5 := d3 1
  have d6 := d3 2
  go_upto_region 7 with fail
  have hp5 := three_set HP4.out (.int .i64 3) (.int .i64 N) (.slice A q cw)
  have hb5 : Below p9 w3 (((w4.setCell ⟨p9, 0, none⟩ (.int .i64 3)).setCell ⟨p9, 1, none⟩ (.int .i64 N)).setCell ⟨p9, 2, none⟩ (.slice A q cw)) := ((HB4.out.setCell (Nat.le_refl _) _).setCell (Nat.le_refl _) _).setCell (Nat.le_refl _) _
  obtain ⟨w5, hw5⟩ : ∃ w5, (((w4.setCell ⟨p9, 0, none⟩ (.int .i64 3)).setCell ⟨p9, 1, none⟩ (.int .i64 N)).setCell ⟨p9, 2, none⟩ (.slice A q cw)) = w5 := ⟨_, rfl⟩
  rw [hw5] at hp5 hb5 ⊢
  have HB5 := Lib.hid (show Below w3.heap.size w3 w5 by rw [hp9]; exact hb5)
  have HP5 := Lib.hid hp5
  have HM5 := Lib.hid ((HB5.out.block _ (Array.getElem?_eq_some_iff.1 HM3.out).1).trans HM3.out)
  have HO5 := Lib.hid (HO3.out.keep HB5.out)
  have H5 := Lib.hid (bel_step H3.out HB5.out)
  clear hw5 hp5 hb5 c0 c1 c2 d0 d1 d2 d3 d4 d5 d6 hp9
  obtain ⟨a0, a1, a2, a3⟩ := blk3 HM5.out
  obtain ⟨d0, d1, d2, d3⟩ := blk3 HP5.out
  have HFM := Lib.hid (findm_any N m q f A cw w5 HO5.out.2.2.1 HO5.out.2.1)
  go_upto_region 8 with (first
    | (go_at_call 53; with_reducible refine HFM.out.mono ?_; rintro e w6 ⟨rfl, h6⟩; rw [HWQ.out]))
  have H6 := Lib.hid (bel_step H5.out h6)
  have HP6 := Lib.hid ((h6.block _ (Array.getElem?_eq_some_iff.1 HP5.out).1).trans HP5.out)
  have HM6 := Lib.hid ((h6.block _ (Array.getElem?_eq_some_iff.1 HM5.out).1).trans HM5.out)
  have HO6 := Lib.hid (HO5.out.keep h6)
  clear h6 a0 a1 a2 a3 d0 d1 d2 d3
  obtain ⟨a0, a1, a2, a3⟩ := blk3 HM6.out
  obtain ⟨d0, d1, d2, d3⟩ := blk3 HP6.out
  clear hw
  have HCK := Lib.hid (check_one b c 3 m (m - 1) N q f A cw (.slice A q cw) w6 (by omega) HO6.out)
  go_upto_region 11 with (first
    | (go_at_call 55; with_reducible refine HCK.out.mono ?_; rintro e w7 ⟨rfl, h7⟩))
  have H7 := Lib.hid (bel_step H6.out h7)
  have HM7 := Lib.hid ((h7.block _ (Array.getElem?_eq_some_iff.1 HM6.out).1).trans HM6.out)
  have HD := Lib.hid (dup1 b c N q f A cw w7 (HO6.out.keep h7))
  clear h7 a0 a1 a2 a3 d0 d1 d2 d3
  go_upto_region 14 with (first
    | (go_at_call 56; with_reducible refine HD.out.mono ?_; rintro e w8 ⟨g, c8, A8, cw8, rfl, hob, h8⟩))
  have H8 := Lib.hid (bel_step H7.out h8)
  have HM8 := Lib.hid ((h8.block _ (Array.getElem?_eq_some_iff.1 HM7.out).1).trans HM7.out)
  have HOB := Lib.hid hob
  have HG8 := Lib.hid (And.intro (hob.1.lt g rfl).1 (Array.getElem?_eq_some_iff.1 HM7.out).1)
  clear hob h8
  obtain ⟨a0, a1, a2, a3⟩ := blk3 HM8.out
  obtain ⟨⟨c0, c1, c2⟩, _⟩ := HOB.out.b1
  go_upto_region 15 with fail
  go_quiet (fail)
  obtain ⟨w9, hw9⟩ : ∃ w9, w8.drewN nq = w9 := ⟨_, rfl⟩
  have hb9 : Below w8.heap.size w8 w9 := by rw [← hw9]; exact below_drewN (Below.refl _ _) nq
  have hh9 : w9.heap = w8.heap := by rw [← hw9]; rfl
  rw [hw9]
  have HOB9 : Hid (OB w9 w7.heap.size g c8 N q f A8 cw8) := Lib.hid ⟨own_below HOB.out.1 hb9, own_below HOB.out.2.1 hb9, HOB.out.2.2⟩
  have H9 := Lib.hid (bel_step H8.out hb9)
  have HM9 : Hid (w9.heap[w.heap.size]? = some (.cells #[.int .i64 3, .int .i64 m, .int .i64 (m - 1)] 69 (0, 0))) := Lib.hid (by rw [hh9]; exact HM8.out)
  clear hw9 hb9 hh9 a0 a1 a2 a3 c0 c1 c2
  obtain ⟨a0, a1, a2, a3⟩ := blk3 HM9.out
  obtain ⟨⟨c0, c1, c2⟩, _⟩ := HOB9.out.b1
  go_upto_region 19 with fail
  all_goals (try (exfalso; omega))
  have HBX := Lib.hid (Boxed.new w9 65 (.slice none 0 0))
  have HBA := Lib.hid (bel_alloc (Below.refl _ w9) (.cells #[.slice none 0 0] 65))
  have hsz := World.size_alloc (w := w9) (o := .cells #[.slice none 0 0] 65)
  have HNN := Lib.hid HOB9.out.b1.2.2.2.2
  obtain ⟨pb, hpb⟩ : ∃ pb, w9.heap.size = pb := ⟨_, rfl⟩
  obtain ⟨wa, hwa⟩ : ∃ wa, w9.alloc (.cells #[.slice none 0 0] 65) = wa := ⟨_, rfl⟩
  rw [hwa] at HBX HBA hsz ⊢
  have HOBA : Hid (OB wa w7.heap.size g c8 N q f A8 cw8) := Lib.hid ⟨own_below HOB9.out.1 HBA.out, own_below HOB9.out.2.1 HBA.out, HOB9.out.2.2⟩
  have HMA := Lib.hid ((HBA.out.block _ (Array.getElem?_eq_some_iff.1 HM9.out).1).trans HM9.out)
  rw [hpb] at HBX hsz ⊢
  have HSA := Lib.hid (And.intro hpb hsz)
  clear hwa hsz hpb a0 a1 a2 a3 c0 c1 c2
  obtain ⟨a0, a1, a2, a3⟩ := blk3 HMA.out
  obtain ⟨⟨c0, c1, c2⟩, _⟩ := HOBA.out.b1
  refine wp_region_noPanic ?_
  go_region_with (first
    | (go_at_call 59; refine (ready_any _ _ _ _ _).mono ?_; rintro e wb ⟨rfl, hwb⟩))
  all_goals
    refine NoPanic.normal ?_
    clear hwb
    obtain ⟨W0, hW0⟩ : ∃ W0, W0 = ((wa.alloc (.cells #[.int .i64 3, .int .i64 m, .int .i64 (m - 1)] 69)).alloc (.cells #[.slice A8 q cw8] 65)).drew := ⟨_, rfl⟩
    rw [← hW0]
    have hz : W0.heap.size = pb + 3 := by rw [hW0]; show (World.alloc _ _).heap.size = _; rw [World.size_alloc, World.size_alloc, HSA.out.2]
    have hba : Below wa.heap.size wa W0 := by rw [hW0]; exact (bel_alloc (bel_alloc (Below.refl _ _) _) _).drew
    have hbm : W0.heap[wa.heap.size]? = some (.cells #[.int .i64 3, .int .i64 m, .int .i64 (m - 1)] 69 (0, 0)) := by
      rw [hW0]
      exact (Below.heap_alloc _ _ _ (by rw [World.size_alloc]; omega)).trans (heap_alloc_new wa _)
    have hbb : Boxed W0 (wa.heap.size + 1) 65 (.slice A8 q cw8) := by
      rw [hW0]
      have := heap_alloc_new (wa.alloc (.cells #[.int .i64 3, .int .i64 m, .int .i64 (m - 1)] 69)) (.cells #[.slice A8 q cw8] 65)
      rw [World.size_alloc] at this
      exact this
    have hb9 : Below pb w9 W0 := by
      have h1 := HBA.out
      rw [HSA.out.1] at h1
      exact h1.trans (hba.mono (by rw [HSA.out.2]; omega))
    have hI0 : OI pb m w9 [] W0 := ⟨.slice none 0 0, (hba.block _ (by rw [HSA.out.2]; omega)).trans HBX.out, World.ownsRow_nil _ _ _ _, hb9, by omega⟩
    have hRb : Rb pb wa.heap.size (wa.heap.size + 1) m A8 q cw8 f W0 := ⟨⟨(blk3 hbm).1, (blk3 hbm).2.1, (blk3 hbm).2.2.1⟩, hbb.cell, fun i hi => by
      obtain ⟨b', o', e', hb', k0, k1, k2⟩ := HOB9.out.b1.2.1 i hi
      rw [HSA.out.1] at hb'
      have hc : ∀ j, W0.cell? ⟨b', j, none⟩ = w9.cell? ⟨b', j, none⟩ := fun j => hb9.cell (p := ⟨b', j, none⟩) hb'
      exact ⟨b', o', e', hb', (hc _).trans k0, (hc _).trans k1, (hc _).trans k2⟩⟩
    have hsa := HSA.out.2
    clear hW0 hba hbm hbb a0 a1 a2 a3 c0 c1 c2
    go_wp2
    refine (wpIn_wide (n := 9)).1 ?_
    refine wpIn_rangeB 16 rfl (by omega) (gf := 106) (lb := #[.pointer (some ⟨wa.heap.size, 0, none⟩), .pointer (some ⟨wa.heap.size + 1, 0, none⟩)]) rfl trivial (enters_of Try.func106 (by kernel_rfl) rfl)
      (ready_seq 8 (by omega) pb wa.heap.size (wa.heap.size + 1) m A8 q cw8 f hq (by omega) W0 (by omega) (by omega) (by omega) hRb)
      Kb2.trans (fun W l o o' hl hW h1 h2 => ⟨belowK_b (w := W0) (by omega) W l o o' hl hW h1 h2, World.putObj_heap_other (by omega), World.putObj_heap_other (by omega)⟩) (Below.refl _ _) (fun _ => rfl)
      (OI pb m w9) (OA pb m w9) (fun _ _ _ => False) (OI.own pb m w9 _ (by omega)) (fun x B => OA.own pb m w9 x B _ (by omega)) (fun c s A B row h _ _ => h) hI0 ?assign ?body ?done ?stop
    case assign =>
      intro l pre x W hI hlen
      unfold enc
      gi_wp2
      obtain ⟨v, x0, x1, x2, x3⟩ := hI
      refine ⟨KeepsOthers.alloc _ _, ⟨(Below.refl _ _).alloc (by omega) _, Below.heap_alloc _ _ _ (by omega), Below.heap_alloc _ _ _ (by omega)⟩, W.heap.size, by first | (go_simp; done) | (simp; done), World.alloc_heap_new W _, ⟨v, x0.alloc _, x1.alloc _, x2.alloc (by omega) _, by rw [World.size_alloc]; omega⟩, x3⟩
    case body =>
      rintro l pre x B8 W ⟨h8, ⟨v, x0, x1, x2, x3⟩, hB8⟩ hlen
      unfold enc
      have hle : rn m f q ≤ q := fi_le _ _
      have hvl : (pre ++ [x]).length = pre.length + 1 := by simp
      have HVL := Lib.hid hvl
      obtain ⟨Av, cv, rfl, hcv, hnv, _⟩ := own_form x1
      have hvc := x0.cell
      obtain ⟨e0, e1, e2, _⟩ := blk3 h8
      have HX1 := Lib.hid x1
      have HX0 := Lib.hid x0
      have HX2 := Lib.hid x2
      clear hvl hnv x0 x1 x2 h8
      gi_wp2_with (gi_at_builtin; refine wpListIn_append_own _ rfl (.tmp 94) (.tmp 96) 65 rfl (pb + 3) 69 s0 _ 3 24 Try.underlying65 KJ.out KY0.out KY1.out KY2.out rfl (by decide) (.slice Av pre.length cv) pre.length _ rfl (HX1.out.alloc _) ⟨W.heap.size, 0, none⟩ 1 1 [.int .i64 3, .int .i64 (m + x), .int .i64 (m + x - 1)] rfl rfl (World.news_of_block (heap_alloc_new W _)) (by simp [Value.oneCell']) (by unfold maxLen; omega) (by omega) (by simp; omega) ?_; intro v' w1 hown' hgrow _; obtain ⟨g', cap', rfl⟩ := ownsRow_succ hown'; obtain ⟨hv1, hv2, hr2, hk2, hb2, hq2⟩ := app2 (n₁ := pb) HX0.out (by decide) HX1.out (by omega) (by omega) (by omega) hown' hgrow; have hc1 := hv1.cell; have hf1 := hv1.frozen)
      refine ⟨hk2, ⟨hb2, hq2 _ (by omega) (by omega) (by omega), hq2 _ (by omega) (by omega) (by omega)⟩, _, hv2, ?_, HX2.out.trans hb2, ?_⟩
      · rw [nx_snoc] at hr2
        rw [HVL.out] at hr2 ⊢
        exact hr2
      · have := hb2.size
        omega
    case done =>
      rintro D ys W hD rfl ⟨v, x0, x1, x2, x3⟩ hK
      obtain ⟨r, hr⟩ : ∃ r, rn m f q = r := ⟨_, rfl⟩
      have hrq : r ≤ q := by rw [← hr]; exact fi_le _ _
      rw [List.length_range, hr, rng_tri] at x1
      have HRR := Lib.hid hr
      have HSP := Lib.hid (rn_spec hr)
      obtain ⟨Ao, co, rfl, hco, hno, _⟩ := own_form x1
      have HRP := Lib.hid (RP_own x1)
      have HOV := Lib.hid x1
      have hg1 := (HOB9.out.1.lt g rfl).2
      rw [HSA.out.1] at hg1
      have hOW : W.ownsRow w7.heap.size 123 3 (.slice (some ⟨g, 0, none⟩) 1 c8) 1 [.int .i64 3, .int .i64 N, .slice A8 q cw8] := own_kb HOB9.out.1 (fun k hk => x2.block k hk) (fun k e => by cases e; exact hg1)
      have hMW : W.ownsRow w7.heap.size 69 3 (.slice A8 q cw8) q (tri (mg f) q) := own_kb HOB9.out.2.1 (fun k hk => x2.block k hk) (fun k e => by have := (HOB9.out.2.1.lt k e).2; rw [HSA.out.1] at this; exact this)
      have HOBW : Hid (OB W w7.heap.size g c8 N q f A8 cw8) := Lib.hid ⟨hOW, hMW, HOB9.out.2.2⟩
      have HX2 := Lib.hid x2
      have HX3 := Lib.hid x3
      have HX0 := Lib.hid x0
      have HK := Lib.hid hK
      have HGP := Lib.hid hg1
      obtain ⟨⟨c0, c1, c2⟩, hrw, hwtw, hcw, hnw⟩ := HOBW.out.b1
      have hvc := x0.cell
      have f1 : W.frozen? ⟨g, 1, none⟩ = false := HOBW.out.1.frozenAt 1
      have f2 : W.frozen? ⟨g, 2, none⟩ = false := HOBW.out.1.frozenAt 2
      have HRW := Lib.hid hrw
      have hNN := hwtw.1
      have HDD := Lib.hid hD
      clear hr x0 x1 x2 hK hOW hMW hno hg1 hrw hwtw
      have u1 : IntKind.i64.wrap ((r : Int) + 1 - 1) = (r : Int) := by rw [show (r : Int) + 1 - 1 = (r : Int) by omega]; exact IntWalk.i64_in _ (by omega)
      have u2 : IntKind.i64.wrap (N + ((r : Int) + 1)) = N + ((r : Int) + 1) := IntWalk.i64_in _ (by omega)
      go_upto_region 23 with fail
      go_still_tail 9, (by kernel_rfl)
      change wpList _ _ _ _ _ (World.drew W)
      go_upto_region 24 with fail
      obtain ⟨W1, hW1⟩ : ∃ W1, W1 = (W.setCell ⟨g, 1, none⟩ (.int .i64 (N + ((r : Int) + 1)))).drew := ⟨_, rfl⟩
      rw [← hW1]
      have d2 : W1.cell? ⟨g, 2, none⟩ = some (.slice A8 q cw8) := by rw [hW1]; exact (World.cell?_setCell_other W _ _ _ (by simp)).trans c2
      have d3 : W1.frozen? ⟨g, 2, none⟩ = false := by rw [hW1]; exact (World.frozen?_setCell W _ _ _).trans f2
      have dv : W1.cell? ⟨pb, 0, none⟩ = some (.slice Ao (r + 1) co) := by rw [hW1]; exact (World.cell?_setCell_other W _ _ _ (by simp <;> omega)).trans hvc
      have dv2 : ∀ u, (W1.setCell ⟨g, 2, none⟩ u).cell? ⟨pb, 0, none⟩ = some (.slice Ao (r + 1) co) := fun u => (World.cell?_setCell_other W1 _ _ _ (by simp <;> omega)).trans dv
      have HW1 := Lib.hid hW1
      obtain ⟨_, _, e8, _, hn8, hs8⟩ := own_form HOBW.out.2.1
      cases e8
      have i1 : (0 : Int) ≤ (r : Int) := by omega
      have i2 : (r : Int) ≤ (q : Int) := by omega
      have i3 : (q : Int) ≤ (cw8 : Int) := by omega
      have i4 : (0 : Int) ≤ (q : Int) := by omega
      clear hW1 c0 c1 c2 hvc f1 f2
      cases A8 with
      | none =>
        obtain ⟨hq0, hc0⟩ := hn8 rfl
        obtain rfl : r = 0 := by omega
        subst hq0 hc0
        go_still_tail 19, (by kernel_rfl)
        change wpList _ _ _ _ _ (World.drew W1)
        go_upto_region 25 with fail
        obtain ⟨W2, hW2⟩ : ∃ W2, W2 = (W1.setCell ⟨g, 2, none⟩ (.slice none 0 0)).drew := ⟨_, rfl⟩
        rw [← hW2]
        have e1 := dv2 (.slice none 0 0)
        have e2 : W2.cell? ⟨pb, 0, none⟩ = (W1.setCell ⟨g, 2, none⟩ (.slice none 0 0)).cell? ⟨pb, 0, none⟩ := by rw [hW2]; rfl
        rw [e1] at e2
        have HW2 := Lib.hid hW2
        clear hW2 e1 dv2 dv d2 d3
        go_quiet (fail)
        go_wp2
        obtain ⟨k1, k2, k3, k4⟩ := over_fin (W2 := W2) (A' := none) (q' := 0) (nq := nq) (D := D) (f' := fun i => f (0 + i)) HOBW.out HG8.out.1 HGP.out (by have := HDD.out; omega) (by have := HG8.out; have := HGP.out; omega) (by rw [HW2.out, HW1.out]) HK.out HX3.out (fun i hi => by omega) (fun b o e => by cases e) (fun _ => rfl) (over_wt HOBW.out.2.2 hm.2 hn1 hn2 hrq HSP.out)
        refine ⟨by simp, .inl ⟨_, _, rfl, run_takeDeferred k1, ?_⟩⟩
        refine ⟨.tuple #[.slice (some ⟨g, 0, none⟩) 1 c8, .slice Ao (0 + 1) co, .int .i64 0], by simp [results, Try.f21, go_sem], ?_⟩
        rw [HRR.out]
        exact ⟨g, c8, _, _, Ao, co, rfl, k2, ⟨k4 _ _ _ _ HOV.out, hco⟩, HB0.out.trans ((H9.out.trans ((HX2.out.mono (by have := H7.out.size; have := HG8.out; have := HGP.out; omega)).trans (k3.mono H7.out.size))).mono HB0.out.size), by have := HB0.out.size; have := H7.out.size; have := HG8.out; have := HGP.out; omega, fun b o e => (by cases e), fun b o e => by subst e; have := (HOV.out.lt b rfl).1; have := HB0.out.size; have := H7.out.size; have := HG8.out; have := HGP.out; omega⟩
      | some a8 =>
        obtain ⟨g3, rfl⟩ := hs8 a8 rfl
        have hsep := inbox_sep HOBW.out
        have hg3 := (HOB9.out.2.1.lt g3 rfl).2
        rw [HSA.out.1] at hg3
        have HSEP : Hid (∀ b o, (some ⟨g3, 0, none⟩ : Option Addr) = some ⟨b, o, none⟩ → b ≠ g ∧ b < pb) := Lib.hid fun b o e => by cases e; exact ⟨hsep, hg3⟩
        have HSEP2 : Hid (∀ b o, (some ⟨g3, r * 3, none⟩ : Option Addr) = some ⟨b, o, none⟩ → b ≠ g ∧ b < pb) := Lib.hid fun b o e => by cases e; exact ⟨hsep, hg3⟩
        have HG3 : Hid (w7.heap.size ≤ g3) := Lib.hid (HOBW.out.2.1.lt g3 rfl).1
        clear hsep hg3
        by_cases hrq2 : q = r
        · subst hrq2
          go_still_tail 19, (by kernel_rfl)
          change wpList _ _ _ _ _ (World.drew W1)
          go_upto_region 25 with fail
          obtain ⟨W2, hW2⟩ : ∃ W2, W2 = (W1.setCell ⟨g, 2, none⟩ (.slice (some ⟨g3, 0, none⟩) 0 0)).drew := ⟨_, rfl⟩
          rw [← hW2]
          have e1 := dv2 (.slice (some ⟨g3, 0, none⟩) 0 0)
          have e2 : W2.cell? ⟨pb, 0, none⟩ = (W1.setCell ⟨g, 2, none⟩ (.slice (some ⟨g3, 0, none⟩) 0 0)).cell? ⟨pb, 0, none⟩ := by rw [hW2]; rfl
          rw [e1] at e2
          have HW2 := Lib.hid hW2
          clear hW2 e1 dv2 dv d2 d3
          go_quiet (fail)
          go_wp2
          obtain ⟨k1, k2, k3, k4⟩ := over_fin (W2 := W2) (A' := (some ⟨g3, 0, none⟩)) (q' := 0) (nq := nq) (D := D) (f' := fun i => f (q + i)) HOBW.out HG8.out.1 HGP.out (by have := HDD.out; omega) (by have := HG8.out; have := HGP.out; omega) (by rw [HW2.out, HW1.out]) HK.out HX3.out (fun i hi => by omega) HSEP.out (fun e => by cases e) (by have hw9 := over_wt HOBW.out.2.2 hm.2 hn1 hn2 hrq HSP.out; rwa [Nat.sub_self] at hw9)
          refine ⟨by simp, .inl ⟨_, _, rfl, run_takeDeferred k1, ?_⟩⟩
          refine ⟨.tuple #[.slice (some ⟨g, 0, none⟩) 1 c8, .slice Ao (q + 1) co, .int .i64 0], by simp [results, Try.f21, go_sem], ?_⟩
          rw [HRR.out, Nat.sub_self]
          exact ⟨g, c8, _, _, Ao, co, rfl, k2, ⟨k4 _ _ _ _ HOV.out, hco⟩, HB0.out.trans ((H9.out.trans ((HX2.out.mono (by have := H7.out.size; have := HG8.out; have := HGP.out; omega)).trans (k3.mono H7.out.size))).mono HB0.out.size), by have := HB0.out.size; have := H7.out.size; have := HG8.out; have := HGP.out; omega, fun b o e => by cases e; have := HG3.out; have := HB0.out.size; have := H7.out.size; have := HG8.out; have := HGP.out; omega, fun b o e => by subst e; have := (HOV.out.lt b rfl).1; have := HB0.out.size; have := H7.out.size; have := HG8.out; have := HGP.out; omega⟩
        · go_still_tail 19, (by kernel_rfl)
          change wpList _ _ _ _ _ (World.drew W1)
          go_upto_region 25 with fail
          obtain ⟨W2, hW2⟩ : ∃ W2, W2 = (W1.setCell ⟨g, 2, none⟩ (.slice (some ⟨g3, r * 3, none⟩) (q - r) (q - r))).drew := ⟨_, rfl⟩
          rw [← hW2]
          have e1 := dv2 (.slice (some ⟨g3, r * 3, none⟩) (q - r) (q - r))
          have e2 : W2.cell? ⟨pb, 0, none⟩ = (W1.setCell ⟨g, 2, none⟩ (.slice (some ⟨g3, r * 3, none⟩) (q - r) (q - r))).cell? ⟨pb, 0, none⟩ := by rw [hW2]; rfl
          rw [e1] at e2
          have HW2 := Lib.hid hW2
          clear hW2 e1 dv2 dv d2 d3
          go_quiet (fail)
          go_wp2
          obtain ⟨k1, k2, k3, k4⟩ := over_fin (W2 := W2) (A' := (some ⟨g3, r * 3, none⟩)) (q' := (q - r)) (nq := nq) (D := D) (f' := fun i => f (r + i)) HOBW.out HG8.out.1 HGP.out (by have := HDD.out; omega) (by have := HG8.out; have := HGP.out; omega) (by rw [HW2.out, HW1.out]) HK.out HX3.out (RP_drop0 HRW.out hrq) HSEP2.out (fun e => by cases e) (over_wt HOBW.out.2.2 hm.2 hn1 hn2 hrq HSP.out)
          refine ⟨by simp, .inl ⟨_, _, rfl, run_takeDeferred k1, ?_⟩⟩
          refine ⟨.tuple #[.slice (some ⟨g, 0, none⟩) 1 c8, .slice Ao (r + 1) co, .int .i64 0], by simp [results, Try.f21, go_sem], ?_⟩
          rw [HRR.out]
          exact ⟨g, c8, _, _, Ao, co, rfl, k2, ⟨k4 _ _ _ _ HOV.out, hco⟩, HB0.out.trans ((H9.out.trans ((HX2.out.mono (by have := H7.out.size; have := HG8.out; have := HGP.out; omega)).trans (k3.mono H7.out.size))).mono HB0.out.size), by have := HB0.out.size; have := H7.out.size; have := HG8.out; have := HGP.out; omega, fun b o e => by cases e; have := HG3.out; have := HB0.out.size; have := H7.out.size; have := HG8.out; have := HGP.out; omega, fun b o e => by subst e; have := (HOV.out.lt b rfl).1; have := HB0.out.size; have := H7.out.size; have := HG8.out; have := HGP.out; omega⟩
    case stop =>
      rintro D c pre W hD hpre h hK
      exact h.elim
set_option maxRecDepth 100000 in
set_option maxHeartbeats 8000000 in
theorem rec_over0 (m : Int) (f : Nat → Int) (w : World) (hm : 1 ≤ m ∧ m ≤ 999) (hm1 : m ≤ 1) :
    Calls Try.prog 21 #[.slice none 0 0, .agg #[.int .i64 3, .int .i64 m, .int .i64 (m - 1)]] w fun e w' => ∃ g c' A' cw' Ao co, e = .returned (.tuple #[.slice (some ⟨g, 0, none⟩) 1 c', .slice Ao (rn m f 0 + 1) co, .int .i64 0]) ∧ B1 w' g (1 + (rn m f 0 + 1)) (0 - rn m f 0) (fun i => f (rn m f 0 + i)) A' cw' ∧ (RP w' Ao (rn m f 0 + 1) (mg (fun i => m + i)) ∧ rn m f 0 + 1 ≤ co ∧ co ≤ 9223372036854775807) ∧ Below w.heap.size w w' ∧ w.heap.size ≤ g ∧ (∀ b o, A' = some ⟨b, o, none⟩ → w.heap.size ≤ b) ∧ ∀ b o, Ao = some ⟨b, o, none⟩ → w.heap.size ≤ b := by
  obtain ⟨s0, hs, hs0, hs1, hs2⟩ := info_parts infoMsg
  have KJ := Lib.hid hs
  have KY0 := Lib.hid hs0
  have KY1 := Lib.hid hs1
  have KY2 := Lib.hid hs2
  clear hs hs0 hs1 hs2
  have hwt : Wt 1 0 f := ⟨by omega, by omega, fun i hi => by omega, fun i j _ hj => by omega⟩
  have HWT0 := Lib.hid hwt
  clear hwt
  have HV := Lib.hid (fun W => vmsg_yes 3 m (m - 1) W (by omega) (by omega) (by omega))
  have HMB := Lib.hid (heap_alloc_new w (.cells #[.int .i64 3, .int .i64 m, .int .i64 (m - 1)] 69))
  have HB0 := Lib.hid (bel_alloc (Below.refl _ w) (.cells #[.int .i64 3, .int .i64 m, .int .i64 (m - 1)] 69))
  obtain ⟨w0, hw0⟩ : ∃ w0, w.alloc (.cells #[.int .i64 3, .int .i64 m, .int .i64 (m - 1)] 69) = w0 := ⟨_, rfl⟩
  rw [hw0] at HMB HB0
  refine (callsIn_wide (n := 9)).1 ?_
  refine callsIn_of_wp_marks Try.func21 rfl trivial ?_ rfl
  simp only [Try.ntmps21, List.size_toArray, List.length_cons, List.length_nil, Nat.reduceAdd, Nat.reduceSub, Array.replicate_succ, Array.replicate_zero, List.push_toArray, List.append_toArray, List.nil_append, List.cons_append]
  refine wpIn_wide.2 ?_
  go_upto_region 1 with fail
  clear hw0
  go_upto_region 3 with (first
    | (go_at_call 49; with_reducible refine (valid0 _).mono ?_; rintro e w1 ⟨rfl, h1⟩
       obtain ⟨a0, a1, a2, a3⟩ := blk3 ((h1.block _ (Array.getElem?_eq_some_iff.1 HMB.out).1).trans HMB.out))
    | (go_at_call 50; with_reducible refine (HV.out _).mono ?_; rintro e w2 ⟨rfl, h2⟩))
  have H2 := Lib.hid (bel_step h1 h2)
  have HM2 := Lib.hid ((H2.out.block _ (Array.getElem?_eq_some_iff.1 HMB.out).1).trans HMB.out)
  clear h1 h2 a0 a1 a2 a3
  obtain ⟨a0, a1, a2, a3⟩ := blk3 HM2.out
  go_upto_region 4 with (first
    | (go_at_call 51; with_reducible refine (find0 _).mono ?_; rintro e w3 ⟨rfl, h3⟩))
  have H3 := Lib.hid (bel_step H2.out h3)
  have HM3 := Lib.hid ((h3.block _ (Array.getElem?_eq_some_iff.1 HM2.out).1).trans HM2.out)
  clear h3 a0 a1 a2 a3
  obtain ⟨a0, a1, a2, a3⟩ := blk3 HM3.out
  go_upto_region 7 with fail
  have HB5 := Lib.hid (bel_alloc (Below.refl _ w3) (.cells #[.int .i64 3, .int .i64 1, .slice none 0 0] 123))
  have HP5 := Lib.hid (heap_alloc_new w3 (.cells #[.int .i64 3, .int .i64 1, .slice none 0 0] 123))
  obtain ⟨p9, hp9⟩ : ∃ p9, w3.heap.size = p9 := ⟨_, rfl⟩
  obtain ⟨w5, hw5⟩ : ∃ w5, w3.alloc (.cells #[.int .i64 3, .int .i64 1, .slice none 0 0] 123) = w5 := ⟨_, rfl⟩
  rw [hw5] at HB5 HP5 ⊢
  rw [hp9] at HP5 ⊢
  have HM5 := Lib.hid ((HB5.out.block _ (Array.getElem?_eq_some_iff.1 HM3.out).1).trans HM3.out)
  have H5 := Lib.hid (bel_step H3.out HB5.out)
  clear hw5 hp9 a0 a1 a2 a3
  obtain ⟨a0, a1, a2, a3⟩ := blk3 HM5.out
  obtain ⟨d0, d1, d2, d3⟩ := blk3 HP5.out
  have HFM := Lib.hid (findm_any 1 m 0 f none 0 w5 HWT0.out (fun i hi => by omega))
  have HWQ : Hid (isW f m 0 = false) := Lib.hid (by simp [isW])
  go_upto_region 8 with (first
    | (go_at_call 53; with_reducible refine HFM.out.mono ?_; rintro e w6 ⟨rfl, h6⟩; rw [HWQ.out]))
  have H6 := Lib.hid (bel_step H5.out h6)
  have HP6 := Lib.hid ((h6.block _ (Array.getElem?_eq_some_iff.1 HP5.out).1).trans HP5.out)
  have HM6 := Lib.hid ((h6.block _ (Array.getElem?_eq_some_iff.1 HM5.out).1).trans HM5.out)
  clear h6 a0 a1 a2 a3 d0 d1 d2 d3
  obtain ⟨a0, a1, a2, a3⟩ := blk3 HM6.out
  obtain ⟨d0, d1, d2, d3⟩ := blk3 HP6.out
  have HCK := Lib.hid (check_none 3 m (m - 1) 1 (.slice none 0 0) w6 (by omega))
  go_upto_region 11 with (first
    | (go_at_call 55; with_reducible refine HCK.out.mono ?_; rintro e w7 ⟨rfl, h7⟩))
  have H7 := Lib.hid (bel_step H6.out h7)
  have HM7 := Lib.hid ((h7.block _ (Array.getElem?_eq_some_iff.1 HM6.out).1).trans HM6.out)
  have HP7 := Lib.hid ((h7.block _ (Array.getElem?_eq_some_iff.1 HP6.out).1).trans HP6.out)
  clear h7 a0 a1 a2 a3 d0 d1 d2 d3
  go_upto_region 12 with (first
    | (go_at_call 56; with_reducible refine (dup0b _).mono ?_; rintro e wd ⟨rfl, hbd⟩))
  have HBD := Lib.hid hbd
  have HPD := Lib.hid ((hbd.block _ (Array.getElem?_eq_some_iff.1 HP7.out).1).trans HP7.out)
  clear hbd
  obtain ⟨d0, d1, d2, d3⟩ := blk3 HPD.out
  go_upto_region 14 with (first
    | (go_at_call 57; with_reducible refine (insb_new _ _ _).mono ?_; rintro e w8 ⟨g, c8, rfl, hown8, h8⟩))
  have H8 := Lib.hid (bel_step (bel_step H7.out HBD.out) h8)
  have HM8 := Lib.hid ((h8.block _ (Nat.lt_of_lt_of_le (Array.getElem?_eq_some_iff.1 HM7.out).1 HBD.out.size)).trans ((HBD.out.block _ (Array.getElem?_eq_some_iff.1 HM7.out).1).trans HM7.out))
  have HOB : Hid (OB w8 w7.heap.size g c8 1 0 f none 0) := Lib.hid ⟨own_mono hown8 HBD.out.size, World.ownsRow_nil _ _ _ _, HWT0.out⟩
  have HG8 := Lib.hid (And.intro (HOB.out.1.lt g rfl).1 (Array.getElem?_eq_some_iff.1 HM7.out).1)
  clear hown8 h8 d0 d1 d2 d3
  obtain ⟨N, hN⟩ : ∃ N : Int, 1 = N := ⟨_, rfl⟩
  obtain ⟨q, hq⟩ : ∃ q : Nat, 0 = q := ⟨_, rfl⟩
  obtain ⟨A8, hA8⟩ : ∃ A8 : Option Addr, none = A8 := ⟨_, rfl⟩
  obtain ⟨cw8, hcw8⟩ : ∃ cw8 : Nat, 0 = cw8 := ⟨_, rfl⟩
  have HOC : Hid (OB w8 w7.heap.size g c8 N q f A8 cw8) := Lib.hid (by rw [← hN, ← hq, ← hA8, ← hcw8]; exact HOB.out)
  have HQ0 := Lib.hid hq
  have HN0 := Lib.hid hN
  clear HOB
  have HOB : Hid (OB w8 w7.heap.size g c8 N q f A8 cw8) := HOC
  have hn1 : N ≤ m := by omega
  have hn2 : m ≤ N := by omega
  clear hN hq hA8 hcw8 HOC
  have hn := HOB.out.2.2.1
  have hq := HOB.out.2.2.2.1
  obtain ⟨a0, a1, a2, a3⟩ := blk3 HM8.out
  obtain ⟨⟨c0, c1, c2⟩, _⟩ := HOB.out.b1
  go_upto_region 15 with fail
  go_quiet (fail)
  obtain ⟨w9, hw9⟩ : ∃ w9, w8.drewN nq = w9 := ⟨_, rfl⟩
  have hb9 : Below w8.heap.size w8 w9 := by rw [← hw9]; exact below_drewN (Below.refl _ _) nq
  have hh9 : w9.heap = w8.heap := by rw [← hw9]; rfl
  rw [hw9]
  have HOB9 : Hid (OB w9 w7.heap.size g c8 N q f A8 cw8) := Lib.hid ⟨own_below HOB.out.1 hb9, own_below HOB.out.2.1 hb9, HOB.out.2.2⟩
  have H9 := Lib.hid (bel_step H8.out hb9)
  have HM9 : Hid (w9.heap[w.heap.size]? = some (.cells #[.int .i64 3, .int .i64 m, .int .i64 (m - 1)] 69 (0, 0))) := Lib.hid (by rw [hh9]; exact HM8.out)
  clear hw9 hb9 hh9 a0 a1 a2 a3 c0 c1 c2
  obtain ⟨a0, a1, a2, a3⟩ := blk3 HM9.out
  obtain ⟨⟨c0, c1, c2⟩, _⟩ := HOB9.out.b1
  go_upto_region 19 with fail
  all_goals (try (exfalso; omega))
  have HBX := Lib.hid (Boxed.new w9 65 (.slice none 0 0))
  have HBA := Lib.hid (bel_alloc (Below.refl _ w9) (.cells #[.slice none 0 0] 65))
  have hsz := World.size_alloc (w := w9) (o := .cells #[.slice none 0 0] 65)
  have HNN := Lib.hid HOB9.out.b1.2.2.2.2
  obtain ⟨pb, hpb⟩ : ∃ pb, w9.heap.size = pb := ⟨_, rfl⟩
  obtain ⟨wa, hwa⟩ : ∃ wa, w9.alloc (.cells #[.slice none 0 0] 65) = wa := ⟨_, rfl⟩
  rw [hwa] at HBX HBA hsz ⊢
  have HOBA : Hid (OB wa w7.heap.size g c8 N q f A8 cw8) := Lib.hid ⟨own_below HOB9.out.1 HBA.out, own_below HOB9.out.2.1 HBA.out, HOB9.out.2.2⟩
  have HMA := Lib.hid ((HBA.out.block _ (Array.getElem?_eq_some_iff.1 HM9.out).1).trans HM9.out)
  rw [hpb] at HBX hsz ⊢
  have HSA := Lib.hid (And.intro hpb hsz)
  clear hwa hsz hpb a0 a1 a2 a3 c0 c1 c2
  obtain ⟨a0, a1, a2, a3⟩ := blk3 HMA.out
  obtain ⟨⟨c0, c1, c2⟩, _⟩ := HOBA.out.b1
  refine wp_region_noPanic ?_
  go_region_with (first
    | (go_at_call 59; refine (ready_any _ _ _ _ _).mono ?_; rintro e wb ⟨rfl, hwb⟩))
  all_goals
    refine NoPanic.normal ?_
    clear hwb
    obtain ⟨W0, hW0⟩ : ∃ W0, W0 = ((wa.alloc (.cells #[.int .i64 3, .int .i64 m, .int .i64 (m - 1)] 69)).alloc (.cells #[.slice A8 q cw8] 65)).drew := ⟨_, rfl⟩
    rw [← hW0]
    have hz : W0.heap.size = pb + 3 := by rw [hW0]; show (World.alloc _ _).heap.size = _; rw [World.size_alloc, World.size_alloc, HSA.out.2]
    have hba : Below wa.heap.size wa W0 := by rw [hW0]; exact (bel_alloc (bel_alloc (Below.refl _ _) _) _).drew
    have hbm : W0.heap[wa.heap.size]? = some (.cells #[.int .i64 3, .int .i64 m, .int .i64 (m - 1)] 69 (0, 0)) := by
      rw [hW0]
      exact (Below.heap_alloc _ _ _ (by rw [World.size_alloc]; omega)).trans (heap_alloc_new wa _)
    have hbb : Boxed W0 (wa.heap.size + 1) 65 (.slice A8 q cw8) := by
      rw [hW0]
      have := heap_alloc_new (wa.alloc (.cells #[.int .i64 3, .int .i64 m, .int .i64 (m - 1)] 69)) (.cells #[.slice A8 q cw8] 65)
      rw [World.size_alloc] at this
      exact this
    have hb9 : Below pb w9 W0 := by
      have h1 := HBA.out
      rw [HSA.out.1] at h1
      exact h1.trans (hba.mono (by rw [HSA.out.2]; omega))
    have hI0 : OI pb m w9 [] W0 := ⟨.slice none 0 0, (hba.block _ (by rw [HSA.out.2]; omega)).trans HBX.out, World.ownsRow_nil _ _ _ _, hb9, by omega⟩
    have hRb : Rb pb wa.heap.size (wa.heap.size + 1) m A8 q cw8 f W0 := ⟨⟨(blk3 hbm).1, (blk3 hbm).2.1, (blk3 hbm).2.2.1⟩, hbb.cell, fun i hi => by
      obtain ⟨b', o', e', hb', k0, k1, k2⟩ := HOB9.out.b1.2.1 i hi
      rw [HSA.out.1] at hb'
      have hc : ∀ j, W0.cell? ⟨b', j, none⟩ = w9.cell? ⟨b', j, none⟩ := fun j => hb9.cell (p := ⟨b', j, none⟩) hb'
      exact ⟨b', o', e', hb', (hc _).trans k0, (hc _).trans k1, (hc _).trans k2⟩⟩
    have hsa := HSA.out.2
    clear hW0 hba hbm hbb a0 a1 a2 a3 c0 c1 c2
    go_wp2
    refine (wpIn_wide (n := 9)).1 ?_
    refine wpIn_rangeB 16 rfl (by omega) (gf := 106) (lb := #[.pointer (some ⟨wa.heap.size, 0, none⟩), .pointer (some ⟨wa.heap.size + 1, 0, none⟩)]) rfl trivial (enters_of Try.func106 (by kernel_rfl) rfl)
      (ready_seq 8 (by omega) pb wa.heap.size (wa.heap.size + 1) m A8 q cw8 f hq (by omega) W0 (by omega) (by omega) (by omega) hRb)
      Kb2.trans (fun W l o o' hl hW h1 h2 => ⟨belowK_b (w := W0) (by omega) W l o o' hl hW h1 h2, World.putObj_heap_other (by omega), World.putObj_heap_other (by omega)⟩) (Below.refl _ _) (fun _ => rfl)
      (OI pb m w9) (OA pb m w9) (fun _ _ _ => False) (OI.own pb m w9 _ (by omega)) (fun x B => OA.own pb m w9 x B _ (by omega)) (fun c s A B row h _ _ => h) hI0 ?assign ?body ?done ?stop
    case assign =>
      intro l pre x W hI hlen
      unfold enc
      gi_wp2
      obtain ⟨v, x0, x1, x2, x3⟩ := hI
      refine ⟨KeepsOthers.alloc _ _, ⟨(Below.refl _ _).alloc (by omega) _, Below.heap_alloc _ _ _ (by omega), Below.heap_alloc _ _ _ (by omega)⟩, W.heap.size, by first | (go_simp; done) | (simp; done), World.alloc_heap_new W _, ⟨v, x0.alloc _, x1.alloc _, x2.alloc (by omega) _, by rw [World.size_alloc]; omega⟩, x3⟩
    case body =>
      rintro l pre x B8 W ⟨h8, ⟨v, x0, x1, x2, x3⟩, hB8⟩ hlen
      unfold enc
      have hle : rn m f q ≤ q := fi_le _ _
      have hvl : (pre ++ [x]).length = pre.length + 1 := by simp
      have HVL := Lib.hid hvl
      obtain ⟨Av, cv, rfl, hcv, hnv, _⟩ := own_form x1
      have hvc := x0.cell
      obtain ⟨e0, e1, e2, _⟩ := blk3 h8
      have HX1 := Lib.hid x1
      have HX0 := Lib.hid x0
      have HX2 := Lib.hid x2
      clear hvl hnv x0 x1 x2 h8
      gi_wp2_with (gi_at_builtin; refine wpListIn_append_own _ rfl (.tmp 94) (.tmp 96) 65 rfl (pb + 3) 69 s0 _ 3 24 Try.underlying65 KJ.out KY0.out KY1.out KY2.out rfl (by decide) (.slice Av pre.length cv) pre.length _ rfl (HX1.out.alloc _) ⟨W.heap.size, 0, none⟩ 1 1 [.int .i64 3, .int .i64 (m + x), .int .i64 (m + x - 1)] rfl rfl (World.news_of_block (heap_alloc_new W _)) (by simp [Value.oneCell']) (by unfold maxLen; omega) (by omega) (by simp; omega) ?_; intro v' w1 hown' hgrow _; obtain ⟨g', cap', rfl⟩ := ownsRow_succ hown'; obtain ⟨hv1, hv2, hr2, hk2, hb2, hq2⟩ := app2 (n₁ := pb) HX0.out (by decide) HX1.out (by omega) (by omega) (by omega) hown' hgrow; have hc1 := hv1.cell; have hf1 := hv1.frozen)
      refine ⟨hk2, ⟨hb2, hq2 _ (by omega) (by omega) (by omega), hq2 _ (by omega) (by omega) (by omega)⟩, _, hv2, ?_, HX2.out.trans hb2, ?_⟩
      · rw [nx_snoc] at hr2
        rw [HVL.out] at hr2 ⊢
        exact hr2
      · have := hb2.size
        omega
    case done =>
      rintro D ys W hD rfl ⟨v, x0, x1, x2, x3⟩ hK
      obtain ⟨r, hr⟩ : ∃ r, rn m f q = r := ⟨_, rfl⟩
      have hrq : r ≤ q := by rw [← hr]; exact fi_le _ _
      rw [List.length_range, hr, rng_tri] at x1
      have HRR := Lib.hid hr
      have HSP := Lib.hid (rn_spec hr)
      obtain ⟨Ao, co, rfl, hco, hno, _⟩ := own_form x1
      have HRP := Lib.hid (RP_own x1)
      have HOV := Lib.hid x1
      have hg1 := (HOB9.out.1.lt g rfl).2
      rw [HSA.out.1] at hg1
      have hOW : W.ownsRow w7.heap.size 123 3 (.slice (some ⟨g, 0, none⟩) 1 c8) 1 [.int .i64 3, .int .i64 N, .slice A8 q cw8] := own_kb HOB9.out.1 (fun k hk => x2.block k hk) (fun k e => by cases e; exact hg1)
      have hMW : W.ownsRow w7.heap.size 69 3 (.slice A8 q cw8) q (tri (mg f) q) := own_kb HOB9.out.2.1 (fun k hk => x2.block k hk) (fun k e => by have := (HOB9.out.2.1.lt k e).2; rw [HSA.out.1] at this; exact this)
      have HOBW : Hid (OB W w7.heap.size g c8 N q f A8 cw8) := Lib.hid ⟨hOW, hMW, HOB9.out.2.2⟩
      have HX2 := Lib.hid x2
      have HX3 := Lib.hid x3
      have HX0 := Lib.hid x0
      have HK := Lib.hid hK
      have HGP := Lib.hid hg1
      obtain ⟨⟨c0, c1, c2⟩, hrw, hwtw, hcw, hnw⟩ := HOBW.out.b1
      have hvc := x0.cell
      have f1 : W.frozen? ⟨g, 1, none⟩ = false := HOBW.out.1.frozenAt 1
      have f2 : W.frozen? ⟨g, 2, none⟩ = false := HOBW.out.1.frozenAt 2
      have HRW := Lib.hid hrw
      have hNN := hwtw.1
      have HDD := Lib.hid hD
      clear hr x0 x1 x2 hK hOW hMW hno hg1 hrw hwtw
      have u1 : IntKind.i64.wrap ((r : Int) + 1 - 1) = (r : Int) := by rw [show (r : Int) + 1 - 1 = (r : Int) by omega]; exact IntWalk.i64_in _ (by omega)
      have u2 : IntKind.i64.wrap (N + ((r : Int) + 1)) = N + ((r : Int) + 1) := IntWalk.i64_in _ (by omega)
      go_upto_region 23 with fail
      go_still_tail 9, (by kernel_rfl)
      change wpList _ _ _ _ _ (World.drew W)
      go_upto_region 24 with fail
      obtain ⟨W1, hW1⟩ : ∃ W1, W1 = (W.setCell ⟨g, 1, none⟩ (.int .i64 (N + ((r : Int) + 1)))).drew := ⟨_, rfl⟩
      rw [← hW1]
      have d2 : W1.cell? ⟨g, 2, none⟩ = some (.slice A8 q cw8) := by rw [hW1]; exact (World.cell?_setCell_other W _ _ _ (by simp)).trans c2
      have d3 : W1.frozen? ⟨g, 2, none⟩ = false := by rw [hW1]; exact (World.frozen?_setCell W _ _ _).trans f2
      have dv : W1.cell? ⟨pb, 0, none⟩ = some (.slice Ao (r + 1) co) := by rw [hW1]; exact (World.cell?_setCell_other W _ _ _ (by simp <;> omega)).trans hvc
      have dv2 : ∀ u, (W1.setCell ⟨g, 2, none⟩ u).cell? ⟨pb, 0, none⟩ = some (.slice Ao (r + 1) co) := fun u => (World.cell?_setCell_other W1 _ _ _ (by simp <;> omega)).trans dv
      have HW1 := Lib.hid hW1
      obtain ⟨_, _, e8, _, hn8, hs8⟩ := own_form HOBW.out.2.1
      cases e8
      have i1 : (0 : Int) ≤ (r : Int) := by omega
      have i2 : (r : Int) ≤ (q : Int) := by omega
      have i3 : (q : Int) ≤ (cw8 : Int) := by omega
      have i4 : (0 : Int) ≤ (q : Int) := by omega
      clear hW1 c0 c1 c2 hvc f1 f2
      cases A8 with
      | none =>
        obtain ⟨hq0, hc0⟩ := hn8 rfl
        obtain rfl : r = 0 := by omega
        subst hq0 hc0
        go_still_tail 19, (by kernel_rfl)
        change wpList _ _ _ _ _ (World.drew W1)
        go_upto_region 25 with fail
        obtain ⟨W2, hW2⟩ : ∃ W2, W2 = (W1.setCell ⟨g, 2, none⟩ (.slice none 0 0)).drew := ⟨_, rfl⟩
        rw [← hW2]
        have e1 := dv2 (.slice none 0 0)
        have e2 : W2.cell? ⟨pb, 0, none⟩ = (W1.setCell ⟨g, 2, none⟩ (.slice none 0 0)).cell? ⟨pb, 0, none⟩ := by rw [hW2]; rfl
        rw [e1] at e2
        have HW2 := Lib.hid hW2
        clear hW2 e1 dv2 dv d2 d3
        go_quiet (fail)
        go_wp2
        obtain ⟨k1, k2, k3, k4⟩ := over_fin (W2 := W2) (A' := none) (q' := 0) (nq := nq) (D := D) (f' := fun i => f (0 + i)) HOBW.out HG8.out.1 HGP.out (by have := HDD.out; omega) (by have := HG8.out; have := HGP.out; omega) (by rw [HW2.out, HW1.out]) HK.out HX3.out (fun i hi => by omega) (fun b o e => by cases e) (fun _ => rfl) (over_wt HOBW.out.2.2 hm.2 hn1 hn2 hrq HSP.out)
        refine ⟨by simp, .inl ⟨_, _, rfl, run_takeDeferred k1, ?_⟩⟩
        refine ⟨.tuple #[.slice (some ⟨g, 0, none⟩) 1 c8, .slice Ao (0 + 1) co, .int .i64 0], by simp [results, Try.f21, go_sem], ?_⟩
        cases HQ0.out
        cases HN0.out
        rw [HRR.out]
        exact ⟨g, c8, _, _, Ao, co, rfl, k2, ⟨k4 _ _ _ _ HOV.out, hco⟩, HB0.out.trans ((H9.out.trans ((HX2.out.mono (by have := H7.out.size; have := HG8.out; have := HGP.out; omega)).trans (k3.mono H7.out.size))).mono HB0.out.size), by have := HB0.out.size; have := H7.out.size; have := HG8.out; have := HGP.out; omega, fun b o e => (by cases e), fun b o e => by subst e; have := (HOV.out.lt b rfl).1; have := HB0.out.size; have := H7.out.size; have := HG8.out; have := HGP.out; omega⟩
      | some a8 =>
        obtain ⟨g3, rfl⟩ := hs8 a8 rfl
        have hsep := inbox_sep HOBW.out
        have hg3 := (HOB9.out.2.1.lt g3 rfl).2
        rw [HSA.out.1] at hg3
        have HSEP : Hid (∀ b o, (some ⟨g3, 0, none⟩ : Option Addr) = some ⟨b, o, none⟩ → b ≠ g ∧ b < pb) := Lib.hid fun b o e => by cases e; exact ⟨hsep, hg3⟩
        have HSEP2 : Hid (∀ b o, (some ⟨g3, r * 3, none⟩ : Option Addr) = some ⟨b, o, none⟩ → b ≠ g ∧ b < pb) := Lib.hid fun b o e => by cases e; exact ⟨hsep, hg3⟩
        have HG3 : Hid (w7.heap.size ≤ g3) := Lib.hid (HOBW.out.2.1.lt g3 rfl).1
        clear hsep hg3
        by_cases hrq2 : q = r
        · subst hrq2
          go_still_tail 19, (by kernel_rfl)
          change wpList _ _ _ _ _ (World.drew W1)
          go_upto_region 25 with fail
          obtain ⟨W2, hW2⟩ : ∃ W2, W2 = (W1.setCell ⟨g, 2, none⟩ (.slice (some ⟨g3, 0, none⟩) 0 0)).drew := ⟨_, rfl⟩
          rw [← hW2]
          have e1 := dv2 (.slice (some ⟨g3, 0, none⟩) 0 0)
          have e2 : W2.cell? ⟨pb, 0, none⟩ = (W1.setCell ⟨g, 2, none⟩ (.slice (some ⟨g3, 0, none⟩) 0 0)).cell? ⟨pb, 0, none⟩ := by rw [hW2]; rfl
          rw [e1] at e2
          have HW2 := Lib.hid hW2
          clear hW2 e1 dv2 dv d2 d3
          go_quiet (fail)
          go_wp2
          obtain ⟨k1, k2, k3, k4⟩ := over_fin (W2 := W2) (A' := (some ⟨g3, 0, none⟩)) (q' := 0) (nq := nq) (D := D) (f' := fun i => f (q + i)) HOBW.out HG8.out.1 HGP.out (by have := HDD.out; omega) (by have := HG8.out; have := HGP.out; omega) (by rw [HW2.out, HW1.out]) HK.out HX3.out (fun i hi => by omega) HSEP.out (fun e => by cases e) (by have hw9 := over_wt HOBW.out.2.2 hm.2 hn1 hn2 hrq HSP.out; rwa [Nat.sub_self] at hw9)
          refine ⟨by simp, .inl ⟨_, _, rfl, run_takeDeferred k1, ?_⟩⟩
          refine ⟨.tuple #[.slice (some ⟨g, 0, none⟩) 1 c8, .slice Ao (q + 1) co, .int .i64 0], by simp [results, Try.f21, go_sem], ?_⟩
          cases HQ0.out
          cases HN0.out
          rw [HRR.out, Nat.sub_self]
          exact ⟨g, c8, _, _, Ao, co, rfl, k2, ⟨k4 _ _ _ _ HOV.out, hco⟩, HB0.out.trans ((H9.out.trans ((HX2.out.mono (by have := H7.out.size; have := HG8.out; have := HGP.out; omega)).trans (k3.mono H7.out.size))).mono HB0.out.size), by have := HB0.out.size; have := H7.out.size; have := HG8.out; have := HGP.out; omega, fun b o e => by cases e; have := HG3.out; have := HB0.out.size; have := H7.out.size; have := HG8.out; have := HGP.out; omega, fun b o e => by subst e; have := (HOV.out.lt b rfl).1; have := HB0.out.size; have := H7.out.size; have := HG8.out; have := HGP.out; omega⟩
        · go_still_tail 19, (by kernel_rfl)
          change wpList _ _ _ _ _ (World.drew W1)
          go_upto_region 25 with fail
          obtain ⟨W2, hW2⟩ : ∃ W2, W2 = (W1.setCell ⟨g, 2, none⟩ (.slice (some ⟨g3, r * 3, none⟩) (q - r) (q - r))).drew := ⟨_, rfl⟩
          rw [← hW2]
          have e1 := dv2 (.slice (some ⟨g3, r * 3, none⟩) (q - r) (q - r))
          have e2 : W2.cell? ⟨pb, 0, none⟩ = (W1.setCell ⟨g, 2, none⟩ (.slice (some ⟨g3, r * 3, none⟩) (q - r) (q - r))).cell? ⟨pb, 0, none⟩ := by rw [hW2]; rfl
          rw [e1] at e2
          have HW2 := Lib.hid hW2
          clear hW2 e1 dv2 dv d2 d3
          go_quiet (fail)
          go_wp2
          obtain ⟨k1, k2, k3, k4⟩ := over_fin (W2 := W2) (A' := (some ⟨g3, r * 3, none⟩)) (q' := (q - r)) (nq := nq) (D := D) (f' := fun i => f (r + i)) HOBW.out HG8.out.1 HGP.out (by have := HDD.out; omega) (by have := HG8.out; have := HGP.out; omega) (by rw [HW2.out, HW1.out]) HK.out HX3.out (RP_drop0 HRW.out hrq) HSEP2.out (fun e => by cases e) (over_wt HOBW.out.2.2 hm.2 hn1 hn2 hrq HSP.out)
          refine ⟨by simp, .inl ⟨_, _, rfl, run_takeDeferred k1, ?_⟩⟩
          refine ⟨.tuple #[.slice (some ⟨g, 0, none⟩) 1 c8, .slice Ao (r + 1) co, .int .i64 0], by simp [results, Try.f21, go_sem], ?_⟩
          cases HQ0.out
          cases HN0.out
          rw [HRR.out]
          exact ⟨g, c8, _, _, Ao, co, rfl, k2, ⟨k4 _ _ _ _ HOV.out, hco⟩, HB0.out.trans ((H9.out.trans ((HX2.out.mono (by have := H7.out.size; have := HG8.out; have := HGP.out; omega)).trans (k3.mono H7.out.size))).mono HB0.out.size), by have := HB0.out.size; have := H7.out.size; have := HG8.out; have := HGP.out; omega, fun b o e => by cases e; have := HG3.out; have := HB0.out.size; have := H7.out.size; have := HG8.out; have := HGP.out; omega, fun b o e => by subst e; have := (HOV.out.lt b rfl).1; have := HB0.out.size; have := H7.out.size; have := HG8.out; have := HGP.out; omega⟩
    case stop =>
      rintro D c pre W hD hpre h hK
      exact h.elim
end Go.Proofs.Ytkhmlbkkdflnoaa.Hb
