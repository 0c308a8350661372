/-
  THE WALK of the reference's Copy: a record in new lists, which may be written.
-/
import Derived.Test.YtdeeaehdbaoloaaLaws
namespace Go.Proofs.Ytdeeaehdbaoloaa
open Go.RowKit
set_option linter.unusedVariables false
attribute [local go_sem ↓] Go.wp_at_zero Go.wp_at_succ

theorem infoRow : (Try.prog.info? 33).map (fun i => (i.zero, i.size, i.bytes)) = some (some (.slice none 0 0), 1, 24) := by kernel_rfl
/-- block g is a row of numbers of one's own -/
def OwnR (W : World) (g l c : Nat) (f : Nat → Int) : Prop := ∃ cur : Array Value, W.heap[g]? = some (.cells cur 3 (0, 0)) ∧ (l ≤ c ∧ c ≤ 9223372036854775807) ∧ cur.size = c ∧ ∀ j, j < l → cur[j]? = some (.int .i64 (f j))
theorem OwnR.lt {W : World} {g l c : Nat} {f : Nat → Int} (h : OwnR W g l c f) : g < W.heap.size := by
  obtain ⟨cur, hg, _⟩ := h
  exact (Array.getElem?_eq_some_iff.1 hg).1
theorem OwnR.keep {W W' : World} {g l c : Nat} {f : Nat → Int} (h : OwnR W g l c f) (e : W'.heap[g]? = W.heap[g]?) : OwnR W' g l c f := by
  obtain ⟨cur, hg, r⟩ := h
  exact ⟨cur, e.trans hg, r⟩
theorem OwnR.rz {W : World} {g l c : Nat} {f : Nat → Int} (h : OwnR W g l c f) : RZ W (some ⟨g, 0, none⟩) l f := fun i hi => by
  have hl := h.lt
  obtain ⟨cur, hg, _, _, hr⟩ := h
  refine ⟨g, 0, rfl, hl, ?_⟩
  rw [Nat.zero_add, cell_of_row W g i cur _ (0, 0) hg]
  exact hr i hi
/-- the rows as cells -/
def rws (G L C : Nat → Nat) (n : Nat) : List Value := (List.range n).map fun i => .slice (some ⟨G i, 0, none⟩) (L i) (C i)
theorem rws_length (G L C : Nat → Nat) (n : Nat) : (rws G L C n).length = n := by simp [rws]
theorem rws_get (G L C : Nat → Nat) (n i : Nat) (h : i < n) : (rws G L C n)[i]? = some (.slice (some ⟨G i, 0, none⟩) (L i) (C i)) := by simp [rws, h]
theorem rws_succ (G L C : Nat → Nat) (n : Nat) : rws G L C (n + 1) = rws G L C n ++ [.slice (some ⟨G n, 0, none⟩) (L n) (C n)] := by simp [rws, List.range_succ]
theorem rws_congr {G G' L C C' : Nat → Nat} {n : Nat} (h1 : ∀ i, i < n → G i = G' i) (h2 : ∀ i, i < n → C i = C' i) : rws G L C n = rws G' L C' n := by
  unfold rws
  exact List.map_congr_left fun i hi => by rw [h1 i (List.mem_range.1 hi), h2 i (List.mem_range.1 hi)]
/-- v is a copy of n rows, in blocks from B on -/
def CP (B : Nat) (n : Nat) (G C L : Nat → Nat) (z : Nat → Nat → Int) (v : Value) (W : World) : Prop :=
  W.ownsRow B 33 1 v n (rws G L C n) ∧ ∀ i, i < n → B ≤ G i ∧ (∀ j, j < i → G j < G i) ∧ OwnR W (G i) (L i) (C i) (z i)
theorem CP.inj {B n : Nat} {G C L : Nat → Nat} {z : Nat → Nat → Int} {v : Value} {W : World} (h : CP B n G C L z v W) {i j : Nat} (hi : i < n) (hj : j < n) (hne : i ≠ j) : G i ≠ G j := by
  rcases Nat.lt_or_gt_of_ne hne with hlt | hgt
  · have := (h.2 j hj).2.1 i hlt; omega
  · have := (h.2 i hi).2.1 j hgt; omega
theorem CP.far {B n : Nat} {G C L : Nat → Nat} {z : Nat → Nat → Int} {v : Value} {W : World} (h : CP B n G C L z v W) {i : Nat} (hi : i < n) : some (G i) ≠ v.ownBlock := by
  intro e
  obtain ⟨cur, hg, _⟩ := (h.2 i hi).2.2
  rcases h.1.2 with ⟨rfl, _⟩ | ⟨g, cap, cur', rfl, _, hgb, _⟩
  · simp [Value.ownBlock] at e
  · have : G i = g := by simpa [Value.ownBlock] using e
    rw [this, hgb] at hg
    simp at hg
theorem CP.keep {B n : Nat} {G C L : Nat → Nat} {z : Nat → Nat → Int} {v : Value} {W W' : World} (h : CP B n G C L z v W) (hb : Below W.heap.size W W') : CP B n G C L z v W' := by
  have hg : W.grownBy W' none := ⟨hb.os, hb.tape, hb.output, hb.size, fun i hi _ => hb.block i hi⟩
  refine ⟨h.1.kept hg (by cases hv : v.ownBlock <;> simp), fun i hi => ?_⟩
  obtain ⟨h1, h2, h3⟩ := h.2 i hi
  exact ⟨h1, h2, h3.keep (hb.block _ h3.lt)⟩
theorem CP.rm {B n : Nat} {G C L : Nat → Nat} {z : Nat → Nat → Int} {A : Option Addr} {c : Nat} {W : World} (h : CP B n G C L z (.slice A n c) W) : RM W A n L z := fun i hi => by
  obtain ⟨g, cap, hv, hb, hlt⟩ := h.1.form (by omega)
  cases hv
  obtain ⟨h1, h2, h3⟩ := h.2 i hi
  refine ⟨g, 0, some ⟨G i, 0, none⟩, C i, rfl, hlt, ?_, ?_, (fun e => by cases e), h3.rz⟩
  · rw [Nat.zero_add, h.1.cellAt i (by omega)]
    exact rws_get G L C n i hi
  · obtain ⟨cur, _, hc, _⟩ := h3
    exact hc
/-- one number changed -/
def upd (z : Nat → Nat → Int) (k s : Nat) (x : Int) : Nat → Nat → Int := fun i j => if i = k ∧ j = s then x else z i j
theorem CP.write {B n : Nat} {G C L : Nat → Nat} {z : Nat → Nat → Int} {v : Value} {W : World} (h : CP B n G C L z v W) {k s : Nat} (hk : k < n) (hs : s < L k) (x : Int) : CP B n G C L (upd z k s x) v (W.setCell ⟨G k, s, none⟩ (.int .i64 x)) := by
  have hg : W.grownBy (W.setCell ⟨G k, s, none⟩ (.int .i64 x)) (some (G k)) := ⟨rfl, rfl, rfl, by simp [World.setCell], fun j hj hne => Below.heap_setCell W ⟨G k, s, none⟩ _ j (fun e => hne (by rw [e]))⟩
  refine ⟨h.1.kept hg (.inr (fun e => h.far hk e.symm)), fun i hi => ?_⟩
  obtain ⟨h1, h2, h3⟩ := h.2 i hi
  refine ⟨h1, h2, ?_⟩
  by_cases hik : i = k
  · subst hik
    obtain ⟨cur, hgb, hc, hcs, hr⟩ := h3
    refine ⟨cur.setIfInBounds s (.int .i64 x), ?_, hc, by simpa using hcs, fun j hj => ?_⟩
    · simp [World.setCell, Array.getElem?_modify, hgb]
    · by_cases hjs : j = s
      · subst hjs
        simp [upd, Array.getElem?_setIfInBounds, hcs]
        omega
      · rw [Array.getElem?_setIfInBounds_ne (by omega), hr j hj]
        simp [upd, hjs]
  · have e : upd z k s x i = z i := by funext j; simp [upd, hik]
    rw [e]
    exact h3.keep (hg.block _ h3.lt (fun e' => h.inj hi hk hik (by injection e')))
theorem CP.at {B n : Nat} {G C L : Nat → Nat} {z : Nat → Nat → Int} {g c : Nat} {W : World} (h : CP B n G C L z (.slice (some ⟨g, 0, none⟩) n c) W) {k s : Nat} (hk : k < n) (hs : s < L k) :
    W.cell? ⟨g, k, none⟩ = some (.slice (some ⟨G k, 0, none⟩) (L k) (C k)) ∧ W.cell? ⟨G k, s, none⟩ = some (.int .i64 (z k s)) ∧ W.frozen? ⟨G k, s, none⟩ = false ∧ (L k ≤ C k ∧ C k ≤ 9223372036854775807) ∧ B ≤ G k := by
  obtain ⟨h1, h2, h3⟩ := h.2 k hk
  obtain ⟨cur, hgb, hc, hcs, hr⟩ := h3
  refine ⟨?_, ?_, ?_, hc, h1⟩
  · rw [h.1.cellAt k (by omega)]; exact rws_get G L C n k hk
  · rw [cell_of_row W _ s cur _ (0, 0) hgb]; exact hr s hs
  · simp [World.frozen?, hgb]
theorem RZ_news {w : World} {len : Nat} {z : Nat → Int} {b o : Nat} (x : RZ w (some ⟨b, o, none⟩) len z) : ∀ j u, (nums z len)[j]? = some u → w.cell? ((⟨b, o, none⟩ : Addr).add j) = some u := by
  intro j u hu
  have hj : j < len := by
    have := (List.getElem?_eq_some_iff.1 hu).1
    simpa [nums_length] using this
  rw [nums_get _ _ _ hj] at hu
  cases hu
  rw [Addr.add_lit]
  exact RZ_at x (Below.refl _ _) hj
theorem nums_one (f : Nat → Int) (n : Nat) : ∀ u ∈ nums f n, u.oneCell' = true := by
  intro u hu
  obtain ⟨_, _, rfl⟩ := List.mem_map.1 hu
  rfl
theorem OwnR.of {W : World} {base g l c : Nat} {f : Nat → Int} (h : W.ownsRow base 3 1 (.slice (some ⟨g, 0, none⟩) l c) l (nums f l)) : OwnR W g l c f := by
  rcases h.2 with ⟨h', _⟩ | ⟨g', cap, cur, h', _, hg, h1, h2, h3, h4⟩
  · cases h'
  · cases h'
    refine ⟨cur, hg, ⟨h1, by unfold maxLen at h2; omega⟩, by simpa using h3, fun j hj => ?_⟩
    have := nums_get f l j hj
    rw [← h4, List.getElem?_take, if_pos (by omega)] at this
    simpa using this
/-- a row more -/
theorem CP.more {B n : Nat} {G C L : Nat → Nat} {z : Nat → Nat → Int} {v v' : Value} {W W1 W2 : World} {g c : Nat} {o : Obj} (h : CP B n G C L z v W) (hg1 : W.grownBy W1 none) (hr : W1.ownsRow B 3 1 (.slice (some ⟨g, 0, none⟩) (L n) c) (L n) (nums (z n) (L n))) (hge : W.heap.size ≤ g)
    (hg2 : (W1.alloc o).grownBy W2 v.ownBlock) (hown : W2.ownsRow B 33 1 v' (n + 1) (rws G L C n ++ [.slice (some ⟨g, 0, none⟩) (L n) c])) :
    CP B (n + 1) (fun i => if i < n then G i else g) (fun i => if i < n then C i else c) L z v' W2 := by
  have hB : B ≤ g := own_ge hr g rfl
  have hO := OwnR.of hr
  have hk : ∀ j, j < W1.heap.size → some j ≠ v.ownBlock → W2.heap[j]? = W1.heap[j]? := fun j hj hne => (hg2.block j (by simp; omega) hne).trans (Below.heap_alloc W1 o j hj)
  refine ⟨?_, fun i hi => ?_⟩
  · rw [rws_succ, rws_congr (G' := G) (C' := C) (fun i hi => by simp [hi]) (fun i hi => by simp [hi])]
    simpa using hown
  · by_cases hin : i < n
    · obtain ⟨h1, h2, h3⟩ := h.2 i hin
      simp only [hin, if_true]
      refine ⟨h1, fun j hj => by have hjn : j < n := (by omega); simp only [hjn, if_true]; exact h2 j hj, (h3.keep (hg1.block _ h3.lt (by simp))).keep (hk _ (Nat.lt_of_lt_of_le h3.lt hg1.size) (h.far hin))⟩
    · obtain rfl : i = n := by omega
      simp only [Nat.lt_irrefl, if_false]
      refine ⟨hB, fun j hj => by simp only [hj, if_true]; exact Nat.lt_of_lt_of_le (h.2 j hj).2.2.lt hge, hO.keep (hk _ hO.lt ?_)⟩
      intro e
      rcases h.1.2 with ⟨rfl, _⟩ | ⟨g', cap', cur', rfl, _, hgb, _⟩
      · simp [Value.ownBlock] at e
      · have : g = g' := by simpa [Value.ownBlock] using e
        have hlt : g' < W.heap.size := (Array.getElem?_eq_some_iff.1 hgb).1
        omega

set_option maxRecDepth 100000 in
set_option maxHeartbeats 2000000 in
theorem copy_any (A : Option Addr) (n c : Nat) (L : Nat → Nat) (z : Nat → Nat → Int) (w : World) (hn : 1 ≤ n ∧ n ≤ 100) (hL : ∀ i, i < n → 1 ≤ L i ∧ L i ≤ 100) (hR : RM w A n L z) :
    Calls Try.prog 17 #[.slice A n c] w fun e w' => (∃ g cap G C, e = .returned (.slice (some ⟨g, 0, none⟩) n cap) ∧ (n ≤ cap ∧ cap ≤ 9223372036854775807) ∧ CP w.heap.size n G C L z (.slice (some ⟨g, 0, none⟩) n cap) w') ∧ Below w.heap.size w w' := by
  have HR := Lib.hid hR
  have HL := Lib.hid hL
  clear hR hL
  obtain ⟨i0, hi, hz0, hz1, hz2⟩ := info_parts infoInt
  obtain ⟨j0, hj, hy0, hy1, hy2⟩ := info_parts infoRow
  have HI := Lib.hid hi
  have HZ0 := Lib.hid hz0
  have HZ1 := Lib.hid hz1
  have HZ2 := Lib.hid hz2
  have HJ := Lib.hid hj
  have HY0 := Lib.hid hy0
  have HY1 := Lib.hid hy1
  have HY2 := Lib.hid hy2
  clear hi hz0 hz1 hz2 hj hy0 hy1 hy2
  go_enter Try.func17, Try.ntmps17
  go_wp2_with fail
  go_loopw [3, 4] (fun v i wr => ∃ k : Nat, k ≤ n ∧ i = .int .i64 k ∧ (∃ G C, CP w.heap.size k G C L z v wr) ∧ Below w.heap.size w wr) (fun _ i _ => n - (intOf i).toNat)
  case atStart => exact ⟨0, Nat.zero_le _, rfl, ⟨fun _ => 0, fun _ => 0, World.ownsRow_nil _ _ _ _, fun i hi => by omega⟩, Below.refl _ _⟩
  case round =>
    obtain ⟨k, hk, rfl, ⟨G, C, hcp⟩, hbw⟩ := hrel
    have hws := hbw.size
    by_cases hlt : k < n
    · have hLk := HL.out k hlt
      obtain ⟨b, o, R, Cr, rfl, hb, hc, hC, _, hZ⟩ := (HR.out.keep hbw) k hlt
      obtain ⟨b2, o2, rfl, _, _⟩ := hZ 0 (by omega)
      have i1 : (k : Int) < (n : Int) := by omega
      have HZr := Lib.hid hZ
      clear hZ
      go_wp2_with (first
        | (at_builtin; refine wpList_append_lies _ rfl (.tmp 12) (.tmp 16) 33 rfl w.heap.size 3 i0 _ 1 8 Try.underlying33 HI.out HZ0.out HZ1.out HZ2.out rfl (by omega) (.slice none 0 0) 0 [] rfl (World.ownsRow_nil _ _ _ _) ⟨b2, o2, none⟩ (L k) Cr (nums (z k) (L k)) rfl (by rw [nums_length, Nat.mul_one]) (RZ_news HZr.out) (nums_one _ _) (by omega) (by unfold maxLen; omega) (by omega) hws wr.heap.size rfl ?_; intro g1 cap1 wA hown1 hgrow1 hat1 hlt1; rw [Nat.zero_add, List.nil_append] at hown1)
        | (at_builtin; refine wpList_append_lies _ rfl (.tmp 18) (.tmp 20) 22 rfl w.heap.size 33 j0 _ 1 24 Try.underlying22 HJ.out HY0.out HY1.out HY2.out rfl (by omega) u3 k _ rfl ((hcp.1.kept hgrow1 (Classical.em _)).alloc _) ⟨wA.heap.size, 0, none⟩ 1 1 [.slice (some ⟨g1, 0, none⟩) (L k) cap1] rfl rfl (World.news_of_block (heap_alloc_new wA _)) (by simp [Value.oneCell']) (by omega) (by unfold maxLen; omega) (by omega) (by have q := hgrow1.size; simp; omega) (wA.heap.size + 1) (by simp) ?_; intro g2 cap2 wB hown2 hgrow2 hat2 hlt2))
      have hcp2 := hcp.more hgrow1 hown1 (by rcases hat1 with h' | h'; simp [Value.ownBlock] at h'; omega) hgrow2 hown2
      have h3 : Below w.heap.size w wA := hbw.grown hgrow1 hbw.size (fun g hg => by simp [Value.ownBlock] at hg)
      have h4 : Below w.heap.size w wB := (bel_alloc h3 _).grown hgrow2 (bel_alloc h3 _).size (own_ge hcp.1)
      clear hcp
      go_roundw
      case rel => exact ⟨k + 1, by omega, by go_num, ⟨_, _, hcp2⟩, h4⟩
      case measure => simp [intOf] <;> omega
    · obtain rfl : k = n := by omega
      obtain ⟨g, cap, rfl, _, _⟩ := hcp.1.form (by omega)
      have hcap : k ≤ cap ∧ cap ≤ 9223372036854775807 := by
        rcases hcp.1.2 with ⟨h', _⟩ | ⟨g', cap', cur, h', _, _, h1, h2, _⟩
        · cases h'
        · cases h'; unfold maxLen at h2; omega
      go_wp2_with fail
      go_ret
      exact ⟨⟨g, cap, G, C, rfl, hcap, hcp⟩, hbw⟩
end Go.Proofs.Ytdeeaehdbaoloaa
