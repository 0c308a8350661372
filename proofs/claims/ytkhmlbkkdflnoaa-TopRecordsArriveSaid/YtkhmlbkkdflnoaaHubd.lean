/-
  THE WALKS over package hub, fourth part: an element inserted.
-/
import Derived.Test.YtkhmlbkkdflnoaaHubc
namespace Go.Proofs.Ytkhmlbkkdflnoaa.Hb
open Go.RowKit
open Rc (own_below)
set_option linter.unusedVariables false
set_option linter.unusedSimpArgs false
attribute [local go_sem ↓] Go.wp_at_zero Go.wp_at_succ

/-- number m among the others, at a place -/
def insf (f : Nat → Int) (at_ : Nat) (m : Int) (i : Nat) : Int := if i < at_ then f i else if i = at_ then m else f (i - 1)
theorem ins_tri {f : Nat → Int} {at_ q : Nat} {m : Int} (h : at_ ≤ q) : (tri (mg f) at_ ++ [.int .i64 3, .int .i64 m, .int .i64 (m - 1)]) ++ tri (fun i => mg f (at_ + i)) (q - at_) = tri (mg (insf f at_ m)) (q + 1) := by
  have h1 := tri_add (mg (insf f at_ m)) (at_ + 1) (q - at_)
  rw [show at_ + 1 + (q - at_) = q + 1 by omega] at h1
  rw [h1]
  congr 1
  · show _ = tri (mg (insf f at_ m)) at_ ++ _
    rw [tri_congr (X := mg f) (Y := mg (insf f at_ m)) at_ fun i hi j hj => by unfold mg insf; rw [if_pos hi]]
    simp [mg, insf]
  · refine tri_congr _ fun i hi j hj => ?_
    have e : insf f at_ m (at_ + 1 + i) = f (at_ + i) := by
      unfold insf
      rw [if_neg (by omega), if_neg (by omega), show at_ + 1 + i - 1 = at_ + i by omega]
    unfold mg
    rw [e]
theorem RP_drop0 {w : World} {b n k : Nat} {X : Nat → Nat → Int} (h : RP w (some ⟨b, 0, none⟩) n X) (hk : k ≤ n) : RP w (some ⟨b, k * 3, none⟩) (n - k) (fun i => X (k + i)) := by
  have := RP_drop h hk
  rwa [Nat.zero_add] at this
theorem bel_gr {a w w' : World} (h : Below a.heap.size a w) (hg : w.grownBy w' none) : Below a.heap.size a w' := h.grown hg h.size (by intro k e; cases e)
theorem insf_wt {N : Int} {q : Nat} {f : Nat → Int} (h : Wt N q f) {m : Int} (h1 : N < m ∧ m ≤ 999) (hw : isW f m q = false) (hq : q < 60) : Wt N (q + 1) (insf f (pl f m q) m) := by
  have hle := pl_le f m q
  have hlo : ∀ i, i < pl f m q → f i < m := fun i hi => pl_lo hi
  have hhi : ∀ i, pl f m q ≤ i → i < q → m < f i := fun i h2 h3 => by
    have h4 := pl_hi h h2 h3
    have h5 : ¬ (pl f m q < q ∧ f (pl f m q) = m) := by simpa [isW] using hw
    rcases Nat.lt_or_ge (pl f m q) i with h6 | h6
    · have := h.2.2.2 _ i h6 h3
      have := pl_hi h (Nat.le_refl _) (show pl f m q < q by omega)
      omega
    · obtain rfl : i = pl f m q := by omega
      have : f (pl f m q) ≠ m := fun e => h5 ⟨h3, e⟩
      omega
  obtain ⟨p, hp⟩ : ∃ p, pl f m q = p := ⟨_, rfl⟩
  rw [hp] at hle hlo hhi ⊢
  refine ⟨h.1, by omega, fun i hi => ?_, fun i j hij hj => ?_⟩
  · unfold insf
    split
    · exact h.2.2.1 i (by omega)
    · split
      · omega
      · exact h.2.2.1 (i - 1) (by omega)
  · unfold insf
    by_cases a1 : i < p
    · rw [if_pos a1]
      by_cases b1 : j < p
      · rw [if_pos b1]; exact h.2.2.2 i j hij (by omega)
      · rw [if_neg b1]
        by_cases b2 : j = p
        · rw [if_pos b2]; exact hlo i a1
        · rw [if_neg b2]; exact h.2.2.2 i (j - 1) (by omega) (by omega)
    · rw [if_neg a1]
      by_cases a2 : i = p
      · rw [if_pos a2, if_neg (by omega), if_neg (by omega)]
        exact hhi (j - 1) (by omega) (by omega)
      · rw [if_neg a2, if_neg (by omega), if_neg (by omega)]
        exact h.2.2.2 (i - 1) (j - 1) (by omega) (by omega)

set_option maxRecDepth 100000 in
set_option maxHeartbeats 2000000 in
theorem insm_some (g c q at_ : Nat) (f : Nat → Int) (m : Int) (w : World) (hR : RP w (some ⟨g, 0, none⟩) q (mg f)) (hat : at_ ≤ q) (hq : q ≤ 60) (hc : q ≤ c ∧ c ≤ 9223372036854775807) :
    Calls Try.prog 58 #[.slice (some ⟨g, 0, none⟩) q c, .int .i64 (at_ : Int), .agg #[.int .i64 3, .int .i64 m, .int .i64 (m - 1)]] w fun e w' => ∃ v, e = .returned v ∧ w'.ownsRow w.heap.size 69 3 v (q + 1) (tri (mg (insf f at_ m)) (q + 1)) ∧ Below w.heap.size w w' := by
  obtain ⟨s0, hs, hs0, hs1, hs2⟩ := info_parts infoMsg
  have KJ := Lib.hid hs
  have KY0 := Lib.hid hs0
  have KY1 := Lib.hid hs1
  have KY2 := Lib.hid hs2
  have HR := Lib.hid hR
  have HTR := Lib.hid (ins_tri (f := f) (m := m) hat)
  clear hs hs0 hs1 hs2 hR
  have i1 : (0 : Int) ≤ (at_ : Int) := by omega
  have i2 : (at_ : Int) ≤ (q : Int) := by omega
  have i3 : (at_ : Int) ≤ (c : Int) := by omega
  have i4 : (q : Int) ≤ (c : Int) := by omega
  have x0 : (w.alloc (.cells #[.int .i64 3, .int .i64 m, .int .i64 (m - 1)] 69)).cell? ⟨w.heap.size, 0, none⟩ = some (.int .i64 3) := Mt.cell_new rfl rfl
  have x1 : (w.alloc (.cells #[.int .i64 3, .int .i64 m, .int .i64 (m - 1)] 69)).cell? ⟨w.heap.size, 1, none⟩ = some (.int .i64 m) := Mt.cell_new rfl rfl
  have x2 : (w.alloc (.cells #[.int .i64 3, .int .i64 m, .int .i64 (m - 1)] 69)).cell? ⟨w.heap.size, 2, none⟩ = some (.int .i64 (m - 1)) := Mt.cell_new rfl rfl
  have HB1 := Lib.hid (bel_alloc (Below.refl _ w) (.cells #[.int .i64 3, .int .i64 m, .int .i64 (m - 1)] 69))
  have HR1 := Lib.hid (HR.out.keep HB1.out)
  by_cases hac : at_ = c
  · obtain rfl : q = at_ := by omega
    obtain rfl : q = c := by omega
    go_enter Try.func58, Try.ntmps58
    go_wp2_with fail
    obtain ⟨pb, hpb⟩ : ∃ pb, w.heap.size = pb := ⟨_, rfl⟩
    obtain ⟨w1, hw1⟩ : ∃ w1, w.alloc (.cells #[.int .i64 3, .int .i64 m, .int .i64 (m - 1)] 69) = w1 := ⟨_, rfl⟩
    rw [hw1] at x0 x1 x2 HB1 HR1 ⊢
    rw [hpb] at x0 x1 x2 ⊢
    have HPB := Lib.hid hpb
    clear hpb hw1
    have HB2 := Lib.hid (Below.refl w1.heap.size w1 |> (bel_alloc · (.cells #[.int .i64 3, .int .i64 m, .int .i64 (m - 1)] 69)))
    have HNB := Lib.hid (heap_alloc_new w1 (.cells #[.int .i64 3, .int .i64 m, .int .i64 (m - 1)] 69))
    have HR2 : Hid (RP (w1.alloc (.cells #[.int .i64 3, .int .i64 m, .int .i64 (m - 1)] 69)).drew (some ⟨g, 0, none⟩) q (mg f)) := Lib.hid (HR1.out.keep HB2.out.drew)
    go_region_law (first
      | (refine step_append_grows rfl (.tmp 10) (.tmp 12) 65 rfl 69 s0 _ 3 24 Try.underlying65 KJ.out KY0.out KY1.out KY2.out rfl (by omega) (some ⟨g, 0, none⟩) q q (tri (mg f) q) rfl (fun e => by cases e) (tri_length _ _) (fun b e => by cases e; exact tri_news (RP_take HR2.out hat)) ⟨w1.heap.size, 0, none⟩ 1 1 [.int .i64 3, .int .i64 m, .int .i64 (m - 1)] rfl rfl (World.news_of_block HNB.out) (by simp [Value.oneCell']) (by omega) (by unfold maxLen; omega) (by omega) ?_; intro v3 w3 hown3 hgr3)
      | (refine step_tri _ rfl (.tmp 13) (.tmp 16) 65 rfl _ 69 s0 _ 24 Try.underlying65 KJ.out KY0.out KY1.out KY2.out rfl v3 (q + 1) _ rfl hown3 (some ⟨g, 0, none⟩) 0 0 (fun i => mg f (q + i)) rfl (fun e => by cases e) (fun i hi => by omega) (q + 1) (by omega) (by unfold maxLen; omega) (by omega) hgr3.size ?_; intro v4 w4 hown4 hgr4))
    go_wp2_with fail
    go_ret
    have hH := HTR.out
    rw [Nat.sub_self] at hH
    rw [hH] at hown4
    exact ⟨_, rfl, own_mono hown4 (by have := HB1.out.size; simp; omega), (HB1.out.trans (HB2.out.drew.mono HB1.out.size)).trans ((hgr3.size |> fun _ => (bel_gr (Below.refl _ _) hgr3).mono (by have := HB1.out.size; simp; omega)) |>.trans ((Below.refl _ _).grown hgr4 (by have := HB1.out.size; have := hgr3.size; simp at *; omega) (by intro k e; have := (hown3.lt k e).1; have := HB1.out.size; simp at *; omega)))⟩
  · have hac1 : ¬ (c = at_) := fun e => hac e.symm
    go_enter Try.func58, Try.ntmps58
    go_wp2_with fail
    obtain ⟨pb, hpb⟩ : ∃ pb, w.heap.size = pb := ⟨_, rfl⟩
    obtain ⟨w1, hw1⟩ : ∃ w1, w.alloc (.cells #[.int .i64 3, .int .i64 m, .int .i64 (m - 1)] 69) = w1 := ⟨_, rfl⟩
    rw [hw1] at x0 x1 x2 HB1 HR1 ⊢
    rw [hpb] at x0 x1 x2 ⊢
    have HPB := Lib.hid hpb
    clear hpb hw1
    have HB2 := Lib.hid (Below.refl w1.heap.size w1 |> (bel_alloc · (.cells #[.int .i64 3, .int .i64 m, .int .i64 (m - 1)] 69)))
    have HNB := Lib.hid (heap_alloc_new w1 (.cells #[.int .i64 3, .int .i64 m, .int .i64 (m - 1)] 69))
    have HR2 : Hid (RP (w1.alloc (.cells #[.int .i64 3, .int .i64 m, .int .i64 (m - 1)] 69)).drew (some ⟨g, 0, none⟩) q (mg f)) := Lib.hid (HR1.out.keep HB2.out.drew)
    go_region_law (first
      | (refine step_append_grows rfl (.tmp 10) (.tmp 12) 65 rfl 69 s0 _ 3 24 Try.underlying65 KJ.out KY0.out KY1.out KY2.out rfl (by omega) (some ⟨g, 0, none⟩) at_ at_ (tri (mg f) at_) rfl (fun e => by cases e) (tri_length _ _) (fun b e => by cases e; exact tri_news (RP_take HR2.out hat)) ⟨w1.heap.size, 0, none⟩ 1 1 [.int .i64 3, .int .i64 m, .int .i64 (m - 1)] rfl rfl (World.news_of_block HNB.out) (by simp [Value.oneCell']) (by omega) (by unfold maxLen; omega) (by omega) ?_; intro v3 w3 hown3 hgr3)
      | (refine step_tri _ rfl (.tmp 13) (.tmp 16) 65 rfl _ 69 s0 _ 24 Try.underlying65 KJ.out KY0.out KY1.out KY2.out rfl v3 (at_ + 1) _ rfl hown3 (some ⟨g, at_ * 3, none⟩) (q - at_) (c - at_) (fun i => mg f (at_ + i)) rfl (fun e => by cases e) (RP_drop0 (HR2.out.keep (bel_gr (Below.refl _ _) hgr3)) hat) (q + 1) (by omega) (by unfold maxLen; omega) (by omega) hgr3.size ?_; intro v4 w4 hown4 hgr4))
    go_wp2_with fail
    go_ret
    rw [HTR.out] at hown4
    exact ⟨_, rfl, own_mono hown4 (by have := HB1.out.size; simp; omega), (HB1.out.trans (HB2.out.drew.mono HB1.out.size)).trans ((hgr3.size |> fun _ => (bel_gr (Below.refl _ _) hgr3).mono (by have := HB1.out.size; simp; omega)) |>.trans ((Below.refl _ _).grown hgr4 (by have := HB1.out.size; have := hgr3.size; simp at *; omega) (by intro k e; have := (hown3.lt k e).1; have := HB1.out.size; simp at *; omega)))⟩
set_option maxRecDepth 100000 in
set_option maxHeartbeats 2000000 in
theorem insm_nil (f : Nat → Int) (m : Int) (w : World) :
    Calls Try.prog 58 #[.slice none 0 0, .int .i64 0, .agg #[.int .i64 3, .int .i64 m, .int .i64 (m - 1)]] w fun e w' => ∃ v, e = .returned v ∧ w'.ownsRow w.heap.size 69 3 v 1 (tri (mg (insf f 0 m)) 1) ∧ Below w.heap.size w w' := by
  obtain ⟨s0, hs, hs0, hs1, hs2⟩ := info_parts infoMsg
  have KJ := Lib.hid hs
  have KY0 := Lib.hid hs0
  have KY1 := Lib.hid hs1
  have KY2 := Lib.hid hs2
  have HTR := Lib.hid (ins_tri (f := f) (m := m) (at_ := 0) (q := 0) (Nat.le_refl 0))
  clear hs hs0 hs1 hs2
  have x0 : (w.alloc (.cells #[.int .i64 3, .int .i64 m, .int .i64 (m - 1)] 69)).cell? ⟨w.heap.size, 0, none⟩ = some (.int .i64 3) := Mt.cell_new rfl rfl
  have x1 : (w.alloc (.cells #[.int .i64 3, .int .i64 m, .int .i64 (m - 1)] 69)).cell? ⟨w.heap.size, 1, none⟩ = some (.int .i64 m) := Mt.cell_new rfl rfl
  have x2 : (w.alloc (.cells #[.int .i64 3, .int .i64 m, .int .i64 (m - 1)] 69)).cell? ⟨w.heap.size, 2, none⟩ = some (.int .i64 (m - 1)) := Mt.cell_new rfl rfl
  have HB1 := Lib.hid (bel_alloc (Below.refl _ w) (.cells #[.int .i64 3, .int .i64 m, .int .i64 (m - 1)] 69))
  go_enter Try.func58, Try.ntmps58
  go_wp2_with fail
  obtain ⟨pb, hpb⟩ : ∃ pb, w.heap.size = pb := ⟨_, rfl⟩
  obtain ⟨w1, hw1⟩ : ∃ w1, w.alloc (.cells #[.int .i64 3, .int .i64 m, .int .i64 (m - 1)] 69) = w1 := ⟨_, rfl⟩
  rw [hw1] at x0 x1 x2 HB1 ⊢
  rw [hpb] at x0 x1 x2 ⊢
  have HPB := Lib.hid hpb
  clear hpb hw1
  have HB2 := Lib.hid (Below.refl w1.heap.size w1 |> (bel_alloc · (.cells #[.int .i64 3, .int .i64 m, .int .i64 (m - 1)] 69)))
  have HNB := Lib.hid (heap_alloc_new w1 (.cells #[.int .i64 3, .int .i64 m, .int .i64 (m - 1)] 69))
  go_region_law (first
    | (refine step_append_grows rfl (.tmp 10) (.tmp 12) 65 rfl 69 s0 _ 3 24 Try.underlying65 KJ.out KY0.out KY1.out KY2.out rfl (by omega) none 0 0 [] rfl (fun _ => ⟨rfl, rfl⟩) rfl (fun b e => by cases e) ⟨w1.heap.size, 0, none⟩ 1 1 [.int .i64 3, .int .i64 m, .int .i64 (m - 1)] rfl rfl (World.news_of_block HNB.out) (by simp [Value.oneCell']) (by omega) (by unfold maxLen; omega) (by omega) ?_; intro v3 w3 hown3 hgr3)
    | (refine step_tri _ rfl (.tmp 13) (.tmp 16) 65 rfl _ 69 s0 _ 24 Try.underlying65 KJ.out KY0.out KY1.out KY2.out rfl v3 1 _ rfl hown3 none 0 0 (fun i => mg f (0 + i)) rfl (fun _ => ⟨rfl, rfl⟩) (fun i hi => by omega) 1 (by omega) (by unfold maxLen; omega) (by omega) hgr3.size ?_; intro v4 w4 hown4 hgr4))
  go_wp2_with fail
  go_ret
  have hH := HTR.out
  rw [Nat.sub_self] at hH
  have hown4 := (show w4.ownsRow _ 69 3 v4 1 (tri (mg (insf f 0 m)) (0 + 1)) by rw [← hH]; exact hown4)
  exact ⟨_, rfl, own_mono hown4 (by have := HB1.out.size; simp; omega), (HB1.out.trans (HB2.out.drew.mono HB1.out.size)).trans ((hgr3.size |> fun _ => (bel_gr (Below.refl _ _) hgr3).mono (by have := HB1.out.size; simp; omega)) |>.trans ((Below.refl _ _).grown hgr4 (by have := HB1.out.size; have := hgr3.size; simp at *; omega) (by intro k e; have := (hown3.lt k e).1; have := HB1.out.size; simp at *; omega)))⟩
set_option maxRecDepth 100000 in
set_option maxHeartbeats 2000000 in
theorem insb_new (g : Nat) (N : Int) (w : World) :
    Calls Try.prog 57 #[.slice (some ⟨g, 0, none⟩) 0 0, .int .i64 0, .agg #[.int .i64 3, .int .i64 N, .slice none 0 0]] w fun e w' => ∃ g c, e = .returned (.slice (some ⟨g, 0, none⟩) 1 c) ∧ w'.ownsRow w.heap.size 123 3 (.slice (some ⟨g, 0, none⟩) 1 c) 1 [.int .i64 3, .int .i64 N, .slice none 0 0] ∧ Below w.heap.size w w' := by
  obtain ⟨s0, hs, hs0, hs1, hs2⟩ := info_parts infoBox
  have KJ := Lib.hid hs
  have KY0 := Lib.hid hs0
  have KY1 := Lib.hid hs1
  have KY2 := Lib.hid hs2
  clear hs hs0 hs1 hs2
  have x0 : (w.alloc (.cells #[.int .i64 3, .int .i64 N, .slice none 0 0] 123)).cell? ⟨w.heap.size, 0, none⟩ = some (.int .i64 3) := Mt.cell_new rfl rfl
  have x1 : (w.alloc (.cells #[.int .i64 3, .int .i64 N, .slice none 0 0] 123)).cell? ⟨w.heap.size, 1, none⟩ = some (.int .i64 N) := Mt.cell_new rfl rfl
  have x2 : (w.alloc (.cells #[.int .i64 3, .int .i64 N, .slice none 0 0] 123)).cell? ⟨w.heap.size, 2, none⟩ = some (.slice none 0 0) := Mt.cell_new rfl rfl
  have HB1 := Lib.hid (bel_alloc (Below.refl _ w) (.cells #[.int .i64 3, .int .i64 N, .slice none 0 0] 123))
  go_enter Try.func57, Try.ntmps57
  go_wp2_with fail
  obtain ⟨pb, hpb⟩ : ∃ pb, w.heap.size = pb := ⟨_, rfl⟩
  obtain ⟨w1, hw1⟩ : ∃ w1, w.alloc (.cells #[.int .i64 3, .int .i64 N, .slice none 0 0] 123) = w1 := ⟨_, rfl⟩
  rw [hw1] at x0 x1 x2 HB1 ⊢
  rw [hpb] at x0 x1 x2 ⊢
  have HPB := Lib.hid hpb
  clear hpb hw1
  have HB2 := Lib.hid (Below.refl w1.heap.size w1 |> (bel_alloc · (.cells #[.int .i64 3, .int .i64 N, .slice none 0 0] 123)))
  have HNB := Lib.hid (heap_alloc_new w1 (.cells #[.int .i64 3, .int .i64 N, .slice none 0 0] 123))
  go_region_law (first
    | (refine step_append_grows rfl (.tmp 10) (.tmp 12) 63 rfl 123 s0 _ 3 40 Try.underlying63 KJ.out KY0.out KY1.out KY2.out rfl (by omega) (some ⟨g, 0, none⟩) 0 0 [] rfl (fun e => by cases e) rfl (fun b e j u hu => by simp at hu) ⟨w1.heap.size, 0, none⟩ 1 1 [.int .i64 3, .int .i64 N, .slice none 0 0] rfl rfl (World.news_of_block HNB.out) (by simp [Value.oneCell']) (by omega) (by unfold maxLen; omega) (by omega) ?_; intro v3 w3 hown3 hgr3)
    | (refine step_app _ rfl (.tmp 13) (.tmp 16) 63 rfl _ 123 s0 _ 3 40 Try.underlying63 KJ.out KY0.out KY1.out KY2.out rfl (by omega) v3 1 _ rfl hown3 ⟨g, 0, none⟩ 0 0 [] rfl rfl (fun j u hu => by simp at hu) (fun u hu => by simp at hu) 1 rfl (by omega) (by unfold maxLen; omega) (by omega) hgr3.size ?_; intro g4 cap4 w4 hown4 hgr4 hge4 hlt4))
  go_wp2_with fail
  go_ret
  refine ⟨g4, cap4, rfl, own_mono (by simpa using hown4) (by have := HB1.out.size; simp; omega), (HB1.out.trans (HB2.out.drew.mono HB1.out.size)).trans (((bel_gr (Below.refl _ _) hgr3).mono (by have := HB1.out.size; simp; omega)) |>.trans ((Below.refl _ _).grown hgr4 (by have := HB1.out.size; have := hgr3.size; simp at *; omega) (by intro k e; have := (hown3.lt k e).1; have := HB1.out.size; simp at *; omega)))⟩
end Go.Proofs.Ytkhmlbkkdflnoaa.Hb
