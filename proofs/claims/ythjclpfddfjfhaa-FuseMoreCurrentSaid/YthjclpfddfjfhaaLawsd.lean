/-
  THE WALKS OF THE LAWS over package fuse, fourth part: FuseMoreCurrent.
-/
import Derived.Test.YthjclpfddfjfhaaLawsc
import Derived.Test.YthjclpfddfjfhaaApp
namespace Go.Proofs.Ythjclpfddfjfhaa
open Go.RowKit
set_option linter.unusedVariables false
attribute [local go_sem ↓] Go.wp_at_zero Go.wp_at_succ

theorem infoInt : (Try.prog.info? 3).map (fun i => (i.zero, i.size, i.bytes)) = some (some (.int .i64 0), 1, 8) := by kernel_rfl
/-- numbers as cells -/
def nums (f : Nat → Int) (n : Nat) : List Value := (List.range n).map fun i => .int .i64 (f i)
theorem nums_length (f : Nat → Int) (n : Nat) : (nums f n).length = n := by simp [nums]
theorem nums_succ (f : Nat → Int) (n : Nat) : nums f (n + 1) = nums f n ++ [.int .i64 (f n)] := by simp [nums, List.range_succ]
theorem nums_get (f : Nat → Int) (n i : Nat) (h : i < n) : (nums f n)[i]? = some (.int .i64 (f i)) := by simp [nums, h]
theorem nums_one (f : Nat → Int) (n : Nat) : ∀ u ∈ nums f n, u.oneCell' = true := by
  intro u hu
  obtain ⟨_, _, rfl⟩ := List.mem_map.1 hu
  rfl
theorem RZ_own {w : World} {base : Nat} {e : TypeId} {A : Option Addr} {n c : Nat} {f : Nat → Int} (h : w.ownsRow base e 1 (.slice A n c) n (nums f n)) : RZ w A n f := fun i hi => by
  obtain ⟨g, cap, hv, hb, hlt⟩ := h.form (by omega)
  cases hv
  refine ⟨g, 0, rfl, hlt, ?_⟩
  rw [Nat.zero_add, h.cellAt i (by omega)]
  exact nums_get f n i hi
/-- the slice at A reads as these len bytes -/
def RB (w : World) (A : Option Addr) (len : Nat) (y : Nat → Int) : Prop := ∀ i, i < len → ∃ b o, A = some ⟨b, o, none⟩ ∧ b < w.heap.size ∧ w.cell? ⟨b, o + i, none⟩ = some (.int .u8 (y i)) ∧ (0 ≤ y i ∧ y i ≤ 255)
theorem RB.keep {w w' : World} {A : Option Addr} {len : Nat} {z : Nat → Int} (x : RB w A len z) (hb : Below w.heap.size w w') : RB w' A len z := fun i hi => by
  obtain ⟨b, o, e, hl, hc, hx⟩ := x i hi
  exact ⟨b, o, e, Nat.lt_of_lt_of_le hl hb.size, (hb.cell (p := ⟨b, o + i, none⟩) hl).trans hc, hx⟩
theorem RZ_at {w w' : World} {b o len k : Nat} {z : Nat → Int} (x : RZ w (some ⟨b, o, none⟩) len z) (hb : Below w.heap.size w w') (hk : k < len) : w'.cell? ⟨b, o + k, none⟩ = some (.int .i64 (z k)) := by
  obtain ⟨b', o', e, _, hc⟩ := x.keep hb k hk
  cases e
  exact hc
theorem RB_at {w w' : World} {b o len k : Nat} {z : Nat → Int} (x : RB w (some ⟨b, o, none⟩) len z) (hb : Below w.heap.size w w') (hk : k < len) : w'.cell? ⟨b, o + k, none⟩ = some (.int .u8 (z k)) := by
  obtain ⟨b', o', e, _, hc, _⟩ := x.keep hb k hk
  cases e
  exact hc
theorem FB.grown {w w' : World} {b : Nat} {r h : Int} (x : FB w b r h) {row : Option Nat} (hg : w.grownBy w' row) (hne : some b ≠ row) : FB w' b r h := (hg.block b x.lt hne).trans x
theorem own_ge {w : World} {base : Nat} {e : TypeId} {size : Nat} {v : Value} {n : Nat} {xs : List Value} (h : w.ownsRow base e size v n xs) : ∀ g, v.ownBlock = some g → base ≤ g := by
  intro g hg
  rcases h.2 with ⟨rfl, _⟩ | ⟨g', cap, cur, rfl, hb, _⟩
  · simp [Value.ownBlock] at hg
  · simp [Value.ownBlock] at hg; omega
theorem bel_row {w0 w w' : World} {row : Option Nat} (h : Below w0.heap.size w0 w) (hg : w.grownBy w' row) (hr : ∀ g, row = some g → w0.heap.size ≤ g) : Below w0.heap.size w0 w' := h.grown hg h.size hr

set_option maxHeartbeats 2000000 in
set_option maxRecDepth 100000 in
theorem mc_y (r h : Int) (A : Option Addr) (len cap : Nat) (z : Nat → Int) (B : Option Addr) (n c : Nat) (y : Nat → Int) (t u : Int) (w : World) (hl : len ≤ 9223372036854775807) (hn : n ≤ 9223372036854775807) (hR : RZ w A len z) (hY : RB w B n y) (hv : vF r h = true) (hc : cuB z len 700 = true) :
    Calls Try.prog 6 #[.agg #[.int .i64 r, .int .i64 h], .slice A len cap, .slice B n c, .int .i64 t, .int .i64 u] w fun e w' => e = .returned (.bool true) ∧ Below w.heap.size w w' := by
  have HR := Lib.hid hR
  clear hR
  have HY := Lib.hid hY
  clear hY
  obtain ⟨i0, hi, hz0, hz1, hz2⟩ := info_parts infoInt
  have HI := Lib.hid hi
  have HZ0 := Lib.hid hz0
  have HZ1 := Lib.hid hz1
  have HZ2 := Lib.hid hz2
  clear hi hz0 hz1 hz2
  go_enter Try.func6, Try.ntmps6
  go_wp2_with fail
  refine (head_any _).mono ?_
  rintro e w1 ⟨rfl, hb⟩
  have mf := (FB.new w r h).keep hb
  obtain ⟨c0, c1⟩ := mf.cells
  have h0 := bel_step (bel_alloc (Below.refl w.heap.size w) _) hb
  clear hb
  go_wp2_with (go_at_call 18; refine (currents_any A len cap z 700 _ hl (HR.out.keep h0)).mono ?_; rintro e w3 ⟨rfl, rfl⟩; rw [hc])
  all_goals first
    | (go_ret; exact ⟨rfl, h0⟩)
    | skip
  have hlen : len ≤ 10000 := by omega
  have hmore : len ≤ n := by omega
  have hpos : 0 < len := by
    rcases Nat.eq_zero_or_pos len with hz | hz
    · subst hz; simp_all
    · exact hz
  have ht0 : 0 ≤ t := by omega
  have ht1 : t ≤ 1000000000 := by omega
  have hu0 : 0 ≤ u := by omega
  have hu1 : u ≤ 1000000000 := by omega
  have hcb := (cuB_iff.1 hc).1
  have HC := Lib.hid hcb
  have hRw := Lib.hid (HR.out.keep h0)
  have hYw := Lib.hid (HY.out.keep h0)
  clear hcb c0 c1
  go_loopw [12, 13] (fun l i wr => ∃ k : Nat, k ≤ len ∧ i = .int .i64 k ∧ wr.ownsRow w1.heap.size 3 1 l k (nums (fun i => z i + y i) k) ∧ Below w1.heap.size w1 wr) (fun _ i _ => len - (intOf i).toNat)
  case atStart => exact ⟨0, Nat.zero_le _, rfl, World.ownsRow_nil _ _ _ _, Below.refl _ _⟩
  case round =>
    obtain ⟨k, hk, rfl, hown, hbw⟩ := hrel
    have hwb := hbw.size
    have hwl := mf.lt
    by_cases hlt : k < len
    · obtain ⟨b, o, rfl, hb, hc1⟩ := (hRw.out.keep hbw) k hlt
      obtain ⟨b', o', rfl, hb', hc2, hyk⟩ := (hYw.out.keep hbw) k (by omega)
      have hzk := HC.out k hlt
      have i1 : (0 : Int) ≤ (k : Int) := by omega
      have i2 : (k : Int) < (len : Int) := by omega
      have i3 : (k : Int) < (n : Int) := by omega
      have u0 : IntKind.i64.wrap (y k) = y k := IntWalk.i64_in _ (by omega)
      have u1 : IntKind.i64.wrap (z k + y k) = z k + y k := IntWalk.i64_in _ (by omega)
      go_wp2_with fail
      go_region_held3 (fun w' => w'.cell? ⟨b, o + k, none⟩ = some (.int .i64 (z k)) ∧ w'.cell? ⟨b', o' + k, none⟩ = some (.int .u8 (y k))) (first | go_keep | exact ⟨cA, cB⟩)
        (first
          | (refine step_app _ (by rfl) (.tmp 66) (.tmp 77) 24 (by rfl) w1.heap.size 3 i0 _ 1 8 Try.underlying24 HI.out HZ0.out HZ1.out HZ2.out (by rfl) (by omega) u12 k _ (by rfl) (by first | exact hown.alloc _ | exact (hown.alloc _).drew) ⟨wr.heap.size, 0, none⟩ 1 1 [.int .i64 (z k + y k)] (by rfl) (by rfl) (World.news_of_block (heap_alloc_new wr _)) (by simp [Value.oneCell']) (k + 1) (by omega) (by omega) (by unfold maxLen; omega) (by omega) (by simp; omega) ?_; intro g1 cap1 wA hown1 hgrow1 hg1 hlt1; have h4 : Below w1.heap.size w1 wA := (by have q := bel_alloc hbw (.cells #[.int .i64 (z k + y k)] 3); exact (q.drew).grown hgrow1 q.size (own_ge hown)); have cA : wA.cell? ⟨b, o + k, none⟩ = some (.int .i64 (z k)) := RZ_at hRw.out h4 hlt; have cB : wA.cell? ⟨b', o' + k, none⟩ = some (.int .u8 (y k)) := RB_at hYw.out h4 (by omega)))
      go_wp2_with fail
      go_roundw
      case rel => exact ⟨k + 1, by omega, by go_num, by rw [nums_succ]; exact hown1, h4⟩
      case measure => simp [intOf] <;> omega
    · obtain rfl : k = len := by omega
      obtain ⟨g, cap2, rfl, hgb, hgl⟩ := hown.form hpos
      have hRl := RZ_own hown
      obtain ⟨b, o, rfl, hb, hcz⟩ := hRw.out 0 hpos
      obtain ⟨b', o', rfl, hb', hcy, hy0⟩ := hYw.out 0 (by omega)
      have hz0 := HC.out 0 hpos
      clear hcz hcy
      have hzy : ∀ i, i < k → 0 ≤ z i + y i ∧ z i + y i ≤ 1000 := fun i hi => by
        have h1 := HC.out i hi
        obtain ⟨_, _, _, _, _, h2⟩ := hYw.out i (by omega)
        omega
      have hyn : ∀ i, i < k → 0 ≤ y i := fun i hi => by
        obtain ⟨_, _, _, _, _, h2⟩ := hYw.out i (by omega)
        omega
      have ha1 : allB z k = true := allB_iff.2 fun i hi => by have := HC.out i hi; omega
      have ha2 : allB (fun i => z i + y i) k = true := allB_iff.2 hzy
      have hmm := mt_mono (r := r) (h := h) (z := z) (y := fun i => z i + y i) (k := k) fun i hi => ⟨(HC.out i hi).1, by have := hyn i hi; omega⟩
      obtain ⟨m1, hm1⟩ : ∃ m, mt r h z k = m := ⟨_, rfl⟩
      obtain ⟨m2, hm2⟩ : ∃ m, mt r h (fun i => z i + y i) k = m := ⟨_, rfl⟩
      rw [hm1, hm2] at hmm
      have HM1 := Lib.hid hm1
      have HM2 := Lib.hid hm2
      have HMM := Lib.hid hmm
      clear hm1 hm2 hmm hzy hyn
      have hnn : nE r h t (z 0) ≠ 0 ∨ nE r h (t + u) (z 0 + y 0) ≠ 0 ∨ nV r h t (z 0) ≤ nV r h (t + u) (z 0 + y 0) := by
        by_cases e1 : nE r h t (z 0) = 0
        · by_cases e2 : nE r h (t + u) (z 0 + y 0) = 0
          · refine .inr (.inr ?_)
            simp only [nV, if_pos e1, if_pos e2]
            exact nH_mono ht0 (by omega) (mo_mono hz0.1 (by omega))
          · exact .inr (.inl e2)
        · exact .inl e1
      obtain ⟨e1, he1⟩ : ∃ e, nE r h t (z 0) = e := ⟨_, rfl⟩
      obtain ⟨e2, he2⟩ : ∃ e, nE r h (t + u) (z 0 + y 0) = e := ⟨_, rfl⟩
      obtain ⟨v1, hv1⟩ : ∃ e, nV r h t (z 0) = e := ⟨_, rfl⟩
      obtain ⟨v2, hv2⟩ : ∃ e, nV r h (t + u) (z 0 + y 0) = e := ⟨_, rfl⟩
      rw [he1, he2, hv1, hv2] at hnn
      have HE1 := Lib.hid he1
      have HE2 := Lib.hid he2
      have HV1 := Lib.hid hv1
      have HV2 := Lib.hid hv2
      have HNN := Lib.hid hnn
      clear he1 he2 hv1 hv2 hnn
      obtain ⟨c0, c1⟩ := (mf.keep hbw).cells
      go_wp2_with fail
      refine (melts_ok r h (some ⟨b, o, none⟩) k cap z _ hlen (hRw.out.keep hbw) hv ha1).mono ?_
      rintro e w4 ⟨rfl, hb4⟩
      have h4 := bel_step hbw hb4
      clear c0 c1
      obtain ⟨c0, c1⟩ := (mf.keep h4).cells
      go_wp2_with fail
      refine (melts_ok r h (some ⟨g, 0, none⟩) k cap2 (fun i => z i + y i) _ hlen (hRl.keep hb4) hv ha2).mono ?_
      rintro e w5 ⟨rfl, hb5⟩
      have h5 := bel_step h4 hb5
      have k5 := bel_step hb4 hb5
      clear c0 c1
      obtain ⟨c0, c1⟩ := (mf.keep h5).cells
      have q1 : w5.cell? ⟨b, o, none⟩ = some (.int .i64 (z 0)) := RZ_at hRw.out h5 hpos
      have q2 : w5.cell? ⟨g, 0, none⟩ = some (.int .i64 (z 0 + y 0)) := RZ_at hRl k5 hpos
      have u1 : IntKind.i64.wrap (t + u) = t + u := IntWalk.i64_in _ (by omega)
      have i1 : (0 : Int) < (k : Int) := by omega
      have HRl := Lib.hid hRl
      have HB5 := Lib.hid k5
      clear hb4 hb5 hRl k5
      go_wp2_with fail
      rw [HM1.out, HM2.out]
      go_region_held3 (fun w' => w'.cell? ⟨w.heap.size, 0, none⟩ = some (.int .i64 r) ∧ w'.cell? ⟨w.heap.size, 1, none⟩ = some (.int .i64 h) ∧ w'.cell? ⟨b, o, none⟩ = some (.int .i64 (z 0))) (first | go_keep | exact ⟨d0, d1, d2⟩)
        (first
          | (go_at_call 11; refine (next_any r h t (z 0) _).mono ?_; rintro e w6 ⟨rfl, hb6⟩; have h6 : Below w1.heap.size w1 w6 := bel_step (by repeat (first | exact h5 | apply Below.drew)) hb6; have k6 : Below wr.heap.size wr w6 := bel_step (by repeat (first | exact HB5.out | apply Below.drew)) hb6; clear hb6; obtain ⟨d0, d1⟩ := (mf.keep h6).cells; have d2 : w6.cell? ⟨b, o, none⟩ = some (.int .i64 (z 0)) := RZ_at hRw.out h6 hpos; have d3 : w6.cell? ⟨g, 0, none⟩ = some (.int .i64 (z 0 + y 0)) := RZ_at HRl.out k6 hpos; rw [HV1.out, HE1.out]))
      go_wp2_with fail
      clear c0 c1 q1 q2 d2
      go_region_held3 (fun w' => w'.cell? ⟨w.heap.size, 0, none⟩ = some (.int .i64 r) ∧ w'.cell? ⟨w.heap.size, 1, none⟩ = some (.int .i64 h) ∧ w'.cell? ⟨g, 0, none⟩ = some (.int .i64 (z 0 + y 0))) (first | go_keep | exact ⟨x0, x1, x3⟩)
        (first
          | (go_at_call 11; refine (next_any r h (t + u) (z 0 + y 0) _).mono ?_; rintro e w7 ⟨rfl, hb7⟩; have h7 : Below w1.heap.size w1 w7 := bel_step (by repeat (first | exact h6 | apply Below.drew)) hb7; have k7 : Below wr.heap.size wr w7 := bel_step (by repeat (first | exact k6 | apply Below.drew)) hb7; clear hb7; obtain ⟨x0, x1⟩ := (mf.keep h7).cells; have x3 : w7.cell? ⟨g, 0, none⟩ = some (.int .i64 (z 0 + y 0)) := RZ_at HRl.out k7 hpos; rw [HV2.out, HE2.out]))
      have h8 := bel_step h0 h7
      clear d0 d1 d3 x0 x1 x3
      have hnn := HNN.out
      rcases HMM.out with hmm | hmm
      · subst hmm
        by_cases hx1 : e1 = 0
        · subst hx1
          by_cases hx2 : e2 = 0
          · subst hx2
            have hle : v1 ≤ v2 := by omega
            clear hnn
            go_wp2_with fail
            go_ret
            exact ⟨rfl, h8⟩
          · have s2 : (e2 != 0) = true := by simpa using hx2
            clear hnn hx2
            go_wp2_with fail
            go_ret
            exact ⟨rfl, h8⟩
        · have s1 : (e1 != 0) = true := by simpa using hx1
          clear hnn hx1
          go_wp2_with fail
          go_ret
          exact ⟨rfl, h8⟩
      · have s3 : (m1 == (-1 : Int)) = false := by simp; omega
        by_cases hx1 : e1 = 0
        · subst hx1
          by_cases hx2 : e2 = 0
          · subst hx2
            have hle : v1 ≤ v2 := by omega
            clear hnn
            go_wp2_with fail
            go_ret
            exact ⟨rfl, h8⟩
          · have s2 : (e2 != 0) = true := by simpa using hx2
            clear hnn hx2
            go_wp2_with fail
            go_ret
            exact ⟨rfl, h8⟩
        · have s1 : (e1 != 0) = true := by simpa using hx1
          clear hnn hx1
          go_wp2_with fail
          go_ret
          exact ⟨rfl, h8⟩

set_option maxHeartbeats 2000000 in
set_option maxRecDepth 100000 in
theorem mc_n (r h : Int) (A : Option Addr) (len cap : Nat) (z : Nat → Int) (B : Option Addr) (n c : Nat) (y : Nat → Int) (t u : Int) (w : World) (hl : len ≤ 9223372036854775807) (hn : n ≤ 9223372036854775807) (hR : RZ w A len z) (hY : RB w B n y) (hv : vF r h = false) (hc : cuB z len 700 = true) :
    Calls Try.prog 6 #[.agg #[.int .i64 r, .int .i64 h], .slice A len cap, .slice B n c, .int .i64 t, .int .i64 u] w fun e w' => e = .returned (.bool true) ∧ Below w.heap.size w w' := by
  have HR := Lib.hid hR
  clear hR
  have HY := Lib.hid hY
  clear hY
  obtain ⟨i0, hi, hz0, hz1, hz2⟩ := info_parts infoInt
  have HI := Lib.hid hi
  have HZ0 := Lib.hid hz0
  have HZ1 := Lib.hid hz1
  have HZ2 := Lib.hid hz2
  clear hi hz0 hz1 hz2
  go_enter Try.func6, Try.ntmps6
  go_wp2_with fail
  refine (head_any _).mono ?_
  rintro e w1 ⟨rfl, hb⟩
  have mf := (FB.new w r h).keep hb
  obtain ⟨c0, c1⟩ := mf.cells
  have h0 := bel_step (bel_alloc (Below.refl w.heap.size w) _) hb
  clear hb
  go_wp2_with (go_at_call 18; refine (currents_any A len cap z 700 _ hl (HR.out.keep h0)).mono ?_; rintro e w3 ⟨rfl, rfl⟩; rw [hc])
  all_goals first
    | (go_ret; exact ⟨rfl, h0⟩)
    | skip
  have hlen : len ≤ 10000 := by omega
  have hmore : len ≤ n := by omega
  have hpos : 0 < len := by
    rcases Nat.eq_zero_or_pos len with hz | hz
    · subst hz; simp_all
    · exact hz
  have ht0 : 0 ≤ t := by omega
  have ht1 : t ≤ 1000000000 := by omega
  have hu0 : 0 ≤ u := by omega
  have hu1 : u ≤ 1000000000 := by omega
  have hcb := (cuB_iff.1 hc).1
  have HC := Lib.hid hcb
  have hRw := Lib.hid (HR.out.keep h0)
  have hYw := Lib.hid (HY.out.keep h0)
  clear hcb c0 c1
  go_loopw [12, 13] (fun l i wr => ∃ k : Nat, k ≤ len ∧ i = .int .i64 k ∧ wr.ownsRow w1.heap.size 3 1 l k (nums (fun i => z i + y i) k) ∧ Below w1.heap.size w1 wr) (fun _ i _ => len - (intOf i).toNat)
  case atStart => exact ⟨0, Nat.zero_le _, rfl, World.ownsRow_nil _ _ _ _, Below.refl _ _⟩
  case round =>
    obtain ⟨k, hk, rfl, hown, hbw⟩ := hrel
    have hwb := hbw.size
    have hwl := mf.lt
    by_cases hlt : k < len
    · obtain ⟨b, o, rfl, hb, hc1⟩ := (hRw.out.keep hbw) k hlt
      obtain ⟨b', o', rfl, hb', hc2, hyk⟩ := (hYw.out.keep hbw) k (by omega)
      have hzk := HC.out k hlt
      have i1 : (0 : Int) ≤ (k : Int) := by omega
      have i2 : (k : Int) < (len : Int) := by omega
      have i3 : (k : Int) < (n : Int) := by omega
      have u0 : IntKind.i64.wrap (y k) = y k := IntWalk.i64_in _ (by omega)
      have u1 : IntKind.i64.wrap (z k + y k) = z k + y k := IntWalk.i64_in _ (by omega)
      go_wp2_with fail
      go_region_held3 (fun w' => w'.cell? ⟨b, o + k, none⟩ = some (.int .i64 (z k)) ∧ w'.cell? ⟨b', o' + k, none⟩ = some (.int .u8 (y k))) (first | go_keep | exact ⟨cA, cB⟩)
        (first
          | (refine step_app _ (by rfl) (.tmp 66) (.tmp 77) 24 (by rfl) w1.heap.size 3 i0 _ 1 8 Try.underlying24 HI.out HZ0.out HZ1.out HZ2.out (by rfl) (by omega) u12 k _ (by rfl) (by first | exact hown.alloc _ | exact (hown.alloc _).drew) ⟨wr.heap.size, 0, none⟩ 1 1 [.int .i64 (z k + y k)] (by rfl) (by rfl) (World.news_of_block (heap_alloc_new wr _)) (by simp [Value.oneCell']) (k + 1) (by omega) (by omega) (by unfold maxLen; omega) (by omega) (by simp; omega) ?_; intro g1 cap1 wA hown1 hgrow1 hg1 hlt1; have h4 : Below w1.heap.size w1 wA := (by have q := bel_alloc hbw (.cells #[.int .i64 (z k + y k)] 3); exact (q.drew).grown hgrow1 q.size (own_ge hown)); have cA : wA.cell? ⟨b, o + k, none⟩ = some (.int .i64 (z k)) := RZ_at hRw.out h4 hlt; have cB : wA.cell? ⟨b', o' + k, none⟩ = some (.int .u8 (y k)) := RB_at hYw.out h4 (by omega)))
      go_wp2_with fail
      go_roundw
      case rel => exact ⟨k + 1, by omega, by go_num, by rw [nums_succ]; exact hown1, h4⟩
      case measure => simp [intOf] <;> omega
    · obtain rfl : k = len := by omega
      obtain ⟨g, cap2, rfl, hgb, hgl⟩ := hown.form hpos
      have hRl := RZ_own hown
      obtain ⟨b, o, rfl, hb, hcz⟩ := hRw.out 0 hpos
      obtain ⟨b', o', rfl, hb', hcy, hy0⟩ := hYw.out 0 (by omega)
      have hz0 := HC.out 0 hpos
      clear hcz hcy
      have hnn : nE r h t (z 0) ≠ 0 ∨ nE r h (t + u) (z 0 + y 0) ≠ 0 ∨ nV r h t (z 0) ≤ nV r h (t + u) (z 0 + y 0) := .inl fun e => by have := (nE_iff.1 e).1; rw [hv] at this; cases this
      obtain ⟨e1, he1⟩ : ∃ e, nE r h t (z 0) = e := ⟨_, rfl⟩
      obtain ⟨e2, he2⟩ : ∃ e, nE r h (t + u) (z 0 + y 0) = e := ⟨_, rfl⟩
      obtain ⟨v1, hv1⟩ : ∃ e, nV r h t (z 0) = e := ⟨_, rfl⟩
      obtain ⟨v2, hv2⟩ : ∃ e, nV r h (t + u) (z 0 + y 0) = e := ⟨_, rfl⟩
      rw [he1, he2, hv1, hv2] at hnn
      have HE1 := Lib.hid he1
      have HE2 := Lib.hid he2
      have HV1 := Lib.hid hv1
      have HV2 := Lib.hid hv2
      have HNN := Lib.hid hnn
      clear he1 he2 hv1 hv2 hnn
      obtain ⟨c0, c1⟩ := (mf.keep hbw).cells
      go_wp2_with fail
      refine (melts_bad r h (some ⟨b, o, none⟩) k cap z _ hlen (hRw.out.keep hbw) (by rw [hv, Bool.false_and])).mono ?_
      rintro e w4 ⟨rfl, hb4⟩
      have h4 := bel_step hbw hb4
      clear c0 c1
      obtain ⟨c0, c1⟩ := (mf.keep h4).cells
      go_wp2_with fail
      refine (melts_bad r h (some ⟨g, 0, none⟩) k cap2 (fun i => z i + y i) _ hlen (hRl.keep hb4) (by rw [hv, Bool.false_and])).mono ?_
      rintro e w5 ⟨rfl, hb5⟩
      have h5 := bel_step h4 hb5
      have k5 := bel_step hb4 hb5
      clear c0 c1
      obtain ⟨c0, c1⟩ := (mf.keep h5).cells
      have q1 : w5.cell? ⟨b, o, none⟩ = some (.int .i64 (z 0)) := RZ_at hRw.out h5 hpos
      have q2 : w5.cell? ⟨g, 0, none⟩ = some (.int .i64 (z 0 + y 0)) := RZ_at hRl k5 hpos
      have u1 : IntKind.i64.wrap (t + u) = t + u := IntWalk.i64_in _ (by omega)
      have i1 : (0 : Int) < (k : Int) := by omega
      have HRl := Lib.hid hRl
      have HB5 := Lib.hid k5
      clear hb4 hb5 hRl k5
      go_wp2_with fail
      go_region_held3 (fun w' => w'.cell? ⟨w.heap.size, 0, none⟩ = some (.int .i64 r) ∧ w'.cell? ⟨w.heap.size, 1, none⟩ = some (.int .i64 h) ∧ w'.cell? ⟨b, o, none⟩ = some (.int .i64 (z 0))) (first | go_keep | exact ⟨d0, d1, d2⟩)
        (first
          | (go_at_call 11; refine (next_any r h t (z 0) _).mono ?_; rintro e w6 ⟨rfl, hb6⟩; have h6 : Below w1.heap.size w1 w6 := bel_step (by repeat (first | exact h5 | apply Below.drew)) hb6; have k6 : Below wr.heap.size wr w6 := bel_step (by repeat (first | exact HB5.out | apply Below.drew)) hb6; clear hb6; obtain ⟨d0, d1⟩ := (mf.keep h6).cells; have d2 : w6.cell? ⟨b, o, none⟩ = some (.int .i64 (z 0)) := RZ_at hRw.out h6 hpos; have d3 : w6.cell? ⟨g, 0, none⟩ = some (.int .i64 (z 0 + y 0)) := RZ_at HRl.out k6 hpos; rw [HV1.out, HE1.out]))
      go_wp2_with fail
      clear c0 c1 q1 q2 d2
      go_region_held3 (fun w' => w'.cell? ⟨w.heap.size, 0, none⟩ = some (.int .i64 r) ∧ w'.cell? ⟨w.heap.size, 1, none⟩ = some (.int .i64 h) ∧ w'.cell? ⟨g, 0, none⟩ = some (.int .i64 (z 0 + y 0))) (first | go_keep | exact ⟨x0, x1, x3⟩)
        (first
          | (go_at_call 11; refine (next_any r h (t + u) (z 0 + y 0) _).mono ?_; rintro e w7 ⟨rfl, hb7⟩; have h7 : Below w1.heap.size w1 w7 := bel_step (by repeat (first | exact h6 | apply Below.drew)) hb7; have k7 : Below wr.heap.size wr w7 := bel_step (by repeat (first | exact k6 | apply Below.drew)) hb7; clear hb7; obtain ⟨x0, x1⟩ := (mf.keep h7).cells; have x3 : w7.cell? ⟨g, 0, none⟩ = some (.int .i64 (z 0 + y 0)) := RZ_at HRl.out k7 hpos; rw [HV2.out, HE2.out]))
      have h8 := bel_step h0 h7
      clear d0 d1 d3 x0 x1 x3
      have hnn := HNN.out
      by_cases hx1 : e1 = 0
      · subst hx1
        by_cases hx2 : e2 = 0
        · subst hx2
          have hle : v1 ≤ v2 := by omega
          clear hnn
          go_wp2_with fail
          go_ret
          exact ⟨rfl, h8⟩
        · have s2 : (e2 != 0) = true := by simpa using hx2
          clear hnn hx2
          go_wp2_with fail
          go_ret
          exact ⟨rfl, h8⟩
      · have s1 : (e1 != 0) = true := by simpa using hx1
        clear hnn hx1
        go_wp2_with fail
        go_ret
        exact ⟨rfl, h8⟩

set_option maxHeartbeats 2000000 in
set_option maxRecDepth 100000 in
theorem mc_c (r h : Int) (A : Option Addr) (len cap : Nat) (z : Nat → Int) (B : Option Addr) (n c : Nat) (y : Nat → Int) (t u : Int) (w : World) (hl : len ≤ 9223372036854775807) (hn : n ≤ 9223372036854775807) (hR : RZ w A len z) (hY : RB w B n y) (hc : cuB z len 700 = false) :
    Calls Try.prog 6 #[.agg #[.int .i64 r, .int .i64 h], .slice A len cap, .slice B n c, .int .i64 t, .int .i64 u] w fun e w' => e = .returned (.bool true) ∧ Below w.heap.size w w' := by
  have HR := Lib.hid hR
  clear hR
  go_enter Try.func6, Try.ntmps6
  go_wp2_with fail
  refine (head_any _).mono ?_
  rintro e w1 ⟨rfl, hb⟩
  have mf := (FB.new w r h).keep hb
  obtain ⟨c0, c1⟩ := mf.cells
  have h0 := bel_step (bel_alloc (Below.refl w.heap.size w) _) hb
  clear hb
  go_wp2_with (go_at_call 18; refine (currents_any A len cap z 700 _ hl (HR.out.keep h0)).mono ?_; rintro e w3 ⟨rfl, rfl⟩; rw [hc])
  all_goals (go_ret; exact ⟨rfl, h0⟩)
theorem walk_more (r h : Int) (A : Option Addr) (len cap : Nat) (z : Nat → Int) (B : Option Addr) (n c : Nat) (y : Nat → Int) (t u : Int) (w : World) (hl : len ≤ 9223372036854775807) (hn : n ≤ 9223372036854775807) (hR : RZ w A len z) (hY : RB w B n y) :
    Calls Try.prog 6 #[.agg #[.int .i64 r, .int .i64 h], .slice A len cap, .slice B n c, .int .i64 t, .int .i64 u] w fun e w' => e = .returned (.bool true) ∧ Below w.heap.size w w' := by
  cases hc : cuB z len 700
  · exact mc_c r h A len cap z B n c y t u w hl hn hR hY hc
  · cases hv : vF r h
    · exact mc_n r h A len cap z B n c y t u w hl hn hR hY hv hc
    · exact mc_y r h A len cap z B n c y t u w hl hn hR hY hv hc
end Go.Proofs.Ythjclpfddfjfhaa
