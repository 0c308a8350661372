/-
  package limits: choose, and what Rows chooses by.
-/
import Derived.Test.YtkhmlbkkdflnoaaTre3
import Derived.BigQuiet
namespace Go.Proofs.Ytkhmlbkkdflnoaa.Nm
open Go.RowKit Go.Shelf Go.Proofs.Ytkhmlbkkdflnoaa Go
set_option linter.unusedVariables false
attribute [local go_sem ↓] Go.wp_at_zero Go.wp_at_succ

/-- a charger is on the phase p -/
def onPh (z : Int) (p : Nat) : Bool := ((z.toNat >>> p) &&& 1) == 1
set_option maxRecDepth 100000 in
theorem rows1_any (S : Sit) (Bs Ba : Nat) (k p i : Nat) (w : World) (hM : SM5 w S) (hP : SitP S) (hi : i < S.n 3) (hp : p < 3) (hs : w.cell? ⟨Bs, 3, none⟩ = some (.slice (S.A 3) (S.n 3) (S.c 3))) (ha : w.cell? ⟨Ba, 1, none⟩ = some (.int .i64 (p : Int))) :
    Calls Try.prog 77 #[.int .i64 (i : Int), .pointer (some ⟨Bs, 0, none⟩), .pointer (some ⟨Ba, 0, none⟩)] w fun e w' => e = .returned (.bool (onPh (S.Z 3 i 2) p)) ∧ Below w.heap.size w w' := by
  obtain ⟨b, o, hA, hl, _, hz⟩ := hM.rows 3 (by decide) i hi
  have hz2 : w.cell? ⟨b, o + i * 8 + 2, none⟩ = some (.int .i64 (S.Z 3 i 2)) := hz 2 (by decide) (by decide)
  have h7 : 1 ≤ S.Z 3 i 2 ∧ S.Z 3 i 2 ≤ 7 := (hP.chr i hi).1.1
  obtain ⟨z, hzz⟩ : ∃ x, S.Z 3 i 2 = x := ⟨_, rfl⟩
  rw [hzz] at hz2 h7 ⊢
  rw [hA] at hs
  clear hz hM hP hzz hA
  have hz7 : z = 1 ∨ z = 2 ∨ z = 3 ∨ z = 4 ∨ z = 5 ∨ z = 6 ∨ z = 7 := by omega
  have hp3 : p = 0 ∨ p = 1 ∨ p = 2 := by omega
  go_enter Try.func77, Try.ntmps77
  rcases hp3 with rfl | rfl | rfl
  · go_wp2
    go_quiet (fail)
    go_wp2
    go_ret
    refine ⟨?_, below_drewN (Below.refl _ _) _⟩
    rcases hz7 with rfl | rfl | rfl | rfl | rfl | rfl | rfl <;> rfl
  · go_wp2
    go_quiet (fail)
    go_wp2
    go_ret
    refine ⟨?_, below_drewN (Below.refl _ _) _⟩
    rcases hz7 with rfl | rfl | rfl | rfl | rfl | rfl | rfl <;> rfl
  · go_wp2
    go_quiet (fail)
    go_wp2
    go_ret
    refine ⟨?_, below_drewN (Below.refl _ _) _⟩
    rcases hz7 with rfl | rfl | rfl | rfl | rfl | rfl | rfl <;> rfl
theorem take_snoc (p : Nat → Bool) (L : List Nat) (q : Nat) (h : q < L.length) : (L.take (q + 1)).filter p = (L.take q).filter p ++ (if p (L.getD q 0) = true then [L.getD q 0] else []) := by
  have e : L.getD q 0 = L[q] := by simp [List.getD, h]
  rw [List.take_add_one, List.getElem?_eq_getElem h, List.filter_append, e]
  cases hp : p L[q] <;> simp [hp]
/-- a list of numbers -/
def OkS (B : Nat) (L : List Nat) (e : Ending) (w : World) : Prop := ∃ A c, e = .returned (.slice A L.length c) ∧ (L.length ≤ c ∧ c ≤ 9223372036854775807) ∧ RZ w A L.length (fun i => ((L.getD i 0 : Nat) : Int)) ∧ ∀ b o, A = some ⟨b, o, none⟩ → B ≤ b
theorem okS_open {B : Nat} {L : List Nat} {e : Ending} {w : World} (h : OkS B L e w) : ∃ A c, e = .returned (.slice A L.length c) ∧ (L.length ≤ c ∧ c ≤ 9223372036854775807) ∧ RZ w A L.length (fun i => ((L.getD i 0 : Nat) : Int)) ∧ ∀ b o, A = some ⟨b, o, none⟩ → B ≤ b := h
set_option maxRecDepth 100000 in
set_option maxHeartbeats 4000000 in
theorem choose_any (L : List Nat) (A : Option Addr) (c : Nat) (p : Nat → Bool) (Bs Ba : Nat) (w : World) (hL : L.length ≤ 40) (hR : RZ w A L.length (fun i => ((L.getD i 0 : Nat) : Int)))
    (hP : ∀ W i, Below w.heap.size w W → i ∈ L → Calls Try.prog 77 #[.int .i64 ((i : Nat) : Int), .pointer (some ⟨Bs, 0, none⟩), .pointer (some ⟨Ba, 0, none⟩)] W fun e w' => e = .returned (.bool (p i)) ∧ Below W.heap.size W w') :
    Calls Try.prog 76 #[.slice A L.length c, .func (.func 77) #[] #[.pointer (some ⟨Bs, 0, none⟩), .pointer (some ⟨Ba, 0, none⟩)]] w fun e w' => OkS w.heap.size (L.filter p) e w' ∧ Below w.heap.size w w' := by
  obtain ⟨r0, hr, hr0, hr1, hr2⟩ := info_parts infoInt
  have HJ := Lib.hid hr
  have HY0 := Lib.hid hr0
  have HY1 := Lib.hid hr1
  have HY2 := Lib.hid hr2
  have HR := Lib.hid hR
  have HP := Lib.hid hP
  clear hr hr0 hr1 hr2 hR hP
  obtain ⟨n, hn⟩ : ∃ x, L.length = x := ⟨_, rfl⟩
  have HN := Lib.hid hn
  rw [hn] at hL HR ⊢
  clear hn
  obtain ⟨B, hB⟩ : ∃ x, w.heap.size = x := ⟨_, rfl⟩
  have HBB : Hid (w.heap.size = B) := Lib.hid hB
  have HN0 : Hid (IR B w ((L.take 0).filter p) (.slice none 0 0) w) := Lib.hid (IR.nil w B)
  clear hB
  go_enter Try.func76, Try.ntmps76
  go_wp2_with fail
  go_loopw [5, 10] (fun v i wr => ∃ q : Nat, q ≤ n ∧ i = .int .i64 q ∧ IR B w ((L.take q).filter p) v wr) (fun v i _ => n - (intOf i).toNat)
  case atStart => exact ⟨0, by omega, rfl, HN0.out⟩
  case round =>
    obtain ⟨wa, hwa⟩ : ∃ x, x = wr := ⟨_, rfl⟩
    subst hwa
    obtain ⟨v, hv⟩ : ∃ x, x = u5 := ⟨_, rfl⟩
    subst hv
    obtain ⟨q, hq, rfl, hir⟩ := hrel
    have HK := Lib.hid hir
    have HBw : Hid (Below w.heap.size w wa) := Lib.hid (by rw [HBB.out]; exact hir.2)
    have hsz : B ≤ wa.heap.size := by have := HBw.out.size; have := HBB.out; omega
    have hfl : ((L.take q).filter p).length ≤ q := by
      have h1 := List.length_filter_le p (L.take q)
      have h2 := List.length_take_le q L
      omega
    clear hir HN0
    by_cases hlt : q < n
    · obtain ⟨b, o, rfl, hl, h0⟩ := (HR.out.keep HBw.out) q hlt
      obtain ⟨m, hm⟩ : ∃ x, L.getD q 0 = x := ⟨_, rfl⟩
      have HFS := Lib.hid (take_snoc p L q (by rw [HN.out]; exact hlt))
      have hmem : m ∈ L := by rw [← hm]; simp [List.getD, show q < L.length by rw [HN.out]; exact hlt]
      have HC := Lib.hid (HP.out wa m HBw.out hmem)
      have h0' : wa.cell? ⟨b, o + q, none⟩ = some (.int .i64 ((m : Nat) : Int)) := by rw [h0, ← hm]
      rw [hm] at HFS
      clear hm hmem h0
      cases hpm : p m
      · rw [hpm] at HC HFS
        have hfs : Hid ((L.take (q + 1)).filter p = (L.take q).filter p) := Lib.hid (by have := HFS.out; simpa using this)
        go_wp2_with (go_at_call 77; with_reducible refine HC.out.mono ?_; rintro e w2 ⟨rfl, hb2⟩)
        all_goals (try (exfalso; omega))
        go_roundw
        case rel => exact ⟨q + 1, by omega, by go_num, by rw [hfs.out]; exact HK.out.keep hsz hb2⟩
        case measure => simp [intOf] <;> omega
      · rw [hpm] at HC HFS
        have hfs : Hid ((L.take (q + 1)).filter p = (L.take q).filter p ++ [m]) := Lib.hid (by have := HFS.out; simpa using this)
        go_upto_region 6 with (go_at_call 77; with_reducible refine HC.out.mono ?_; rintro e w2 ⟨rfl, hb2⟩)
        all_goals (try (exfalso; omega))
        have HK2 := Lib.hid (HK.out.keep hsz hb2)
        have hs2 : B ≤ w2.heap.size := Nat.le_trans hsz hb2.size
        clear hb2 h0'
        go_wp2_with (at_builtin; refine wpList_append_lies _ rfl (.tmp 17) (.tmp 19) 46 rfl B 3 r0 _ 1 8 Try.underlying46 HJ.out HY0.out HY1.out HY2.out rfl (by omega) v _ _ rfl (HK2.out.1.alloc _) ⟨w2.heap.size, 0, none⟩ 1 1 [.int .i64 (m : Int)] rfl rfl (World.news_of_block (heap_alloc_new w2 _)) (by simp [Value.oneCell']) (by omega) (by unfold maxLen; omega) (by omega) (by simp; omega) (w2.heap.size + 1) (by simp) ?_; intro g cap wB hown hgrow hat hlt1)
        all_goals (try (exfalso; omega))
        go_roundw
        case rel => exact ⟨q + 1, by omega, by go_num, by rw [hfs.out]; exact HK2.out.step hs2 hown hgrow⟩
        case measure => simp [intOf] <;> omega
    · obtain rfl : q = n := by omega
      have hfull : (L.take q).filter p = L.filter p := by rw [← HN.out, List.take_length]
      rw [hfull] at HK
      go_wp2_with fail
      all_goals (try (exfalso; omega))
      obtain ⟨A', cc, rfl, hcc, hRZ⟩ := HK.out.rz
      go_ret
      exact ⟨⟨A', cc, rfl, hcc, hRZ, fun b o e => by subst e; have h1 := (HK.out.1.lt b rfl).1; have h3 := HBB.out; omega⟩, HBw.out⟩
end Go.Proofs.Ytkhmlbkkdflnoaa.Nm
