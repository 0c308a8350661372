/-
  THE WALKS OF THE SIX LAWS over package pilot, and the plain facts that they rest on.
-/
import Derived.Test.YtjdmdhjincgdaaaDoorWalks
namespace Go.Proofs.YtjdmdhjincgdaaaDoor
open Go.RowKit

/-- w holds the table, and nothing that w0 had has changed in it -/
def Ok (w0 w : World) : Prop := Tab w ∧ Below w0.heap.size w0 w
theorem Ok.step {w0 w w' : World} (h : Ok w0 w) (hb : Below w.heap.size w w') : Ok w0 w' := ⟨h.1.keep hb, h.2.trans (hb.mono h.2.size)⟩
theorem Ok.first {w : World} (h : Tab w) : Ok w w := ⟨h, Below.refl _ _⟩

def duL (x : Int) : Int := if duE x = 0 then duN x else -1
def amL (x : Int) : Int := if amE x = 0 then amN x else -1

theorem duty_ok (x : Int) (w0 w : World) (h : Ok w0 w) :
    Calls Tryd.prog 10 #[.int .i64 x] w fun e w' => e = .returned (.tuple #[.int .i64 (duN x), .int .i64 (duE x)]) ∧ Ok w0 w' :=
  (duty_any x w h.1).mono fun _ _ ⟨he, hb⟩ => ⟨he, h.step hb⟩
theorem amps_ok (x : Int) (w0 w : World) (h : Ok w0 w) :
    Calls Tryd.prog 12 #[.int .i64 x] w fun e w' => e = .returned (.tuple #[.int .i64 (amN x), .int .i64 (amE x)]) ∧ Ok w0 w' :=
  (amps_any x w h.1).mono fun _ _ ⟨he, hb⟩ => ⟨he, h.step hb⟩

set_option maxHeartbeats 400000 in
theorem dutyL (x : Int) (w0 w : World) (h : Ok w0 w) :
    Calls Tryd.prog 15 #[.int .i64 x] w fun e w' => e = .returned (.int .i64 (duL x)) ∧ Ok w0 w' := by
  by_cases he : duE x = 0
  · have hv : Hid (duN x = duL x) := by show duN x = duL x; unfold duL; rw [if_pos he]
    go_enter Tryd.func15, Tryd.ntmps15
    go_wp2_with fail
    refine (duty_ok x w0 _ h).mono ?_
    rintro e w1 ⟨rfl, h1⟩
    rw [he]
    go_wp2
    go_ret
    exact ⟨ret_int hv.out, h1⟩
  · have hv : Hid (-1 = duL x) := by show -1 = duL x; unfold duL; rw [if_neg he]
    have he' : (duE x != 0) = true := by simpa using he
    have he2 : (duE x == 0) = false := by simpa using he
    go_enter Tryd.func15, Tryd.ntmps15
    go_wp2_with fail
    refine (duty_ok x w0 _ h).mono ?_
    rintro e w1 ⟨rfl, h1⟩
    go_wp2
    go_ret
    exact ⟨ret_int hv.out, h1⟩

set_option maxHeartbeats 400000 in
theorem ampsL (x : Int) (w0 w : World) (h : Ok w0 w) :
    Calls Tryd.prog 16 #[.int .i64 x] w fun e w' => e = .returned (.int .i64 (amL x)) ∧ Ok w0 w' := by
  by_cases he : amE x = 0
  · have hv : Hid (amN x = amL x) := by show amN x = amL x; unfold amL; rw [if_pos he]
    go_enter Tryd.func16, Tryd.ntmps16
    go_wp2_with fail
    refine (amps_ok x w0 _ h).mono ?_
    rintro e w1 ⟨rfl, h1⟩
    rw [he]
    go_wp2
    go_ret
    exact ⟨ret_int hv.out, h1⟩
  · have hv : Hid (-1 = amL x) := by show -1 = amL x; unfold amL; rw [if_neg he]
    have he' : (amE x != 0) = true := by simpa using he
    have he2 : (amE x == 0) = false := by simpa using he
    go_enter Tryd.func16, Tryd.ntmps16
    go_wp2_with fail
    refine (amps_ok x w0 _ h).mono ?_
    rintro e w1 ⟨rfl, h1⟩
    go_wp2
    go_ret
    exact ⟨ret_int hv.out, h1⟩

set_option maxHeartbeats 400000 in
theorem refDuty (x : Int) (w : World) :
    Calls Tryd.prog 11 #[.int .i64 x] w fun e w' => e = .returned (.tuple #[.int .i64 (duN x), .int .i64 (duE x)]) ∧ w = w' := by
  by_cases h0 : x = 0
  · subst h0
    go_enter Tryd.func11, Tryd.ntmps11
    go_wp2
    go_ret2
    exact ⟨ret_two (by simp [duN]) (by simp [duE]), rfl⟩
  · have h0' : (x == 0) = false := by simpa using h0
    by_cases h6 : 6 ≤ x
    · have h6' : decide (6 ≤ x) = true := by simpa using h6
      by_cases h80 : x ≤ 80
      · have hE : Hid (0 = duE x) := by show 0 = duE x; unfold duE; rw [if_pos (by omega)]
        by_cases h51 : x ≤ 51
        · have hN : Hid ((x * 1000 + 59) / 60 = duN x) := by show _ = duN x; unfold duN; rw [if_neg h0, if_pos (by omega)]
          go_enter Tryd.func11, Tryd.ntmps11
          go_wp2
          go_ret2
          exact ⟨ret_two hN.out hE.out, rfl⟩
        · by_cases h52 : x = 52
          · subst h52
            go_enter Tryd.func11, Tryd.ntmps11
            go_wp2
            go_ret2
            exact ⟨ret_two (by simp [duN]) (by simp [duE]), rfl⟩
          · have hN : Hid (4 * x + 640 = duN x) := by show _ = duN x; unfold duN; rw [if_neg h0, if_neg (by omega), if_neg h52, if_pos (by omega)]
            have h52' : (x == 52) = false := by simpa using h52
            go_enter Tryd.func11, Tryd.ntmps11
            go_wp2
            go_ret2
            exact ⟨ret_two hN.out hE.out, rfl⟩
      · have hE : Hid (3 = duE x) := by show 3 = duE x; unfold duE; rw [if_neg (by omega)]
        have hN : Hid (0 = duN x) := by show _ = duN x; unfold duN; rw [if_neg h0, if_neg (by omega), if_neg (by omega), if_neg (by omega)]
        go_enter Tryd.func11, Tryd.ntmps11
        go_wp2
        go_ret2
        exact ⟨ret_two hN.out hE.out, rfl⟩
    · have h6' : decide (6 ≤ x) = false := by simpa using h6
      have hE : Hid (3 = duE x) := by show 3 = duE x; unfold duE; rw [if_neg (by omega)]
      have hN : Hid (0 = duN x) := by show _ = duN x; unfold duN; rw [if_neg h0, if_neg (by omega), if_neg (by omega), if_neg (by omega)]
      go_enter Tryd.func11, Tryd.ntmps11
      go_wp2
      go_ret2
      exact ⟨ret_two hN.out hE.out, rfl⟩

set_option maxHeartbeats 400000 in
theorem refAmps (x : Int) (w : World) :
    Calls Tryd.prog 13 #[.int .i64 x] w fun e w' => e = .returned (.tuple #[.int .i64 (amN x), .int .i64 (amE x)]) ∧ w = w' := by
  by_cases h0 : x < 0
  · have h0' : decide (x < 0) = true := by simpa using h0
    have hE : Hid (1 = amE x) := by show 1 = amE x; unfold amE; rw [if_neg (by omega)]
    have hN : Hid (0 = amN x) := by show _ = amN x; unfold amN; rw [if_neg (by omega), if_neg (by omega)]
    go_enter Tryd.func13, Tryd.ntmps13
    go_wp2
    go_ret2
    exact ⟨ret_two hN.out hE.out, rfl⟩
  · have h0' : decide (x < 0) = false := by simpa using h0
    by_cases h9 : 1000 < x
    · have hE : Hid (1 = amE x) := by show 1 = amE x; unfold amE; rw [if_neg (by omega)]
      have hN : Hid (0 = amN x) := by show _ = amN x; unfold amN; rw [if_neg (by omega), if_neg (by omega)]
      go_enter Tryd.func13, Tryd.ntmps13
      go_wp2
      go_ret2
      exact ⟨ret_two hN.out hE.out, rfl⟩
    · have hE : Hid (0 = amE x) := by show 0 = amE x; unfold amE; rw [if_pos (by omega)]
      by_cases h1 : x < 100
      · have h1' : decide (x < 100) = true := by simpa using h1
        have hN : Hid (0 = amN x) := by show _ = amN x; unfold amN; rw [if_neg (by omega), if_neg (by omega)]
        go_enter Tryd.func13, Tryd.ntmps13
        go_wp2
        go_ret2
        exact ⟨ret_two hN.out hE.out, rfl⟩
      · have h1' : decide (x < 100) = false := by simpa using h1
        by_cases h960 : 960 < x
        · have hN : Hid (0 = amN x) := by show _ = amN x; unfold amN; rw [if_neg (by omega), if_neg (by omega)]
          go_enter Tryd.func13, Tryd.ntmps13
          go_wp2
          go_ret2
          exact ⟨ret_two hN.out hE.out, rfl⟩
        · by_cases h850 : x ≤ 850
          · have hN : Hid (x * 60 / 1000 = amN x) := by show _ = amN x; unfold amN; rw [if_pos (by omega)]
            go_enter Tryd.func13, Tryd.ntmps13
            go_wp2
            go_ret2
            exact ⟨ret_two hN.out hE.out, rfl⟩
          · have hN : Hid ((x - 640) / 4 = amN x) := by show _ = amN x; unfold amN; rw [if_neg (by omega), if_pos (by omega)]
            go_enter Tryd.func13, Tryd.ntmps13
            go_wp2
            go_ret2
            exact ⟨ret_two hN.out hE.out, rfl⟩

set_option maxHeartbeats 1000000 in
theorem head_ok (w0 w : World) (h : Ok w0 w) :
    Calls Tryd.prog 9 #[] w fun e w' => e = .returned (.bool true) ∧ Ok w0 w' := by
  have d0 : duL 0 = 1000 := by decide
  have d1 : duL 6 = 100 := by decide
  have d2 : duL 8 = 134 := by decide
  have d3 : duL 16 = 267 := by decide
  have d4 : duL 32 = 534 := by decide
  have d5 : duL 51 = 850 := by decide
  have d6 : duL 52 = 851 := by decide
  have d7 : duL 53 = 852 := by decide
  have d8 : duL 80 = 960 := by decide
  have a0 : amL 99 = 0 := by decide
  have a1 : amL 133 = 7 := by decide
  have a2 : amL 855 = 53 := by decide
  have a3 : amL 961 = 0 := by decide
  have a4 : amL 1000 = 0 := by decide
  have e0 : duE 5 = 3 := by decide
  have e1 : amE 1001 = 1 := by decide
  go_enter Tryd.func9, Tryd.ntmps9
  go_wp2_with (first
    | (go_at_call 15; refine (dutyL _ w0 _ h).mono ?_; rintro e w1 ⟨rfl, h⟩)
    | (go_at_call 16; refine (ampsL _ w0 _ h).mono ?_; rintro e w1 ⟨rfl, h⟩)
    | (go_at_call 10; refine (duty_ok _ w0 _ h).mono ?_; rintro e w1 ⟨rfl, h⟩)
    | (go_at_call 12; refine (amps_ok _ w0 _ h).mono ?_; rintro e w1 ⟨rfl, h⟩))
  go_ret
  exact ⟨rfl, h⟩

/-! ### plain facts -/
def cur (n : Int) : Int := 6 + n % 75
def cyc (n : Int) : Int := 100 + n % 861
theorem cur_bd (n : Int) : 6 ≤ cur n ∧ cur n ≤ 80 := by unfold cur; omega
theorem cyc_bd (n : Int) : 100 ≤ cyc n ∧ cyc n ≤ 960 := by unfold cyc; omega
theorem duL_in {x : Int} (h : 6 ≤ x) (h' : x ≤ 80) : duL x = duN x := by unfold duL duE; rw [if_pos (by rw [if_pos (by omega)])]
theorem amL_in {x : Int} (h : 0 ≤ x) (h' : x ≤ 1000) : amL x = amN x := by unfold amL amE; rw [if_pos (by rw [if_pos (by omega)])]
theorem duN_cases {x : Int} (h : 6 ≤ x) (h' : x ≤ 80) : (x ≤ 51 ∧ duN x = (x * 1000 + 59) / 60) ∨ (x = 52 ∧ duN x = 851) ∨ (53 ≤ x ∧ duN x = 4 * x + 640) := by
  unfold duN
  by_cases h1 : x ≤ 51
  · exact .inl ⟨h1, by rw [if_neg (by omega), if_pos (by omega)]⟩
  · by_cases h2 : x = 52
    · exact .inr (.inl ⟨h2, by rw [if_neg (by omega), if_neg (by omega), if_pos h2]⟩)
    · exact .inr (.inr ⟨by omega, by rw [if_neg (by omega), if_neg (by omega), if_neg h2, if_pos (by omega)]⟩)
theorem amN_cases (x : Int) : ((x < 100 ∨ 960 < x) ∧ amN x = 0) ∨ (100 ≤ x ∧ x ≤ 850 ∧ amN x = x * 60 / 1000) ∨ (851 ≤ x ∧ x ≤ 960 ∧ amN x = (x - 640) / 4) := by
  unfold amN
  by_cases h1 : 100 ≤ x ∧ x ≤ 850
  · exact .inr (.inl ⟨h1.1, h1.2, by rw [if_pos h1]⟩)
  · by_cases h2 : 851 ≤ x ∧ x ≤ 960
    · exact .inr (.inr ⟨h2.1, h2.2, by rw [if_neg h1, if_pos h2]⟩)
    · exact .inl ⟨by omega, by rw [if_neg h1, if_neg h2]⟩
theorem du_range {x : Int} (h : 6 ≤ x) (h' : x ≤ 80) : 100 ≤ duL x ∧ duL x ≤ 960 := by
  rw [duL_in h h']
  rcases duN_cases h h' with ⟨_, e⟩ | ⟨_, e⟩ | ⟨_, e⟩ <;> rw [e] <;> omega
theorem inverse {x : Int} (h : 6 ≤ x) (h' : x ≤ 80) : amL (duL x) = x := by
  have hr := du_range h h'
  rw [amL_in (by omega) (by omega)]
  rw [duL_in h h'] at hr ⊢
  rcases duN_cases h h' with ⟨_, e⟩ | ⟨_, e⟩ | ⟨_, e⟩ <;> rw [e] at hr ⊢ <;> rcases amN_cases _ with ⟨g, f⟩ | ⟨g, g', f⟩ | ⟨g, g', f⟩ <;> rw [f] <;> omega
theorem am_range {d : Int} (h : 100 ≤ d) (h' : d ≤ 960) : 6 ≤ amL d ∧ amL d ≤ 80 := by
  rw [amL_in (by omega) (by omega)]
  rcases amN_cases d with ⟨g, f⟩ | ⟨g, g', f⟩ | ⟨g, g', f⟩ <;> rw [f] <;> omega
theorem greatest {d : Int} (h : 100 ≤ d) (h' : d ≤ 960) : duL (amL d) ≤ d := by
  have hr := am_range h h'
  rw [duL_in hr.1 hr.2]
  rw [amL_in (by omega) (by omega)] at hr ⊢
  rcases amN_cases d with ⟨g, f⟩ | ⟨g, g', f⟩ | ⟨g, g', f⟩ <;> rw [f] at hr ⊢ <;> rcases duN_cases hr.1 hr.2 with ⟨_, e⟩ | ⟨_, e⟩ | ⟨_, e⟩ <;> omega
theorem greater {d k : Int} (h : 100 ≤ d) (h' : d ≤ 960) (hk : amL d < k) (hk' : k ≤ 80) : d < duL k := by
  have hr := am_range h h'
  rw [duL_in (by omega) hk']
  rw [amL_in (by omega) (by omega)] at hr hk
  rcases amN_cases d with ⟨g, f⟩ | ⟨g, g', f⟩ | ⟨g, g', f⟩ <;> rw [f] at hr hk <;> rcases duN_cases (x := k) (by omega) hk' with ⟨_, e⟩ | ⟨_, e⟩ | ⟨_, e⟩ <;> rw [e] <;> omega
theorem du_mono {x y : Int} (h : 6 ≤ x) (hxy : x < y) (h' : y ≤ 80) : duL x < duL y := by
  rw [duL_in h (by omega), duL_in (by omega) h']
  rcases duN_cases h (by omega) with ⟨_, e⟩ | ⟨_, e⟩ | ⟨_, e⟩ <;> rw [e] <;> rcases duN_cases (x := y) (by omega) h' with ⟨_, e'⟩ | ⟨_, e'⟩ | ⟨_, e'⟩ <;> rw [e'] <;> omega
theorem am_mono {d f : Int} (h : 0 ≤ d) (hdf : d ≤ f) (h' : f ≤ 960) : amL d ≤ amL f := by
  rw [amL_in (by omega) (by omega), amL_in (by omega) (by omega)]
  rcases amN_cases d with ⟨g, e⟩ | ⟨g, g', e⟩ | ⟨g, g', e⟩ <;> rw [e] <;> rcases amN_cases f with ⟨k, e'⟩ | ⟨k, k', e'⟩ | ⟨k, k', e'⟩ <;> rw [e'] <;> omega
theorem am_step {d : Int} (h : 100 < d) (h' : d ≤ 960) : amL d - amL (d - 1) ≤ 1 := by
  rw [amL_in (by omega) (by omega), amL_in (by omega) (by omega)]
  rcases amN_cases d with ⟨g, e⟩ | ⟨g, g', e⟩ | ⟨g, g', e⟩ <;> rw [e] <;> rcases amN_cases (d - 1) with ⟨k, e'⟩ | ⟨k, k', e'⟩ | ⟨k, k', e'⟩ <;> rw [e'] <;> omega
theorem am_nonneg {d : Int} (h : 0 ≤ d) (h' : d ≤ 1000) : 0 ≤ amL d ∧ amL d ≤ 80 := by
  rw [amL_in h h']
  rcases amN_cases d with ⟨g, f⟩ | ⟨g, g', f⟩ | ⟨g, g', f⟩ <;> rw [f] <;> omega
theorem am_out {d : Int} (h : 0 ≤ d) (h' : d ≤ 1000) (ho : d < 100 ∨ 960 < d) : amL d = 0 := by
  rw [amL_in h h']
  rcases amN_cases d with ⟨g, f⟩ | ⟨g, g', f⟩ | ⟨g, g', f⟩ <;> rw [f] <;> omega

/-! ### the laws -/
set_option maxHeartbeats 400000 in
theorem curL (n : Int) (w : World) (h0 : 0 ≤ n) (h1 : n ≤ 255) : Calls Tryd.prog 14 #[.int .u8 n] w fun e w' => e = .returned (.int .i64 (cur n)) ∧ w = w' := by
  go_enter Tryd.func14, Tryd.ntmps14
  go_wp2
  go_ret
  exact ⟨rfl, rfl⟩
set_option maxHeartbeats 400000 in
theorem cycL (n : Int) (w : World) (h0 : 0 ≤ n) (h1 : n ≤ 65535) : Calls Tryd.prog 17 #[.int .u16 n] w fun e w' => e = .returned (.int .i64 (cyc n)) ∧ w = w' := by
  go_enter Tryd.func17, Tryd.ntmps17
  go_wp2
  go_ret
  exact ⟨rfl, rfl⟩

set_option maxHeartbeats 1000000 in
theorem walk_matches (n : Int) (w : World) (hT : Tab w) : Calls Tryd.prog 3 #[.int .i64 n] w fun e w' => e = .returned (.bool true) ∧ Ok w w' := by
  have h : Ok w w := Ok.first hT
  go_enter Tryd.func3, Tryd.ntmps3
  go_wp2_with (first
    | (go_at_call 9; refine (head_ok w _ h).mono ?_; rintro e w1 ⟨rfl, h⟩)
    | (go_at_call 15; refine (dutyL _ w _ h).mono ?_; rintro e w1 ⟨rfl, h⟩)
    | (go_at_call 16; refine (ampsL _ w _ h).mono ?_; rintro e w1 ⟨rfl, h⟩)
    | (go_at_call 10; refine (duty_ok _ w _ h).mono ?_; rintro e w1 ⟨rfl, h⟩)
    | (go_at_call 12; refine (amps_ok _ w _ h).mono ?_; rintro e w1 ⟨rfl, h⟩)
    | (go_at_call 11; refine (refDuty _ _).mono ?_; rintro e w1 ⟨rfl, rfl⟩)
    | (go_at_call 13; refine (refAmps _ _).mono ?_; rintro e w1 ⟨rfl, rfl⟩)
    | (go_at_call 14; refine (curL _ _ (by omega) (by omega)).mono ?_; rintro e w1 ⟨rfl, rfl⟩)
    | (go_at_call 17; refine (cycL _ _ (by omega) (by omega)).mono ?_; rintro e w1 ⟨rfl, rfl⟩))
  go_ret
  exact ⟨rfl, h⟩

set_option maxHeartbeats 1000000 in
theorem walk_inverse (n : Int) (w : World) (hT : Tab w) (h0 : 0 ≤ n) (h1 : n ≤ 255) : Calls Tryd.prog 4 #[.int .u8 n] w fun e w' => e = .returned (.bool true) ∧ Ok w w' := by
  have h : Ok w w := Ok.first hT
  have hc := cur_bd n
  have hi : amL (duL (cur n)) = cur n := inverse hc.1 hc.2
  have hr : 0 ≤ duL (cur n) := by have := du_range hc.1 hc.2; omega
  have hz : amL (duL 0) = 0 := by decide
  go_enter Tryd.func4, Tryd.ntmps4
  go_wp2_with (first
    | (go_at_call 9; refine (head_ok w _ h).mono ?_; rintro e w1 ⟨rfl, h⟩)
    | (go_at_call 15; refine (dutyL _ w _ h).mono ?_; rintro e w1 ⟨rfl, h⟩)
    | (go_at_call 16; refine (ampsL _ w _ h).mono ?_; rintro e w1 ⟨rfl, h⟩)
    | (go_at_call 10; refine (duty_ok _ w _ h).mono ?_; rintro e w1 ⟨rfl, h⟩)
    | (go_at_call 12; refine (amps_ok _ w _ h).mono ?_; rintro e w1 ⟨rfl, h⟩)
    | (go_at_call 11; refine (refDuty _ _).mono ?_; rintro e w1 ⟨rfl, rfl⟩)
    | (go_at_call 13; refine (refAmps _ _).mono ?_; rintro e w1 ⟨rfl, rfl⟩)
    | (go_at_call 14; refine (curL _ _ (by omega) (by omega)).mono ?_; rintro e w1 ⟨rfl, rfl⟩)
    | (go_at_call 17; refine (cycL _ _ (by omega) (by omega)).mono ?_; rintro e w1 ⟨rfl, rfl⟩))
  go_ret
  exact ⟨rfl, h⟩

set_option maxHeartbeats 1000000 in
theorem walk_greatest (n : Int) (w : World) (hT : Tab w) (h0 : 0 ≤ n) (h1 : n ≤ 65535) : Calls Tryd.prog 5 #[.int .u16 n] w fun e w' => e = .returned (.bool true) ∧ Ok w w' := by
  have h : Ok w w := Ok.first hT
  have hc := cyc_bd n
  have hr := am_range hc.1 hc.2
  have hg := greatest hc.1 hc.2
  have hr1 : 6 ≤ amL (cyc n) := hr.1
  have hr2 : amL (cyc n) ≤ 80 := hr.2
  have t1 : decide (amL (cyc n) < 6) = false := by simp; omega
  have t2 : decide (80 < amL (cyc n)) = false := by simp; omega
  go_enter Tryd.func5, Tryd.ntmps5
  go_wp2_with (first
    | (go_at_call 9; refine (head_ok w _ h).mono ?_; rintro e w1 ⟨rfl, h⟩)
    | (go_at_call 15; refine (dutyL _ w _ h).mono ?_; rintro e w1 ⟨rfl, h⟩)
    | (go_at_call 16; refine (ampsL _ w _ h).mono ?_; rintro e w1 ⟨rfl, h⟩)
    | (go_at_call 10; refine (duty_ok _ w _ h).mono ?_; rintro e w1 ⟨rfl, h⟩)
    | (go_at_call 12; refine (amps_ok _ w _ h).mono ?_; rintro e w1 ⟨rfl, h⟩)
    | (go_at_call 11; refine (refDuty _ _).mono ?_; rintro e w1 ⟨rfl, rfl⟩)
    | (go_at_call 13; refine (refAmps _ _).mono ?_; rintro e w1 ⟨rfl, rfl⟩)
    | (go_at_call 14; refine (curL _ _ (by omega) (by omega)).mono ?_; rintro e w1 ⟨rfl, rfl⟩)
    | (go_at_call 17; refine (cycL _ _ (by omega) (by omega)).mono ?_; rintro e w1 ⟨rfl, rfl⟩))
  go_loopw [2, 6] (fun r k wr => ∃ j : Int, amL (cyc n) < j ∧ j ≤ 81 ∧ r = .bool false ∧ k = .int .i64 j ∧ Ok w wr) (fun _ k _ => (81 - intOf k).toNat)
  case atStart => exact ⟨_, by omega, by omega, rfl, rfl, h⟩
  case round =>
    obtain ⟨j, hj1, hj2, rfl, rfl, h⟩ := hrel
    by_cases hlt : j ≤ 80
    · have hd := greater hc.1 hc.2 hj1 hlt
      go_wp2_with (go_at_call 15; refine (dutyL _ w _ h).mono ?_; rintro e w1 ⟨rfl, h⟩)
      go_roundw
      case rel => exact ⟨j + 1, by omega, by omega, rfl, rfl, h⟩
      case measure => simp [intOf]; omega
    · go_wp2
      go_ret
      exact ⟨rfl, h⟩

set_option maxHeartbeats 1000000 in
theorem walk_range (n : Int) (w : World) (hT : Tab w) (h0 : 0 ≤ n) (h1 : n ≤ 65535) : Calls Tryd.prog 7 #[.int .u16 n] w fun e w' => e = .returned (.bool true) ∧ Ok w w' := by
  have h : Ok w w := Ok.first hT
  have hd : 0 ≤ n % 1001 ∧ n % 1001 ≤ 1000 := by omega
  by_cases hl : n % 1001 < 100
  · have hl' : decide (n % 1001 < 100) = true := by simpa using hl
    have hz := am_out hd.1 hd.2 (.inl hl)
    go_enter Tryd.func7, Tryd.ntmps7
    go_wp2_with (first
      | (go_at_call 9; refine (head_ok w _ h).mono ?_; rintro e w1 ⟨rfl, h⟩)
      | (go_at_call 15; refine (dutyL _ w _ h).mono ?_; rintro e w1 ⟨rfl, h⟩)
      | (go_at_call 16; refine (ampsL _ w _ h).mono ?_; rintro e w1 ⟨rfl, h⟩)
      | (go_at_call 10; refine (duty_ok _ w _ h).mono ?_; rintro e w1 ⟨rfl, h⟩)
      | (go_at_call 12; refine (amps_ok _ w _ h).mono ?_; rintro e w1 ⟨rfl, h⟩)
      | (go_at_call 11; refine (refDuty _ _).mono ?_; rintro e w1 ⟨rfl, rfl⟩)
      | (go_at_call 13; refine (refAmps _ _).mono ?_; rintro e w1 ⟨rfl, rfl⟩)
      | (go_at_call 14; refine (curL _ _ (by omega) (by omega)).mono ?_; rintro e w1 ⟨rfl, rfl⟩)
      | (go_at_call 17; refine (cycL _ _ (by omega) (by omega)).mono ?_; rintro e w1 ⟨rfl, rfl⟩))
    go_ret
    exact ⟨rfl, h⟩
  · have hl' : decide (n % 1001 < 100) = false := by simpa using hl
    by_cases hh : 960 < n % 1001
    · have hh' : decide (960 < n % 1001) = true := by simpa using hh
      have hz := am_out hd.1 hd.2 (.inr hh)
      go_enter Tryd.func7, Tryd.ntmps7
      go_wp2_with (first
        | (go_at_call 9; refine (head_ok w _ h).mono ?_; rintro e w1 ⟨rfl, h⟩)
        | (go_at_call 15; refine (dutyL _ w _ h).mono ?_; rintro e w1 ⟨rfl, h⟩)
        | (go_at_call 16; refine (ampsL _ w _ h).mono ?_; rintro e w1 ⟨rfl, h⟩)
        | (go_at_call 10; refine (duty_ok _ w _ h).mono ?_; rintro e w1 ⟨rfl, h⟩)
        | (go_at_call 12; refine (amps_ok _ w _ h).mono ?_; rintro e w1 ⟨rfl, h⟩)
        | (go_at_call 11; refine (refDuty _ _).mono ?_; rintro e w1 ⟨rfl, rfl⟩)
        | (go_at_call 13; refine (refAmps _ _).mono ?_; rintro e w1 ⟨rfl, rfl⟩)
        | (go_at_call 14; refine (curL _ _ (by omega) (by omega)).mono ?_; rintro e w1 ⟨rfl, rfl⟩)
        | (go_at_call 17; refine (cycL _ _ (by omega) (by omega)).mono ?_; rintro e w1 ⟨rfl, rfl⟩))
      go_ret
      exact ⟨rfl, h⟩
    · have hh' : decide (960 < n % 1001) = false := by simpa using hh
      have hr := am_range (d := n % 1001) (by omega) (by omega)
      have hr1 : 6 ≤ amL (n % 1001) := hr.1
      have hr2 : amL (n % 1001) ≤ 80 := hr.2
      have t1 : decide (6 ≤ amL (n % 1001)) = true := by simpa using hr1
      clear hr
      go_enter Tryd.func7, Tryd.ntmps7
      go_wp2_with (first
        | (go_at_call 9; refine (head_ok w _ h).mono ?_; rintro e w1 ⟨rfl, h⟩)
        | (go_at_call 15; refine (dutyL _ w _ h).mono ?_; rintro e w1 ⟨rfl, h⟩)
        | (go_at_call 16; refine (ampsL _ w _ h).mono ?_; rintro e w1 ⟨rfl, h⟩)
        | (go_at_call 10; refine (duty_ok _ w _ h).mono ?_; rintro e w1 ⟨rfl, h⟩)
        | (go_at_call 12; refine (amps_ok _ w _ h).mono ?_; rintro e w1 ⟨rfl, h⟩)
        | (go_at_call 11; refine (refDuty _ _).mono ?_; rintro e w1 ⟨rfl, rfl⟩)
        | (go_at_call 13; refine (refAmps _ _).mono ?_; rintro e w1 ⟨rfl, rfl⟩)
        | (go_at_call 14; refine (curL _ _ (by omega) (by omega)).mono ?_; rintro e w1 ⟨rfl, rfl⟩)
        | (go_at_call 17; refine (cycL _ _ (by omega) (by omega)).mono ?_; rintro e w1 ⟨rfl, rfl⟩))
      go_ret
      exact ⟨rfl, h⟩

set_option maxHeartbeats 1000000 in
theorem order_lt_lt (a b c d : Int) (w : World) (hT : Tab w) (a0 : 0 ≤ a) (a1 : a ≤ 255) (b0 : 0 ≤ b) (b1 : b ≤ 255) (c0 : 0 ≤ c) (c1 : c ≤ 65535) (d0 : 0 ≤ d) (d1 : d ≤ 65535) (hx : cur a < cur b) (hy : cyc c < cyc d) :
    Calls Tryd.prog 6 #[.int .u8 a, .int .u8 b, .int .u16 c, .int .u16 d] w fun e w' => e = .returned (.bool true) ∧ Ok w w' := by
  have h : Ok w w := Ok.first hT
  have m1 := du_mono (x := cur a) (by have := cur_bd a; omega) hx (by have := cur_bd b; omega)
  have n1 : (cur a == cur b) = false := by simp; omega
  have n2 : (cur b == cur a) = false := by simp; omega
  have m2 := am_mono (d := cyc c) (by have := cyc_bd c; omega) (Int.le_of_lt hy) (by have := cyc_bd d; omega)
  go_enter Tryd.func6, Tryd.ntmps6
  go_wp2_with (first
    | (go_at_call 9; refine (head_ok w _ h).mono ?_; rintro e w1 ⟨rfl, h⟩)
    | (go_at_call 15; refine (dutyL _ w _ h).mono ?_; rintro e w1 ⟨rfl, h⟩)
    | (go_at_call 16; refine (ampsL _ w _ h).mono ?_; rintro e w1 ⟨rfl, h⟩)
    | (go_at_call 10; refine (duty_ok _ w _ h).mono ?_; rintro e w1 ⟨rfl, h⟩)
    | (go_at_call 12; refine (amps_ok _ w _ h).mono ?_; rintro e w1 ⟨rfl, h⟩)
    | (go_at_call 11; refine (refDuty _ _).mono ?_; rintro e w1 ⟨rfl, rfl⟩)
    | (go_at_call 13; refine (refAmps _ _).mono ?_; rintro e w1 ⟨rfl, rfl⟩)
    | (go_at_call 14; refine (curL _ _ (by omega) (by omega)).mono ?_; rintro e w1 ⟨rfl, rfl⟩)
    | (go_at_call 17; refine (cycL _ _ (by omega) (by omega)).mono ?_; rintro e w1 ⟨rfl, rfl⟩))
  go_ret
  exact ⟨rfl, h⟩
set_option maxHeartbeats 1000000 in
theorem order_lt_eq (a b c d : Int) (w : World) (hT : Tab w) (a0 : 0 ≤ a) (a1 : a ≤ 255) (b0 : 0 ≤ b) (b1 : b ≤ 255) (c0 : 0 ≤ c) (c1 : c ≤ 65535) (d0 : 0 ≤ d) (d1 : d ≤ 65535) (hx : cur a < cur b) (hy : cyc c = cyc d) :
    Calls Tryd.prog 6 #[.int .u8 a, .int .u8 b, .int .u16 c, .int .u16 d] w fun e w' => e = .returned (.bool true) ∧ Ok w w' := by
  have h : Ok w w := Ok.first hT
  have m1 := du_mono (x := cur a) (by have := cur_bd a; omega) hx (by have := cur_bd b; omega)
  have n1 : (cur a == cur b) = false := by simp; omega
  have n2 : (cur b == cur a) = false := by simp; omega
  go_enter Tryd.func6, Tryd.ntmps6
  go_wp2_with (first
    | (go_at_call 9; refine (head_ok w _ h).mono ?_; rintro e w1 ⟨rfl, h⟩)
    | (go_at_call 15; refine (dutyL _ w _ h).mono ?_; rintro e w1 ⟨rfl, h⟩)
    | (go_at_call 16; refine (ampsL _ w _ h).mono ?_; rintro e w1 ⟨rfl, h⟩)
    | (go_at_call 10; refine (duty_ok _ w _ h).mono ?_; rintro e w1 ⟨rfl, h⟩)
    | (go_at_call 12; refine (amps_ok _ w _ h).mono ?_; rintro e w1 ⟨rfl, h⟩)
    | (go_at_call 11; refine (refDuty _ _).mono ?_; rintro e w1 ⟨rfl, rfl⟩)
    | (go_at_call 13; refine (refAmps _ _).mono ?_; rintro e w1 ⟨rfl, rfl⟩)
    | (go_at_call 14; refine (curL _ _ (by omega) (by omega)).mono ?_; rintro e w1 ⟨rfl, rfl⟩)
    | (go_at_call 17; refine (cycL _ _ (by omega) (by omega)).mono ?_; rintro e w1 ⟨rfl, rfl⟩))
  go_ret
  exact ⟨rfl, h⟩
set_option maxHeartbeats 1000000 in
theorem order_lt_gt (a b c d : Int) (w : World) (hT : Tab w) (a0 : 0 ≤ a) (a1 : a ≤ 255) (b0 : 0 ≤ b) (b1 : b ≤ 255) (c0 : 0 ≤ c) (c1 : c ≤ 65535) (d0 : 0 ≤ d) (d1 : d ≤ 65535) (hx : cur a < cur b) (hy : cyc d < cyc c) :
    Calls Tryd.prog 6 #[.int .u8 a, .int .u8 b, .int .u16 c, .int .u16 d] w fun e w' => e = .returned (.bool true) ∧ Ok w w' := by
  have h : Ok w w := Ok.first hT
  have m1 := du_mono (x := cur a) (by have := cur_bd a; omega) hx (by have := cur_bd b; omega)
  have n1 : (cur a == cur b) = false := by simp; omega
  have n2 : (cur b == cur a) = false := by simp; omega
  have m2 := am_mono (d := cyc d) (by have := cyc_bd d; omega) (Int.le_of_lt hy) (by have := cyc_bd c; omega)
  go_enter Tryd.func6, Tryd.ntmps6
  go_wp2_with (first
    | (go_at_call 9; refine (head_ok w _ h).mono ?_; rintro e w1 ⟨rfl, h⟩)
    | (go_at_call 15; refine (dutyL _ w _ h).mono ?_; rintro e w1 ⟨rfl, h⟩)
    | (go_at_call 16; refine (ampsL _ w _ h).mono ?_; rintro e w1 ⟨rfl, h⟩)
    | (go_at_call 10; refine (duty_ok _ w _ h).mono ?_; rintro e w1 ⟨rfl, h⟩)
    | (go_at_call 12; refine (amps_ok _ w _ h).mono ?_; rintro e w1 ⟨rfl, h⟩)
    | (go_at_call 11; refine (refDuty _ _).mono ?_; rintro e w1 ⟨rfl, rfl⟩)
    | (go_at_call 13; refine (refAmps _ _).mono ?_; rintro e w1 ⟨rfl, rfl⟩)
    | (go_at_call 14; refine (curL _ _ (by omega) (by omega)).mono ?_; rintro e w1 ⟨rfl, rfl⟩)
    | (go_at_call 17; refine (cycL _ _ (by omega) (by omega)).mono ?_; rintro e w1 ⟨rfl, rfl⟩))
  go_ret
  exact ⟨rfl, h⟩
set_option maxHeartbeats 1000000 in
theorem order_eq_lt (a b c d : Int) (w : World) (hT : Tab w) (a0 : 0 ≤ a) (a1 : a ≤ 255) (b0 : 0 ≤ b) (b1 : b ≤ 255) (c0 : 0 ≤ c) (c1 : c ≤ 65535) (d0 : 0 ≤ d) (d1 : d ≤ 65535) (hx : cur a = cur b) (hy : cyc c < cyc d) :
    Calls Tryd.prog 6 #[.int .u8 a, .int .u8 b, .int .u16 c, .int .u16 d] w fun e w' => e = .returned (.bool true) ∧ Ok w w' := by
  have h : Ok w w := Ok.first hT
  have m2 := am_mono (d := cyc c) (by have := cyc_bd c; omega) (Int.le_of_lt hy) (by have := cyc_bd d; omega)
  go_enter Tryd.func6, Tryd.ntmps6
  go_wp2_with (first
    | (go_at_call 9; refine (head_ok w _ h).mono ?_; rintro e w1 ⟨rfl, h⟩)
    | (go_at_call 15; refine (dutyL _ w _ h).mono ?_; rintro e w1 ⟨rfl, h⟩)
    | (go_at_call 16; refine (ampsL _ w _ h).mono ?_; rintro e w1 ⟨rfl, h⟩)
    | (go_at_call 10; refine (duty_ok _ w _ h).mono ?_; rintro e w1 ⟨rfl, h⟩)
    | (go_at_call 12; refine (amps_ok _ w _ h).mono ?_; rintro e w1 ⟨rfl, h⟩)
    | (go_at_call 11; refine (refDuty _ _).mono ?_; rintro e w1 ⟨rfl, rfl⟩)
    | (go_at_call 13; refine (refAmps _ _).mono ?_; rintro e w1 ⟨rfl, rfl⟩)
    | (go_at_call 14; refine (curL _ _ (by omega) (by omega)).mono ?_; rintro e w1 ⟨rfl, rfl⟩)
    | (go_at_call 17; refine (cycL _ _ (by omega) (by omega)).mono ?_; rintro e w1 ⟨rfl, rfl⟩))
  go_ret
  exact ⟨rfl, h⟩
set_option maxHeartbeats 1000000 in
theorem order_eq_eq (a b c d : Int) (w : World) (hT : Tab w) (a0 : 0 ≤ a) (a1 : a ≤ 255) (b0 : 0 ≤ b) (b1 : b ≤ 255) (c0 : 0 ≤ c) (c1 : c ≤ 65535) (d0 : 0 ≤ d) (d1 : d ≤ 65535) (hx : cur a = cur b) (hy : cyc c = cyc d) :
    Calls Tryd.prog 6 #[.int .u8 a, .int .u8 b, .int .u16 c, .int .u16 d] w fun e w' => e = .returned (.bool true) ∧ Ok w w' := by
  have h : Ok w w := Ok.first hT
  go_enter Tryd.func6, Tryd.ntmps6
  go_wp2_with (first
    | (go_at_call 9; refine (head_ok w _ h).mono ?_; rintro e w1 ⟨rfl, h⟩)
    | (go_at_call 15; refine (dutyL _ w _ h).mono ?_; rintro e w1 ⟨rfl, h⟩)
    | (go_at_call 16; refine (ampsL _ w _ h).mono ?_; rintro e w1 ⟨rfl, h⟩)
    | (go_at_call 10; refine (duty_ok _ w _ h).mono ?_; rintro e w1 ⟨rfl, h⟩)
    | (go_at_call 12; refine (amps_ok _ w _ h).mono ?_; rintro e w1 ⟨rfl, h⟩)
    | (go_at_call 11; refine (refDuty _ _).mono ?_; rintro e w1 ⟨rfl, rfl⟩)
    | (go_at_call 13; refine (refAmps _ _).mono ?_; rintro e w1 ⟨rfl, rfl⟩)
    | (go_at_call 14; refine (curL _ _ (by omega) (by omega)).mono ?_; rintro e w1 ⟨rfl, rfl⟩)
    | (go_at_call 17; refine (cycL _ _ (by omega) (by omega)).mono ?_; rintro e w1 ⟨rfl, rfl⟩))
  go_ret
  exact ⟨rfl, h⟩
set_option maxHeartbeats 1000000 in
theorem order_eq_gt (a b c d : Int) (w : World) (hT : Tab w) (a0 : 0 ≤ a) (a1 : a ≤ 255) (b0 : 0 ≤ b) (b1 : b ≤ 255) (c0 : 0 ≤ c) (c1 : c ≤ 65535) (d0 : 0 ≤ d) (d1 : d ≤ 65535) (hx : cur a = cur b) (hy : cyc d < cyc c) :
    Calls Tryd.prog 6 #[.int .u8 a, .int .u8 b, .int .u16 c, .int .u16 d] w fun e w' => e = .returned (.bool true) ∧ Ok w w' := by
  have h : Ok w w := Ok.first hT
  have m2 := am_mono (d := cyc d) (by have := cyc_bd d; omega) (Int.le_of_lt hy) (by have := cyc_bd c; omega)
  go_enter Tryd.func6, Tryd.ntmps6
  go_wp2_with (first
    | (go_at_call 9; refine (head_ok w _ h).mono ?_; rintro e w1 ⟨rfl, h⟩)
    | (go_at_call 15; refine (dutyL _ w _ h).mono ?_; rintro e w1 ⟨rfl, h⟩)
    | (go_at_call 16; refine (ampsL _ w _ h).mono ?_; rintro e w1 ⟨rfl, h⟩)
    | (go_at_call 10; refine (duty_ok _ w _ h).mono ?_; rintro e w1 ⟨rfl, h⟩)
    | (go_at_call 12; refine (amps_ok _ w _ h).mono ?_; rintro e w1 ⟨rfl, h⟩)
    | (go_at_call 11; refine (refDuty _ _).mono ?_; rintro e w1 ⟨rfl, rfl⟩)
    | (go_at_call 13; refine (refAmps _ _).mono ?_; rintro e w1 ⟨rfl, rfl⟩)
    | (go_at_call 14; refine (curL _ _ (by omega) (by omega)).mono ?_; rintro e w1 ⟨rfl, rfl⟩)
    | (go_at_call 17; refine (cycL _ _ (by omega) (by omega)).mono ?_; rintro e w1 ⟨rfl, rfl⟩))
  go_ret
  exact ⟨rfl, h⟩
set_option maxHeartbeats 1000000 in
theorem order_gt_lt (a b c d : Int) (w : World) (hT : Tab w) (a0 : 0 ≤ a) (a1 : a ≤ 255) (b0 : 0 ≤ b) (b1 : b ≤ 255) (c0 : 0 ≤ c) (c1 : c ≤ 65535) (d0 : 0 ≤ d) (d1 : d ≤ 65535) (hx : cur b < cur a) (hy : cyc c < cyc d) :
    Calls Tryd.prog 6 #[.int .u8 a, .int .u8 b, .int .u16 c, .int .u16 d] w fun e w' => e = .returned (.bool true) ∧ Ok w w' := by
  have h : Ok w w := Ok.first hT
  have m1 := du_mono (x := cur b) (by have := cur_bd b; omega) hx (by have := cur_bd a; omega)
  have n1 : (cur a == cur b) = false := by simp; omega
  have n2 : (cur b == cur a) = false := by simp; omega
  have m2 := am_mono (d := cyc c) (by have := cyc_bd c; omega) (Int.le_of_lt hy) (by have := cyc_bd d; omega)
  go_enter Tryd.func6, Tryd.ntmps6
  go_wp2_with (first
    | (go_at_call 9; refine (head_ok w _ h).mono ?_; rintro e w1 ⟨rfl, h⟩)
    | (go_at_call 15; refine (dutyL _ w _ h).mono ?_; rintro e w1 ⟨rfl, h⟩)
    | (go_at_call 16; refine (ampsL _ w _ h).mono ?_; rintro e w1 ⟨rfl, h⟩)
    | (go_at_call 10; refine (duty_ok _ w _ h).mono ?_; rintro e w1 ⟨rfl, h⟩)
    | (go_at_call 12; refine (amps_ok _ w _ h).mono ?_; rintro e w1 ⟨rfl, h⟩)
    | (go_at_call 11; refine (refDuty _ _).mono ?_; rintro e w1 ⟨rfl, rfl⟩)
    | (go_at_call 13; refine (refAmps _ _).mono ?_; rintro e w1 ⟨rfl, rfl⟩)
    | (go_at_call 14; refine (curL _ _ (by omega) (by omega)).mono ?_; rintro e w1 ⟨rfl, rfl⟩)
    | (go_at_call 17; refine (cycL _ _ (by omega) (by omega)).mono ?_; rintro e w1 ⟨rfl, rfl⟩))
  go_ret
  exact ⟨rfl, h⟩
set_option maxHeartbeats 1000000 in
theorem order_gt_eq (a b c d : Int) (w : World) (hT : Tab w) (a0 : 0 ≤ a) (a1 : a ≤ 255) (b0 : 0 ≤ b) (b1 : b ≤ 255) (c0 : 0 ≤ c) (c1 : c ≤ 65535) (d0 : 0 ≤ d) (d1 : d ≤ 65535) (hx : cur b < cur a) (hy : cyc c = cyc d) :
    Calls Tryd.prog 6 #[.int .u8 a, .int .u8 b, .int .u16 c, .int .u16 d] w fun e w' => e = .returned (.bool true) ∧ Ok w w' := by
  have h : Ok w w := Ok.first hT
  have m1 := du_mono (x := cur b) (by have := cur_bd b; omega) hx (by have := cur_bd a; omega)
  have n1 : (cur a == cur b) = false := by simp; omega
  have n2 : (cur b == cur a) = false := by simp; omega
  go_enter Tryd.func6, Tryd.ntmps6
  go_wp2_with (first
    | (go_at_call 9; refine (head_ok w _ h).mono ?_; rintro e w1 ⟨rfl, h⟩)
    | (go_at_call 15; refine (dutyL _ w _ h).mono ?_; rintro e w1 ⟨rfl, h⟩)
    | (go_at_call 16; refine (ampsL _ w _ h).mono ?_; rintro e w1 ⟨rfl, h⟩)
    | (go_at_call 10; refine (duty_ok _ w _ h).mono ?_; rintro e w1 ⟨rfl, h⟩)
    | (go_at_call 12; refine (amps_ok _ w _ h).mono ?_; rintro e w1 ⟨rfl, h⟩)
    | (go_at_call 11; refine (refDuty _ _).mono ?_; rintro e w1 ⟨rfl, rfl⟩)
    | (go_at_call 13; refine (refAmps _ _).mono ?_; rintro e w1 ⟨rfl, rfl⟩)
    | (go_at_call 14; refine (curL _ _ (by omega) (by omega)).mono ?_; rintro e w1 ⟨rfl, rfl⟩)
    | (go_at_call 17; refine (cycL _ _ (by omega) (by omega)).mono ?_; rintro e w1 ⟨rfl, rfl⟩))
  go_ret
  exact ⟨rfl, h⟩
set_option maxHeartbeats 1000000 in
theorem order_gt_gt (a b c d : Int) (w : World) (hT : Tab w) (a0 : 0 ≤ a) (a1 : a ≤ 255) (b0 : 0 ≤ b) (b1 : b ≤ 255) (c0 : 0 ≤ c) (c1 : c ≤ 65535) (d0 : 0 ≤ d) (d1 : d ≤ 65535) (hx : cur b < cur a) (hy : cyc d < cyc c) :
    Calls Tryd.prog 6 #[.int .u8 a, .int .u8 b, .int .u16 c, .int .u16 d] w fun e w' => e = .returned (.bool true) ∧ Ok w w' := by
  have h : Ok w w := Ok.first hT
  have m1 := du_mono (x := cur b) (by have := cur_bd b; omega) hx (by have := cur_bd a; omega)
  have n1 : (cur a == cur b) = false := by simp; omega
  have n2 : (cur b == cur a) = false := by simp; omega
  have m2 := am_mono (d := cyc d) (by have := cyc_bd d; omega) (Int.le_of_lt hy) (by have := cyc_bd c; omega)
  go_enter Tryd.func6, Tryd.ntmps6
  go_wp2_with (first
    | (go_at_call 9; refine (head_ok w _ h).mono ?_; rintro e w1 ⟨rfl, h⟩)
    | (go_at_call 15; refine (dutyL _ w _ h).mono ?_; rintro e w1 ⟨rfl, h⟩)
    | (go_at_call 16; refine (ampsL _ w _ h).mono ?_; rintro e w1 ⟨rfl, h⟩)
    | (go_at_call 10; refine (duty_ok _ w _ h).mono ?_; rintro e w1 ⟨rfl, h⟩)
    | (go_at_call 12; refine (amps_ok _ w _ h).mono ?_; rintro e w1 ⟨rfl, h⟩)
    | (go_at_call 11; refine (refDuty _ _).mono ?_; rintro e w1 ⟨rfl, rfl⟩)
    | (go_at_call 13; refine (refAmps _ _).mono ?_; rintro e w1 ⟨rfl, rfl⟩)
    | (go_at_call 14; refine (curL _ _ (by omega) (by omega)).mono ?_; rintro e w1 ⟨rfl, rfl⟩)
    | (go_at_call 17; refine (cycL _ _ (by omega) (by omega)).mono ?_; rintro e w1 ⟨rfl, rfl⟩))
  go_ret
  exact ⟨rfl, h⟩
theorem walk_order (a b c d : Int) (w : World) (hT : Tab w) (a0 : 0 ≤ a) (a1 : a ≤ 255) (b0 : 0 ≤ b) (b1 : b ≤ 255) (c0 : 0 ≤ c) (c1 : c ≤ 65535) (d0 : 0 ≤ d) (d1 : d ≤ 65535) :
    Calls Tryd.prog 6 #[.int .u8 a, .int .u8 b, .int .u16 c, .int .u16 d] w fun e w' => e = .returned (.bool true) ∧ Ok w w' := by
  rcases Int.lt_trichotomy (cur a) (cur b) with hx | hx | hx <;> rcases Int.lt_trichotomy (cyc c) (cyc d) with hy | hy | hy
  · exact order_lt_lt a b c d w hT a0 a1 b0 b1 c0 c1 d0 d1 hx hy
  · exact order_lt_eq a b c d w hT a0 a1 b0 b1 c0 c1 d0 d1 hx hy
  · exact order_lt_gt a b c d w hT a0 a1 b0 b1 c0 c1 d0 d1 hx hy
  · exact order_eq_lt a b c d w hT a0 a1 b0 b1 c0 c1 d0 d1 hx hy
  · exact order_eq_eq a b c d w hT a0 a1 b0 b1 c0 c1 d0 d1 hx hy
  · exact order_eq_gt a b c d w hT a0 a1 b0 b1 c0 c1 d0 d1 hx hy
  · exact order_gt_lt a b c d w hT a0 a1 b0 b1 c0 c1 d0 d1 hx hy
  · exact order_gt_eq a b c d w hT a0 a1 b0 b1 c0 c1 d0 d1 hx hy
  · exact order_gt_gt a b c d w hT a0 a1 b0 b1 c0 c1 d0 d1 hx hy

set_option maxHeartbeats 1000000 in
theorem walk_misread (n m : Int) (w : World) (hT : Tab w) (h0 : 0 ≤ n) (h1 : n ≤ 65535) (m0 : 0 ≤ m) (m1 : m ≤ 65535) :
    Calls Tryd.prog 8 #[.int .u16 n, .int .u16 m] w fun e w' => e = .returned (.bool true) ∧ Ok w w' := by
  have h : Ok w w := Ok.first hT
  have hc := cyc_bd n
  have hc1 : 100 ≤ cyc n := hc.1
  have hc2 : cyc n ≤ 960 := hc.2
  have hm1 : 0 ≤ m % (cyc n + 1) := Int.emod_nonneg _ (by omega)
  have hm2 : m % (cyc n + 1) < cyc n + 1 := Int.emod_lt_of_pos _ (by omega)
  have q1 : 0 ≤ amL (cyc n - m % (cyc n + 1)) := (am_nonneg (by omega) (by omega)).1
  have q2 : amL (cyc n - m % (cyc n + 1)) ≤ amL (cyc n) := am_mono (by omega) (by omega) (by omega)
  have q1' : decide (0 ≤ amL (cyc n - m % (cyc n + 1))) = true := by simpa using q1
  have q2' : decide (amL (cyc n - m % (cyc n + 1)) ≤ amL (cyc n)) = true := by simpa using q2
  have q3 := am_nonneg (d := cyc n) (by omega) (by omega)
  have q5 := am_nonneg (d := cyc n - 1) (by omega) (by omega)
  by_cases he : cyc n = 100
  · have he' : (cyc n == 100) = true := by simpa using he
    have HE := Lib.hid he
    clear he
    go_enter Tryd.func8, Tryd.ntmps8
    go_wp2_with (first
      | (go_at_call 9; refine (head_ok w _ h).mono ?_; rintro e w1 ⟨rfl, h⟩)
      | (go_at_call 15; refine (dutyL _ w _ h).mono ?_; rintro e w1 ⟨rfl, h⟩)
      | (go_at_call 16; refine (ampsL _ w _ h).mono ?_; rintro e w1 ⟨rfl, h⟩)
      | (go_at_call 10; refine (duty_ok _ w _ h).mono ?_; rintro e w1 ⟨rfl, h⟩)
      | (go_at_call 12; refine (amps_ok _ w _ h).mono ?_; rintro e w1 ⟨rfl, h⟩)
      | (go_at_call 11; refine (refDuty _ _).mono ?_; rintro e w1 ⟨rfl, rfl⟩)
      | (go_at_call 13; refine (refAmps _ _).mono ?_; rintro e w1 ⟨rfl, rfl⟩)
      | (go_at_call 14; refine (curL _ _ (by omega) (by omega)).mono ?_; rintro e w1 ⟨rfl, rfl⟩)
      | (go_at_call 17; refine (cycL _ _ (by omega) (by omega)).mono ?_; rintro e w1 ⟨rfl, rfl⟩))
    go_ret
    exact ⟨rfl, h⟩
  · have he' : (cyc n == 100) = false := by simpa using he
    have q4 := am_step (d := cyc n) (by omega) (by omega)
    go_enter Tryd.func8, Tryd.ntmps8
    go_wp2_with (first
      | (go_at_call 9; refine (head_ok w _ h).mono ?_; rintro e w1 ⟨rfl, h⟩)
      | (go_at_call 15; refine (dutyL _ w _ h).mono ?_; rintro e w1 ⟨rfl, h⟩)
      | (go_at_call 16; refine (ampsL _ w _ h).mono ?_; rintro e w1 ⟨rfl, h⟩)
      | (go_at_call 10; refine (duty_ok _ w _ h).mono ?_; rintro e w1 ⟨rfl, h⟩)
      | (go_at_call 12; refine (amps_ok _ w _ h).mono ?_; rintro e w1 ⟨rfl, h⟩)
      | (go_at_call 11; refine (refDuty _ _).mono ?_; rintro e w1 ⟨rfl, rfl⟩)
      | (go_at_call 13; refine (refAmps _ _).mono ?_; rintro e w1 ⟨rfl, rfl⟩)
      | (go_at_call 14; refine (curL _ _ (by omega) (by omega)).mono ?_; rintro e w1 ⟨rfl, rfl⟩)
      | (go_at_call 17; refine (cycL _ _ (by omega) (by omega)).mono ?_; rintro e w1 ⟨rfl, rfl⟩))
    go_ret
    exact ⟨rfl, h⟩

end Go.Proofs.YtjdmdhjincgdaaaDoor
