/-
  THE PLAIN LAW of disputes: a byte that is changed changes the digest.
-/
import Derived.Test.YtkhmlbkkdflnoaaCh17
namespace Go.Proofs.Ytkhmlbkkdflnoaa.Ch
open Go.RowKit
set_option linter.unusedVariables false
set_option linter.unusedSimpArgs false

/-- a number as 64 bits -/
def bv (n : Int) : BitVec 64 := BitVec.ofInt 64 n
theorem u64_bv (n : Int) : IntKind.u64.wrap n = ((bv n).toNat : Int) := by
  unfold bv
  rw [BitVec.toNat_ofInt]
  simp [IntKind.wrap, IntKind.signed, IntKind.bits]
  omega
theorem bv_nat (b : BitVec 64) : bv (b.toNat : Int) = b := by
  apply BitVec.eq_of_toNat_eq
  unfold bv
  rw [BitVec.toNat_ofInt]
  have := b.isLt
  omega
theorem bv_u64 (n : Int) : bv (IntKind.u64.wrap n) = bv n := by rw [u64_bv, bv_nat]
theorem bv_i64 (n : Int) : bv (IntKind.i64.wrap n) = bv n := by
  apply BitVec.eq_of_toNat_eq
  unfold bv
  rw [BitVec.toNat_ofInt, BitVec.toNat_ofInt]
  simp [IntKind.wrap, IntKind.signed, IntKind.bits]
  split <;> omega
theorem bv_xor_u64 (a b : Int) : bv (bits BinOp.xor IntKind.u64 a b) = bv a ^^^ bv b := by
  show bv (IntKind.u64.wrap ((bv a ^^^ bv b).toNat : Int)) = _
  rw [bv_u64, bv_nat]
theorem bv_xor_i64 (a b : Int) : bv (bits BinOp.xor IntKind.i64 a b) = bv a ^^^ bv b := by
  show bv (IntKind.i64.wrap ((bv a ^^^ bv b).toNat : Int)) = _
  rw [bv_i64, bv_nat]
theorem bv_mul (a b : Int) : bv (a * b) = bv a * bv b := by
  unfold bv
  rw [BitVec.ofInt_mul]
theorem bv_stp (y z : Int) : bv (stp y z) = (bv y ^^^ bv z) * bv 1099511628211 := by
  unfold stp
  rw [bv_u64, bv_mul, bv_xor_u64, bv_u64]
theorem mul_inj {a b : BitVec 64} (h : a * bv 1099511628211 = b * bv 1099511628211) : a = b := by
  have h1 : bv 1099511628211 * bv 14886173955864302971 = 1#64 := by decide
  have h2 : a * bv 1099511628211 * bv 14886173955864302971 = b * bv 1099511628211 * bv 14886173955864302971 := by rw [h]
  rw [BitVec.mul_assoc, BitVec.mul_assoc, h1, BitVec.mul_one, BitVec.mul_one] at h2
  exact h2
theorem xor_left {a b c : BitVec 64} (h : a ^^^ b = a ^^^ c) : b = c := by
  have : a ^^^ (a ^^^ b) = a ^^^ (a ^^^ c) := by rw [h]
  simpa [← BitVec.xor_assoc] using this
theorem xor_right {a b c : BitVec 64} (h : b ^^^ a = c ^^^ a) : b = c := xor_left (a := a) (by rw [BitVec.xor_comm a b, BitVec.xor_comm a c, h])
theorem stp_inj {y y' z z' : Int} (h : bv y ^^^ bv z ≠ bv y' ^^^ bv z') : bv (stp y z) ≠ bv (stp y' z') := fun e => by
  rw [bv_stp, bv_stp] at e
  exact h (mul_inj e)
/-- one byte differs: the digests differ -/
theorem lks_ne {x : Int} {f g : Nat → Int} {j : Nat} (hj : bv (f j) ≠ bv (g j)) (ho : ∀ i, i ≠ j → f i = g i) : ∀ n, j < n → bv (lks x f n) ≠ bv (lks x g n) := by
  have hsame : ∀ n, n ≤ j → lks x f n = lks x g n := by
    intro n
    induction n with
    | zero => intro _; rfl
    | succ n ih => intro h; simp only [lks]; rw [ih (by omega), ho n (by omega)]
  intro n
  induction n with
  | zero => intro h; omega
  | succ n ih =>
    intro h
    simp only [lks]
    by_cases e : n = j
    · rw [e, hsame j (Nat.le_refl j)]
      exact stp_inj fun e' => hj (xor_left e')
    · rw [ho n e]
      exact stp_inj fun e' => ih (by omega) (xor_right e')
/-- the byte of a number from the top -/
theorem byt_nat (n : Int) (k : Nat) : byt n k = (((bv n).toNat / 2 ^ (56 - 8 * k) % 256 : Nat) : Int) := by
  unfold byt
  rw [u64_bv]
  exact (by rw [Int.natCast_emod, Int.natCast_ediv, Int.natCast_pow]; rfl)
set_option maxRecDepth 10000 in
theorem byte_shift {b s k : Nat} (hb : 1 ≤ b ∧ b ≤ 255) (hs : s ≤ 7) (hk : k ≤ 7) : b * 2 ^ (8 * s) / 2 ^ (56 - 8 * k) % 256 = if s + k = 7 then b else 0 := by
  have h1 : s = 0 ∨ s = 1 ∨ s = 2 ∨ s = 3 ∨ s = 4 ∨ s = 5 ∨ s = 6 ∨ s = 7 := by omega
  have h2 : k = 0 ∨ k = 1 ∨ k = 2 ∨ k = 3 ∨ k = 4 ∨ k = 5 ∨ k = 6 ∨ k = 7 := by omega
  rcases h1 with rfl | rfl | rfl | rfl | rfl | rfl | rfl | rfl <;> rcases h2 with rfl | rfl | rfl | rfl | rfl | rfl | rfl | rfl <;> simp <;> omega
set_option maxRecDepth 10000 in
theorem shift_lt {b s : Nat} (hb : b ≤ 255) (hs : s ≤ 7) : b * 2 ^ (8 * s) < 18446744073709551616 := by
  have h1 : s = 0 ∨ s = 1 ∨ s = 2 ∨ s = 3 ∨ s = 4 ∨ s = 5 ∨ s = 6 ∨ s = 7 := by omega
  rcases h1 with rfl | rfl | rfl | rfl | rfl | rfl | rfl | rfl <;> simp <;> omega
theorem byt_xor {n v : Int} {b s k : Nat} (hb : 1 ≤ b ∧ b ≤ 255) (hs : s ≤ 7) (hk : k ≤ 7) (hv : bv v = bv n ^^^ BitVec.ofNat 64 (b * 2 ^ (8 * s))) :
    (s + k = 7 → byt v k ≠ byt n k) ∧ (s + k ≠ 7 → byt v k = byt n k) := by
  have h0 := shift_lt hb.2 hs
  have h1 : (bv v).toNat / 2 ^ (56 - 8 * k) % 256 = ((bv n).toNat / 2 ^ (56 - 8 * k) % 256) ^^^ (b * 2 ^ (8 * s) / 2 ^ (56 - 8 * k) % 256) := by
    rw [hv, BitVec.toNat_xor, BitVec.toNat_ofNat, Nat.mod_eq_of_lt (show _ < 2 ^ 64 from h0), ← Nat.shiftRight_eq_div_pow, ← Nat.shiftRight_eq_div_pow, ← Nat.shiftRight_eq_div_pow, Nat.shiftRight_xor_distrib]
    have h2 := Nat.xor_mod_two_pow (n := 8) (a := (bv n).toNat >>> (56 - 8 * k)) (b := (b * 2 ^ (8 * s)) >>> (56 - 8 * k))
    exact h2
  rw [byte_shift hb hs hk] at h1
  refine ⟨fun h e => ?_, fun h => ?_⟩
  · rw [if_pos h] at h1
    rw [byt_nat, byt_nat] at e
    have e' : (bv v).toNat / 2 ^ (56 - 8 * k) % 256 = (bv n).toNat / 2 ^ (56 - 8 * k) % 256 := by exact_mod_cast e
    rw [e'] at h1
    generalize (bv n).toNat / 2 ^ (56 - 8 * k) % 256 = a at h1
    have : a ^^^ a = a ^^^ (a ^^^ b) := by rw [← h1]
    rw [← Nat.xor_assoc, Nat.xor_self, Nat.zero_xor] at this
    omega
  · rw [if_neg h, Nat.xor_zero] at h1
    rw [byt_nat, byt_nat, h1]
theorem bv_ne {n v : Int} {b s : Nat} (hb : 1 ≤ b ∧ b ≤ 255) (hs : s ≤ 7) (hv : bv v = bv n ^^^ BitVec.ofNat 64 (b * 2 ^ (8 * s))) : v ≠ n := fun e => by
  have := (byt_xor (k := 7 - s) hb hs (by omega) hv).1 (by omega)
  rw [e] at this
  exact this rfl
theorem byt_bd (n : Int) (k : Nat) : 0 ≤ byt n k ∧ byt n k < 256 := by
  rw [byt_nat]
  omega
theorem bfn_at (p : Nat → Int) {j : Nat} (hj : j < 32) : bfn (p 0) (p 1) (p 2) (p 3) j = byt (p (j / 8)) (j % 8) := by
  unfold bfn
  have : j / 8 = 0 ∨ j / 8 = 1 ∨ j / 8 = 2 ∨ j / 8 = 3 := by omega
  rcases this with e | e | e | e <;> rw [e] <;> rfl
theorem bfn_hi (a b c d : Int) {j : Nat} (hj : 32 ≤ j) : bfn a b c d j = byt 0 (j % 8) := by
  unfold bfn
  rw [List.getD_eq_getElem?_getD, List.getElem?_eq_none (by simp; omega)]
  rfl
/-- a number of a reading is changed in one byte: the digest is another -/
theorem lkf_ne {x : Int} {p q : Nat → Int} {f b s : Nat} (hf : f < 4) (hb : 1 ≤ b ∧ b ≤ 255) (hs : s ≤ 7) (ho : ∀ i, i < 4 → i ≠ f → q i = p i) (hv : bv (q f) = bv (p f) ^^^ BitVec.ofNat 64 (b * 2 ^ (8 * s))) :
    lkf x (q 0) (q 1) (q 2) (q 3) ≠ lkf x (p 0) (p 1) (p 2) (p 3) := by
  intro e
  have h := lks_ne (x := x) (f := bfn (q 0) (q 1) (q 2) (q 3)) (g := bfn (p 0) (p 1) (p 2) (p 3)) (j := 8 * f + (7 - s)) ?_ ?_ 32 (by omega)
  · exact h (congrArg bv e)
  · rw [bfn_at q (by omega), bfn_at p (by omega), show (8 * f + (7 - s)) / 8 = f by omega, show (8 * f + (7 - s)) % 8 = 7 - s by omega]
    have h1 := (byt_xor (k := 7 - s) hb hs (by omega) hv).1 (by omega)
    intro e2
    apply h1
    have b1 := byt_bd (q f) (7 - s)
    have b2 := byt_bd (p f) (7 - s)
    have e3 := congrArg BitVec.toNat e2
    unfold bv at e3
    rw [BitVec.toNat_ofInt, BitVec.toNat_ofInt] at e3
    omega
  · intro i hi
    rcases Nat.lt_or_ge i 32 with h32 | h32
    · rw [bfn_at q h32, bfn_at p h32]
      by_cases e1 : i / 8 = f
      · rw [e1]
        exact (byt_xor (k := i % 8) hb hs (by omega) hv).2 (by omega)
      · rw [ho _ (by omega) e1]
    · rw [bfn_hi _ _ _ _ h32, bfn_hi _ _ _ _ h32]
/-- one number of row k is another -/
def setN (X : Nat → Nat → Int) (k f : Nat) (v : Int) : Nat → Nat → Int := fun i j => if i = k ∧ j = f then v else X i j
theorem setN_row {X : Nat → Nat → Int} {k f : Nat} {v : Int} {i : Nat} (h : i ≠ k) : setN X k f v i = X i := by
  funext j
  unfold setN
  rw [if_neg (fun h' => h h'.1)]
theorem setN_col {X : Nat → Nat → Int} {k f : Nat} {v : Int} {i j : Nat} (h : j ≠ f) : setN X k f v i j = X i j := by
  unfold setN
  rw [if_neg (fun h' => h h'.2)]
theorem setN_new {X : Nat → Nat → Int} {k f : Nat} {v : Int} : setN X k f v k f = v := by
  unfold setN
  rw [if_pos ⟨rfl, rfl⟩]
theorem okB_low {X : Nat → Nat → Int} {k f : Nat} {v : Int} {i : Nat} (h : i < k) : okB (setN X k f v) i = okB X i := by
  unfold okB
  rw [setN_row (show i ≠ k by omega)]
  rcases Nat.eq_zero_or_pos i with e | e
  · subst e; simp
  · rw [setN_row (show i - 1 ≠ k by omega)]
theorem chB_low {X : Nat → Nat → Int} {k f : Nat} {v seed : Int} {i : Nat} (h : i < k) : chB (setN X k f v) seed i = chB X seed i := by
  unfold chB lkOf stt
  rw [okB_low h, setN_row (show i ≠ k by omega)]
  split
  · rfl
  · rw [setN_row (show i - 1 ≠ k by omega)]
/-- the reading that was changed is not right -/
theorem chB_new {X : Nat → Nat → Int} {k f b s : Nat} {v seed : Int} (hf : f ≤ 4) (hb : 1 ≤ b ∧ b ≤ 255) (hs : s ≤ 7) (hX : chB X seed k = true) (hv : bv v = bv (X k f) ^^^ BitVec.ofNat 64 (b * 2 ^ (8 * s))) : chB (setN X k f v) seed k = false := by
  have hst : stt (setN X k f v) seed k = stt X seed k := by
    unfold stt
    split
    · rfl
    · rw [setN_row (show k - 1 ≠ k by omega)]
  unfold chB at hX ⊢
  rw [Bool.and_eq_true, decide_eq_true_iff] at hX
  rw [hst, Bool.and_eq_false_iff]
  right
  rw [decide_eq_false_iff_not]
  intro e
  by_cases h4 : f = 4
  · subst h4
    unfold lkOf at e hX
    rw [setN_new, setN_col (show 0 ≠ 4 by omega), setN_col (show 1 ≠ 4 by omega), setN_col (show 2 ≠ 4 by omega), setN_col (show 3 ≠ 4 by omega), ← hX.2] at e
    exact bv_ne hb hs hv e
  · rw [setN_col (fun h => h4 h.symm), hX.2] at e
    unfold lkOf at e
    exact lkf_ne (p := X k) (q := setN X k f v k) (f := f) (by omega) hb hs (fun i _ hi => setN_col hi) (by rw [setN_new]; exact hv) e.symm
theorem chk_new {X : Nat → Nat → Int} {m k f b s : Nat} {v seed : Int} (hk : k < m) (hf : f ≤ 4) (hb : 1 ≤ b ∧ b ≤ 255) (hs : s ≤ 7) (hX : ∀ i, i < m → chB X seed i = true) (hv : bv v = bv (X k f) ^^^ BitVec.ofNat 64 (b * 2 ^ (8 * s))) :
    chk (setN X k f v) seed m = k ∧ chk (setN X k f v) seed k = -1 := by
  have h1 : fi (chB (setN X k f v) seed) m = k := fi_eq (by omega) (fun j hj => by rw [chB_low hj]; exact hX j (by omega)) (.inr (chB_new hf hb hs (hX k hk) hv))
  refine ⟨by unfold chk; rw [h1, if_pos hk], chk_ok fun i hi => by rw [chB_low hi]; exact hX i (by omega)⟩
end Go.Proofs.Ytkhmlbkkdflnoaa.Ch
