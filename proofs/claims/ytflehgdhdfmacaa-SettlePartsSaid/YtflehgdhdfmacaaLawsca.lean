/-
  THE LAW SettleParts: the plain law; records in two parts, and turned.
-/
import Derived.Test.YtflehgdhdfmacaaLawsea
namespace Go.Proofs.Ytflehgdhdfmacaa
open Go.RowKit
set_option linter.unusedVariables false

/-- those behind the first k -/
def dropR (X : Nat → Nat → Int) (k : Nat) : Nat → Nat → Int := fun i => X (k + i)
/-- those behind the first k, then the first k -/
def turnR (X : Nat → Nat → Int) (n k : Nat) : Nat → Nat → Int := fun i => if i < n - k then X (k + i) else X (i - (n - k))
theorem RR.drop {w : World} {b o n k : Nat} {X : Nat → Nat → Int} (x : RR w (some ⟨b, o, none⟩) n X) : RR w (some ⟨b, o + k * 13, none⟩) (n - k) (dropR X k) := fun i hi => by
  obtain ⟨b', o', e, hb, hc⟩ := x (k + i) (by omega)
  cases e
  refine ⟨b, o + k * 13, rfl, hb, fun j hj => ?_⟩
  have := hc j hj
  rw [show o + (k + i) * 13 + j = o + k * 13 + i * 13 + j by omega] at this
  exact this
theorem get_add (X : Nat → Nat → Int) (k : Nat) : ∀ q i, get X (k + q) i = get X k i + get (dropR X k) q i := by
  intro q
  induction q with
  | zero => intro i; simp [get]
  | succ q ih =>
    intro i
    have e : get X (k + (q + 1)) = mvd (get X (k + q)) (X (k + q) 4).toNat (X (k + q) 3).toNat (X (k + q) 8) := rfl
    rw [e]
    simp only [get]
    unfold mvd
    rw [ih i]
    simp only [dropR]
    omega
theorem recs_add (X : Nat → Nat → Int) (k : Nat) : ∀ q, recs X (k + q) = recs X k ++ recs (dropR X k) q := by
  intro q
  induction q with
  | zero => simp [recs]
  | succ q ih =>
    have e : recs X (k + (q + 1)) = recs X (k + q) ++ rcL (X (k + q)) := rfl
    rw [e, ih]
    simp only [recs, dropR, List.append_assoc]
theorem turn_lo {X : Nat → Nat → Int} {n k : Nat} : ∀ i, i < n - k → turnR X n k i = dropR X k i := fun i hi => if_pos hi
theorem turn_hi {X : Nat → Nat → Int} {n k : Nat} : ∀ i, i < k → dropR (turnR X n k) (n - k) i = X i := fun i hi => by
  show turnR X n k (n - k + i) = X i
  unfold turnR
  rw [if_neg (by omega), show n - k + i - (n - k) = i by omega]
theorem turn_recs {X : Nat → Nat → Int} {n k : Nat} (hk : k ≤ n) : recs (dropR X k) (n - k) ++ recs X k = recs (turnR X n k) n := by
  have h := recs_add (turnR X n k) (n - k) k
  rw [show n - k + k = n by omega] at h
  rw [h, recs_congr (n - k) turn_lo, recs_congr k turn_hi]
theorem turn_get {X : Nat → Nat → Int} {n k : Nat} (hk : k ≤ n) : get (turnR X n k) n = get X n := by
  funext i
  have h := get_add (turnR X n k) (n - k) k i
  rw [show n - k + k = n by omega, get_congr (n - k) turn_lo, get_congr k turn_hi] at h
  have h' := get_add X k (n - k) i
  rw [show k + (n - k) = n by omega] at h'
  omega
/-- where a record of the turned ones lies -/
theorem turn_at {X : Nat → Nat → Int} {n k i : Nat} (hk : k ≤ n) (hi : i < n) : turnR X n k i = X (if i < n - k then k + i else i - (n - k)) ∧ (if i < n - k then k + i else i - (n - k)) < n := by
  unfold turnR
  by_cases h : i < n - k
  · rw [if_pos h, if_pos h]; exact ⟨rfl, by omega⟩
  · rw [if_neg h, if_neg h]; exact ⟨rfl, by omega⟩
theorem turn_ok {X : Nat → Nat → Int} {n k : Nat} {m : Int} (hk : k ≤ n) (ha : allR m X n) (hd : ¬ dup X n) : allR m (turnR X n k) n ∧ ¬ dup (turnR X n k) n := by
  refine ⟨fun i hi => by rw [(turn_at (X := X) hk hi).1]; exact ha _ (turn_at (X := X) hk hi).2, ?_⟩
  rintro ⟨i, hi, j, hj, e1, e2⟩
  obtain ⟨a1, a2⟩ := turn_at (X := X) hk hi
  obtain ⟨b1, b2⟩ := turn_at (X := X) hk (show j < n by omega)
  rw [a1, b1] at e1 e2
  rcases Nat.lt_trichotomy (if i < n - k then k + i else i - (n - k)) (if j < n - k then k + j else j - (n - k)) with h | h | h
  · exact hd ⟨_, b2, _, h, e1.symm, e2.symm⟩
  · split at h <;> split at h <;> omega
  · exact hd ⟨_, a2, _, h, e1, e2⟩
theorem turn_wf {X : Nat → Nat → Int} {n k : Nat} (hk : k ≤ n) (h : ∀ i, i < n → (Lit.int .i64 (X i 0)).wf = true) : ∀ i, i < n → (Lit.int .i64 (turnR X n k i 0)).wf = true := fun i hi => by
  rw [(turn_at (X := X) hk hi).1]; exact h _ (turn_at (X := X) hk hi).2
theorem lo_ok {X : Nat → Nat → Int} {n k : Nat} {m : Int} (hk : k ≤ n) (ha : allR m X n) (hd : ¬ dup X n) : allR m X k ∧ ¬ dup X k := ⟨fun i hi => ha i (by omega), fun h => hd (dup_mono h hk)⟩
theorem hi_ok {X : Nat → Nat → Int} {n k : Nat} {m : Int} (ha : allR m X n) (hd : ¬ dup X n) : allR m (dropR X k) (n - k) ∧ ¬ dup (dropR X k) (n - k) := by
  refine ⟨fun i hi => ha (k + i) (by omega), ?_⟩
  rintro ⟨i, hi, j, hj, e1, e2⟩
  exact hd ⟨k + i, by omega, k + j, by omega, e1, e2⟩
theorem hi_wf {X : Nat → Nat → Int} {n k : Nat} (h : ∀ i, i < n → (Lit.int .i64 (X i 0)).wf = true) : ∀ i, i < n - k → (Lit.int .i64 (dropR X k i 0)).wf = true := fun i hi => h (k + i) (by omega)
theorem parts_get {X : Nat → Nat → Int} {n k : Nat} (hk : k ≤ n) (i : Nat) : get X k i + get (dropR X k) (n - k) i = get X n i := by
  have h' := get_add X k (n - k) i
  rw [show k + (n - k) = n by omega] at h'
  omega

theorem wp_recs {P : Program} (w : World) {o : Oper} {a : Act} {K : Act → World → Prop} {Q : Exit → Act → World → Prop} (s x : Operand) (t : TypeId)
    (ho : o.op = .call { callee := .builtin .append, args := #[s, x], argTypes := #[t, t] })
    (base : Nat) (e : TypeId) (i : TypeInfo) (z : Value) (bytes : Nat) (ht : P.underlying t = some (.slice e)) (hi : P.info? e = some i) (hz : i.zero = some z)
    (hsize : i.size = 13) (hby : i.bytes = bytes) (hzs : z.cells.size = 13)
    (v : Value) (n : Nat) (xs : List Value) (hs : a.eval s = v) (hown : w.ownsRow base e 13 v n xs)
    (A : Option Addr) (m c : Nat) (Y : Nat → Nat → Int) (hx : a.eval x = .slice A m c) (hA : A = none → m = 0 ∧ c = 0) (hR : RR w A m Y)
    (N : Nat) (hN : n + m = N) (h63 : N ≤ maxLen) (hbytes : N * bytes ≤ 140737488355328) (hbase : base ≤ w.heap.size)
    (h : ∀ v' w', w'.ownsRow base e 13 v' N (xs ++ recs Y m) → w.grownBy w' v.ownBlock → K (a.put o.dst v') w') : o.wp P a w K Q := by
  subst hN
  obtain ⟨v', w', hr, h2, h3⟩ : ∃ v' w', (Builtin.append_ #[t, t] o.type #[v, .slice A m c]).run P w = .ok v' w' ∧ w'.ownsRow base e 13 v' (n + m) (xs ++ recs Y m) ∧ w.grownBy w' v.ownBlock := by
    cases A with
    | none =>
      obtain ⟨rfl, rfl⟩ := hA rfl
      exact ⟨v, w, run_append_owned_none w base t o.type e i 13 ht hi v n xs hown, by simpa [recs] using hown, ⟨rfl, rfl, rfl, Nat.le_refl _, fun _ _ _ => rfl⟩⟩
    | some ad =>
      have hn : ∀ j u, (recs Y m)[j]? = some u → w.cell? (ad.add j) = some u := by
        intro j u hu
        have hj : j < m * 13 := by
          have := (List.getElem?_eq_some_iff.1 hu).1
          simpa [recs_len] using this
        obtain ⟨b, o', e', _⟩ := hR 0 (by omega)
        cases e'
        exact RR_news hR j u hu
      obtain ⟨v', w', hr, h2, h3, _, _⟩ := run_append_own_at (P := P) w base t o.type e i z 13 bytes ht hi hz hsize hby hzs (by omega) v n xs hown ad m c (recs Y m) (recs_len _ _) hn (recs_one _ _) h63 hbytes hbase
      exact ⟨v', w', hr, h2, h3⟩
  unfold Oper.wp execOp
  simp only [ho, resolve, invoke, builtin, Sem.run_bind, Sem.run_pure, Result.andThen_ok, List.map_toArray, List.map_cons, List.map_nil, hs, hx, hr]
  exact h v' w' h2 h3
theorem step_recs {P : Program} (w : World) {ops : Array Oper} {o : Oper} {a : Act} {K : Act → World → Prop} {Q : Exit → Act → World → Prop} {E : Prop} (hgd : o.guard = none) (s x : Operand) (t : TypeId)
    (ho : o.op = .call { callee := .builtin .append, args := #[s, x], argTypes := #[t, t] })
    (base : Nat) (e : TypeId) (i : TypeInfo) (z : Value) (bytes : Nat) (ht : P.underlying t = some (.slice e)) (hi : P.info? e = some i) (hz : i.zero = some z)
    (hsize : i.size = 13) (hby : i.bytes = bytes) (hzs : z.cells.size = 13)
    (v : Value) (n : Nat) (xs : List Value) (hs : a.eval s = v) (hown : w.ownsRow base e 13 v n xs)
    (A : Option Addr) (m c : Nat) (Y : Nat → Nat → Int) (hx : a.eval x = .slice A m c) (hA : A = none → m = 0 ∧ c = 0) (hR : RR w A m Y)
    (N : Nat) (hN : n + m = N) (h63 : N ≤ maxLen) (hbytes : N * bytes ≤ 140737488355328) (hbase : base ≤ w.heap.size)
    (h : ∀ v' w', w'.ownsRow base e 13 v' N (xs ++ recs Y m) → w.grownBy w' v.ownBlock → K (a.put o.dst v') w') :
    if Region.wanted o (yielded ops a.tmps) = true then Oper.wp P o a w K Q else E := by
  have hw : Region.wanted o (yielded ops a.tmps) = true := by simp [Region.wanted, hgd]
  rw [if_pos hw]
  exact wp_recs w s x t ho base e i z bytes ht hi hz hsize hby hzs v n xs hs hown A m c Y hx hA hR N hN h63 hbytes hbase h
/-- a row of one's own is a slice -/
theorem own_form {W : World} {B : Nat} {t : TypeId} {s n : Nat} {v : Value} {xs : List Value} (h : W.ownsRow B t s v n xs) : ∃ A c, v = .slice A n c ∧ (n ≤ c ∧ c ≤ 9223372036854775807) ∧ (A = none → n = 0 ∧ c = 0) := by
  rcases h.2 with ⟨h', h''⟩ | ⟨g', cap', cur, h', _, _, h1, h2, _⟩
  · exact ⟨none, 0, by rw [h', h''], by omega, fun _ => ⟨h'', rfl⟩⟩
  · exact ⟨_, cap', h', by unfold maxLen at h2; omega, fun e => by cases e⟩
end Go.Proofs.Ytflehgdhdfmacaa
