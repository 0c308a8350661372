/-
  MEMORY of package chain: rows of readings, appended.
-/
import Derived.Test.YtkhmlbkkdflnoaaCheck
import Derived.Test.YtkhmlbkkdflnoaaApp
import Derived.Test.YtkhmlbkkdflnoaaFits
namespace Go.Proofs.Ytkhmlbkkdflnoaa.Ch
open Go.RowKit Go.Shelf
set_option linter.unusedVariables false
set_option linter.unusedSimpArgs false

/-- the cells of a reading -/
def rdL (x : Nat → Int) : List Value := [.int .i64 (x 0), .int .i64 (x 1), .int .i64 (x 2), .int .i64 (x 3), .int .u64 (x 4)]
def rcv (j : Nat) (x : Int) : Value := if j = 4 then .int .u64 x else .int .i64 x
theorem rdL_get (x : Nat → Int) : ∀ j, j < 5 → (rdL x)[j]? = some (rcv j (x j)) := by
  intro j hj
  have : j = 0 ∨ j = 1 ∨ j = 2 ∨ j = 3 ∨ j = 4 := by omega
  rcases this with rfl | rfl | rfl | rfl | rfl <;> rfl
theorem rdL_one (x : Nat → Int) : ∀ u ∈ rdL x, u.oneCell' = true := by simp [rdL, Value.oneCell']
/-- the cells of n readings -/
def rds (X : Nat → Nat → Int) : Nat → List Value
  | 0 => []
  | n + 1 => rds X n ++ rdL (X n)
theorem rds_len (X : Nat → Nat → Int) : ∀ n, (rds X n).length = n * 5 := by
  intro n
  induction n with
  | zero => rfl
  | succ n ih => simp [rds, ih, rdL]; omega
theorem rds_get (X : Nat → Nat → Int) : ∀ n i, i < n → ∀ j, j < 5 → (rds X n)[i * 5 + j]? = some (rcv j (X i j)) := by
  intro n
  induction n with
  | zero => intro i hi; omega
  | succ n ih =>
    intro i hi j hj
    simp only [rds]
    rcases Nat.lt_or_ge i n with h | h
    · rw [List.getElem?_append_left (by rw [rds_len]; omega)]
      exact ih i h j hj
    · obtain rfl : i = n := by omega
      rw [List.getElem?_append_right (by rw [rds_len]; omega), rds_len, show i * 5 + j - i * 5 = j by omega]
      exact rdL_get _ j hj
theorem rds_one (X : Nat → Nat → Int) : ∀ n, ∀ u ∈ rds X n, u.oneCell' = true := by
  intro n
  induction n with
  | zero => intro u hu; simp [rds] at hu
  | succ n ih =>
    intro u hu
    rcases List.mem_append.1 hu with h | h
    · exact ih u h
    · exact rdL_one _ u h
theorem rds_congr {X Y : Nat → Nat → Int} : ∀ n, (∀ i, i < n → X i = Y i) → rds X n = rds Y n := by
  intro n
  induction n with
  | zero => intro _; rfl
  | succ n ih => intro h; simp only [rds]; rw [ih fun i hi => h i (by omega), h n (by omega)]
theorem RG_iff {w : World} {A : Option Addr} {n : Nat} {X : Nat → Nat → Int} : RG w A n X ↔ ∀ i, i < n → ∃ b o, A = some ⟨b, o, none⟩ ∧ b < w.heap.size ∧ ∀ j, j < 5 → w.cell? ⟨b, o + i * 5 + j, none⟩ = some (rcv j (X i j)) := by
  constructor
  · intro h i hi
    obtain ⟨b, o, e, hl, c0, c1, c2, c3, c4⟩ := h i hi
    refine ⟨b, o, e, hl, fun j hj => ?_⟩
    have : j = 0 ∨ j = 1 ∨ j = 2 ∨ j = 3 ∨ j = 4 := by omega
    rcases this with rfl | rfl | rfl | rfl | rfl <;> assumption
  · intro h i hi
    obtain ⟨b, o, e, hl, hc⟩ := h i hi
    exact ⟨b, o, e, hl, hc 0 (by omega), hc 1 (by omega), hc 2 (by omega), hc 3 (by omega), hc 4 (by omega)⟩
theorem RG_own {w : World} {base : Nat} {e : TypeId} {A : Option Addr} {n c : Nat} {X : Nat → Nat → Int} (h : w.ownsRow base e 5 (.slice A n c) n (rds X n)) : RG w A n X := RG_iff.2 fun i hi => by
  obtain ⟨g, cap, hv, hb, hlt⟩ := h.form (by omega)
  cases hv
  refine ⟨g, 0, rfl, hlt, fun j hj => ?_⟩
  rw [show 0 + i * 5 + j = i * 5 + j by omega, h.cellAt _ (by omega)]
  exact rds_get X n i hi j hj
theorem RG_news {w : World} {n : Nat} {X : Nat → Nat → Int} {b o : Nat} (x : RG w (some ⟨b, o, none⟩) n X) : ∀ j u, (rds X n)[j]? = some u → w.cell? ((⟨b, o, none⟩ : Addr).add j) = some u := by
  intro j u hu
  have hj : j < n * 5 := by
    have := (List.getElem?_eq_some_iff.1 hu).1
    simpa [rds_len] using this
  have e : j / 5 * 5 + j % 5 = j := by omega
  have h1 := rds_get X n (j / 5) (by omega) (j % 5) (by omega)
  rw [e, hu] at h1
  cases h1
  obtain ⟨b', o', e', _, hc⟩ := RG_iff.1 x (j / 5) (by omega)
  cases e'
  have := hc (j % 5) (by omega)
  rw [show o + j / 5 * 5 + j % 5 = o + j by omega] at this
  have hp : (⟨b, o, none⟩ : Addr).add j = ⟨b, o + j, none⟩ := by unfold Addr.add; split <;> simp_all
  rw [hp]
  exact this
theorem RG.congr {w : World} {A : Option Addr} {n : Nat} {X Y : Nat → Nat → Int} (x : RG w A n X) (h : ∀ i, i < n → X i = Y i) : RG w A n Y := fun i hi => by rw [← h i hi]; exact x i hi
theorem RG.take {w : World} {A : Option Addr} {n k : Nat} {X : Nat → Nat → Int} (x : RG w A n X) (h : k ≤ n) : RG w A k X := fun i hi => x i (by omega)
theorem infoRd : (Try.prog.info? 58).map (fun i => (i.zero, i.size, i.bytes)) = some (some (.agg #[.int .i64 0, .int .i64 0, .int .i64 0, .int .i64 0, .int .u64 0]), 5, 40) := by kernel_rfl
/-- one more reading -/
def more (X : Nat → Nat → Int) (n : Nat) (x : Nat → Int) : Nat → Nat → Int := fun i => if i = n then x else X i
theorem more_old (X : Nat → Nat → Int) (n : Nat) (x : Nat → Int) : ∀ i, i < n → more X n x i = X i := fun i hi => if_neg (by omega)
theorem more_new (X : Nat → Nat → Int) (n : Nat) (x : Nat → Int) : more X n x n = x := if_pos rfl
theorem more_rds (X : Nat → Nat → Int) (n : Nat) (x : Nat → Int) : rds X n ++ rdL x = rds (more X n x) (n + 1) := by
  simp only [rds]
  rw [rds_congr n (more_old X n x), more_new]
theorem okB_congr {X Y : Nat → Nat → Int} {i : Nat} (h : X i = Y i) (h' : X (i - 1) = Y (i - 1)) : okB X i = okB Y i := by unfold okB; rw [h, h']
theorem chB_congr {X Y : Nat → Nat → Int} {seed : Int} {i : Nat} (h : X i = Y i) (h' : X (i - 1) = Y (i - 1)) : chB X seed i = chB Y seed i := by unfold chB lkOf stt; rw [okB_congr h h', h, h']
/-- the new reading -/
def newR (X : Nat → Nat → Int) (seed : Int) (n : Nat) (s mi re : Int) : Nat → Int
  | 0 => s
  | 1 => (n : Int) + 1
  | 2 => mi
  | 3 => re
  | _ => lkf (stt X seed n) s ((n : Int) + 1) mi re
/-- the new reading fits behind the last one -/
def fitsB (X : Nat → Nat → Int) (n : Nat) (s mi re : Int) : Prop := (1 ≤ s ∧ s ≤ 1000000) ∧ n ≤ 63 ∧ (0 ≤ mi ∧ mi ≤ 52560000) ∧ (0 ≤ re ∧ re ≤ 1000000000) ∧ (0 < n → X (n - 1) 2 ≤ mi ∧ (s = X (n - 1) 0 → X (n - 1) 3 ≤ re) ∧ (s = X (n - 1) 0 ∨ mi = X (n - 1) 2))
theorem fits_old {X : Nat → Nat → Int} {n : Nat} {s mi re : Int} (h : fitsB X n s mi re) (hn : 0 < n) : (decide (mi < X (n - 1) 2) || (decide (s = X (n - 1) 0) && decide (re < X (n - 1) 3))) = false ∧ (decide (s ≠ X (n - 1) 0) && decide (mi ≠ X (n - 1) 2)) = false := by
  obtain ⟨_, _, _, _, h5⟩ := h
  obtain ⟨a, b, c⟩ := h5 hn
  constructor
  · by_cases e : s = X (n - 1) 0
    · have := b e
      simp [e]; omega
    · simp [e]; omega
  · rcases c with c | c <;> simp [c]
theorem more_chB {X : Nat → Nat → Int} {seed : Int} {n : Nat} {s mi re : Int} (h : ∀ i, i < n → chB X seed i = true) (hf : fitsB X n s mi re) : ∀ i, i < n + 1 → chB (more X n (newR X seed n s mi re)) seed i = true := by
  intro i hi
  rcases Nat.lt_or_ge i n with h' | h'
  · rw [chB_congr (more_old _ _ _ i h') (more_old _ _ _ (i - 1) (by omega))]
    exact h i h'
  · obtain rfl : i = n := by omega
    have hf' := hf
    obtain ⟨h1, h2, h3, h4, h5⟩ := hf
    have e0 : more X i (newR X seed i s mi re) i = newR X seed i s mi re := more_new _ _ _
    have hst : stt (more X i (newR X seed i s mi re)) seed i = stt X seed i := by
      unfold stt
      split
      · rfl
      · rw [more_old _ _ _ (i - 1) (by omega)]
    unfold chB
    rw [Bool.and_eq_true, decide_eq_true_eq]
    constructor
    · unfold okB
      rw [e0]
      simp only [Bool.and_eq_true, decide_eq_true_eq, Bool.or_eq_true]
      refine ⟨⟨?_, rfl⟩, ?_⟩
      · simp only [vR, newR, Bool.and_eq_true]
        exact ⟨inB_iff.2 h1, inB_iff.2 (by omega), inB_iff.2 h3, inB_iff.2 h4⟩
      · rcases Nat.eq_zero_or_pos i with hz | hz
        · exact .inl hz
        · right
          rw [more_old _ _ _ (i - 1) (by omega)]
          obtain ⟨q1, q2⟩ := fits_old hf' hz
          have q1' : oldB (X (i - 1)) (newR X seed i s mi re) = false := q1
          have q2' : latB (X (i - 1)) (newR X seed i s mi re) = false := q2
          rw [q1', q2']
          exact ⟨rfl, rfl⟩
    · unfold lkOf
      rw [e0, hst]
      rfl
/-- a reading's box -/
def RDB (W : World) (b : Nat) (x : Nat → Int) : Prop := W.heap[b]? = some (.cells (rdL x).toArray 58 (0, 0))
theorem RDB.lt {W : World} {b : Nat} {x : Nat → Int} (h : RDB W b x) : b < W.heap.size := (Array.getElem?_eq_some_iff.1 h).1
theorem RDB.keep {W W' : World} {b : Nat} {x : Nat → Int} (h : RDB W b x) (hb : Below W.heap.size W W') : RDB W' b x := (hb.block _ h.lt).trans h
theorem RDB.grown {W W' : World} {b : Nat} {x : Nat → Int} {g : Option Nat} (h : RDB W b x) (hg : W.grownBy W' g) (hne : some b ≠ g) : RDB W' b x := (hg.block _ h.lt hne).trans h
theorem RDB.new (W : World) (x : Nat → Int) : RDB (W.alloc (.cells (rdL x).toArray 58)) W.heap.size x := heap_alloc_new _ _
theorem RDB.get {W : World} {b : Nat} {x : Nat → Int} (h : RDB W b x) :
    W.cell? ⟨b, 0, none⟩ = some (.int .i64 (x 0)) ∧ W.cell? ⟨b, 1, none⟩ = some (.int .i64 (x 1)) ∧ W.cell? ⟨b, 2, none⟩ = some (.int .i64 (x 2)) ∧ W.cell? ⟨b, 3, none⟩ = some (.int .i64 (x 3)) ∧ W.cell? ⟨b, 4, none⟩ = some (.int .u64 (x 4)) := by
  refine ⟨?_, ?_, ?_, ?_, ?_⟩ <;> rw [cell_of_row W b _ _ _ (0, 0) h] <;> rfl
theorem RDB.thaw {W : World} {b : Nat} {x : Nat → Int} (h : RDB W b x) (j : Nat) : W.frozen? ⟨b, j, none⟩ = false := by
  have h' : W.heap[b]? = some (.cells (rdL x).toArray 58 (0, 0)) := h
  simp [World.frozen?, h']
theorem RDB.alloc {W : World} {b : Nat} {x : Nat → Int} (h : RDB W b x) (o : Obj) : RDB (W.alloc o) b x := h.keep (bel_alloc (Below.refl _ _) o)
theorem RDB.drew {W : World} {b : Nat} {x : Nat → Int} (h : RDB W b x) : RDB W.drew b x := h
theorem RDB.set4 {W : World} {b : Nat} {x : Nat → Int} (h : RDB W b x) (y : Int) (x' : Nat → Int) (h0 : x' 0 = x 0) (h1 : x' 1 = x 1) (h2 : x' 2 = x 2) (h3 : x' 3 = x 3) (h4 : x' 4 = y) : RDB (W.setCell ⟨b, 4, none⟩ (.int .u64 y)) b x' := by
  have h' : W.heap[b]? = some (.cells (rdL x).toArray 58 (0, 0)) := h
  show _ = _
  simp [World.setCell, Array.getElem?_modify, h', rdL, h0, h1, h2, h3, h4]
theorem RDB.news {W : World} {b : Nat} {x : Nat → Int} (h : RDB W b x) : ∀ j u, (rdL x)[j]? = some u → W.cell? ((⟨b, 0, none⟩ : Addr).add j) = some u := World.news_of_block h
theorem heap_second (w : World) (X Y : Obj) : ((w.alloc X).alloc Y).heap[w.heap.size + 1]? = some Y := by
  have q := heap_alloc_new (w.alloc X) Y
  simpa using q
theorem own_at0 {W : World} {B g : Nat} {t : TypeId} {s cap : Nat} {cs : Array Value} (h : W.heap[g]? = some (.cells cs t (0, 0))) (hB : B ≤ g) (hc : cap ≤ maxLen) (hl : cs.size = cap * s) : W.ownsRow B t s (.slice (some ⟨g, 0, none⟩) 0 cap) 0 [] :=
  ⟨by simp, .inr ⟨g, cap, cs, rfl, hB, h, Nat.zero_le _, hc, hl, by simp⟩⟩
theorem grow_h {w W wA : World} {row : Option Nat} (h : Below w.heap.size w W) (hg : W.grownBy wA row) (hr : ∀ x, row = some x → w.heap.size ≤ x) : Below w.heap.size w wA := h.grown hg h.size hr
theorem row_ge {g n cap B : Nat} (h : B ≤ g) : ∀ x, (Value.slice (some ⟨g, 0, none⟩) n cap).ownBlock = some x → B ≤ x := by
  intro x e
  have : g = x := by simpa [Value.ownBlock] using e
  omega
/-- a row of one's own is a slice -/
theorem own_form {W : World} {B : Nat} {t : TypeId} {s n : Nat} {v : Value} {xs : List Value} (h : W.ownsRow B t s v n xs) : ∃ A c, v = .slice A n c ∧ (n ≤ c ∧ c ≤ 9223372036854775807) ∧ (A = none → n = 0 ∧ c = 0) := by
  rcases h.2 with ⟨h', h''⟩ | ⟨g', cap', cur, h', _, _, h1, h2, _⟩
  · exact ⟨none, 0, by rw [h', h''], by omega, fun _ => ⟨h'', rfl⟩⟩
  · exact ⟨_, cap', h', by unfold maxLen at h2; omega, fun e => by cases e⟩
theorem own_ge {w : World} {base : Nat} {e : TypeId} {size : Nat} {v : Value} {n : Nat} {xs : List Value} (h : w.ownsRow base e size v n xs) : ∀ g, v.ownBlock = some g → base ≤ g := fun g hg => (h.lt g hg).1
theorem wp_rds {P : Program} (w : World) {o : Oper} {a : Act} {K : Act → World → Prop} {Q : Exit → Act → World → Prop} (s x : Operand) (t : TypeId)
    (ho : o.op = .call { callee := .builtin .append, args := #[s, x], argTypes := #[t, t] })
    (base : Nat) (e : TypeId) (i : TypeInfo) (z : Value) (bytes : Nat) (ht : P.underlying t = some (.slice e)) (hi : P.info? e = some i) (hz : i.zero = some z)
    (hsize : i.size = 5) (hby : i.bytes = bytes) (hzs : z.cells.size = 5)
    (v : Value) (n : Nat) (xs : List Value) (hs : a.eval s = v) (hown : w.ownsRow base e 5 v n xs)
    (A : Option Addr) (m c : Nat) (Y : Nat → Nat → Int) (hx : a.eval x = .slice A m c) (hA : A = none → m = 0 ∧ c = 0) (hR : RG w A m Y)
    (N : Nat) (hN : n + m = N) (h63 : N ≤ maxLen) (hbytes : N * bytes ≤ 140737488355328) (hbase : base ≤ w.heap.size)
    (h : ∀ v' w', w'.ownsRow base e 5 v' N (xs ++ rds Y m) → w.grownBy w' v.ownBlock → K (a.put o.dst v') w') : o.wp P a w K Q := by
  subst hN
  obtain ⟨v', w', hr, h2, h3⟩ : ∃ v' w', (Builtin.append_ #[t, t] o.type #[v, .slice A m c]).run P w = .ok v' w' ∧ w'.ownsRow base e 5 v' (n + m) (xs ++ rds Y m) ∧ w.grownBy w' v.ownBlock := by
    cases A with
    | none =>
      obtain ⟨rfl, rfl⟩ := hA rfl
      exact ⟨v, w, run_append_owned_none w base t o.type e i 5 ht hi v n xs hown, by simpa [rds] using hown, ⟨rfl, rfl, rfl, Nat.le_refl _, fun _ _ _ => rfl⟩⟩
    | some ad =>
      have hn : ∀ j u, (rds Y m)[j]? = some u → w.cell? (ad.add j) = some u := by
        intro j u hu
        have hj : j < m * 5 := by
          have := (List.getElem?_eq_some_iff.1 hu).1
          simpa [rds_len] using this
        obtain ⟨b, o', e', _⟩ := hR 0 (by omega)
        cases e'
        exact RG_news hR j u hu
      obtain ⟨v', w', hr, h2, h3, _, _⟩ := run_append_own_at (P := P) w base t o.type e i z 5 bytes ht hi hz hsize hby hzs (by omega) v n xs hown ad m c (rds Y m) (rds_len _ _) hn (rds_one _ _) h63 hbytes hbase
      exact ⟨v', w', hr, h2, h3⟩
  unfold Oper.wp execOp
  simp only [ho, resolve, invoke, builtin, Sem.run_bind, Sem.run_pure, Result.andThen_ok, List.map_toArray, List.map_cons, List.map_nil, hs, hx, hr]
  exact h v' w' h2 h3
theorem step_rds {P : Program} (w : World) {ops : Array Oper} {o : Oper} {a : Act} {K : Act → World → Prop} {Q : Exit → Act → World → Prop} {E : Prop} (hgd : o.guard = none) (s x : Operand) (t : TypeId)
    (ho : o.op = .call { callee := .builtin .append, args := #[s, x], argTypes := #[t, t] })
    (base : Nat) (e : TypeId) (i : TypeInfo) (z : Value) (bytes : Nat) (ht : P.underlying t = some (.slice e)) (hi : P.info? e = some i) (hz : i.zero = some z)
    (hsize : i.size = 5) (hby : i.bytes = bytes) (hzs : z.cells.size = 5)
    (v : Value) (n : Nat) (xs : List Value) (hs : a.eval s = v) (hown : w.ownsRow base e 5 v n xs)
    (A : Option Addr) (m c : Nat) (Y : Nat → Nat → Int) (hx : a.eval x = .slice A m c) (hA : A = none → m = 0 ∧ c = 0) (hR : RG w A m Y)
    (N : Nat) (hN : n + m = N) (h63 : N ≤ maxLen) (hbytes : N * bytes ≤ 140737488355328) (hbase : base ≤ w.heap.size)
    (h : ∀ v' w', w'.ownsRow base e 5 v' N (xs ++ rds Y m) → w.grownBy w' v.ownBlock → K (a.put o.dst v') w') :
    if Region.wanted o (yielded ops a.tmps) = true then Oper.wp P o a w K Q else E := by
  have hw : Region.wanted o (yielded ops a.tmps) = true := by simp [Region.wanted, hgd]
  rw [if_pos hw]
  exact wp_rds w s x t ho base e i z bytes ht hi hz hsize hby hzs v n xs hs hown A m c Y hx hA hR N hN h63 hbytes hbase h
end Go.Proofs.Ytkhmlbkkdflnoaa.Ch
