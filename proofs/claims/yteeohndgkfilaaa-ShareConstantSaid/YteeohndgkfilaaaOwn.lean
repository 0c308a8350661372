/-
  ROWS OF ONE's OWN that grow: read, kept, told by their form.
-/
import Derived.Test.YteeohndgkfilaaaUni
namespace Go.Proofs.Yteeohndgkfilaaa
open Go.RowKit
set_option linter.unusedVariables false

theorem own_below {W W' : World} {B : Nat} {t : TypeId} {s n : Nat} {v : Value} {xs : List Value} (h : W.ownsRow B t s v n xs) (hb : Below W.heap.size W W') : W'.ownsRow B t s v n xs := by
  refine ⟨h.1, ?_⟩
  rcases h.2 with h' | ⟨g, cap, cur, h1, h2, h3, h4⟩
  · exact .inl h'
  · exact .inr ⟨g, cap, cur, h1, h2, (hb.block g (Array.getElem?_eq_some_iff.1 h3).1).trans h3, h4⟩
theorem own_ge {w : World} {base : Nat} {e : TypeId} {size : Nat} {v : Value} {n : Nat} {xs : List Value} (h : w.ownsRow base e size v n xs) : ∀ g, v.ownBlock = some g → base ≤ g := fun g hg => (h.lt g hg).1
theorem own_form {W : World} {B : Nat} {t : TypeId} {s n : Nat} {v : Value} {xs : List Value} (h : W.ownsRow B t s v n xs) : ∃ A c, v = .slice A n c ∧ (n ≤ c ∧ c ≤ 9223372036854775807) ∧ (A = none → n = 0 ∧ c = 0) := by
  rcases h.2 with ⟨h', h''⟩ | ⟨g', cap', cur, h', _, _, h1, h2, _⟩
  · exact ⟨none, 0, by rw [h', h''], by omega, fun _ => ⟨h'', rfl⟩⟩
  · exact ⟨_, cap', h', by unfold maxLen at h2; omega, fun e => (by cases e)⟩
theorem own_rl {W : World} {B : Nat} {t : TypeId} {s n m c : Nat} {A : Option Addr} {xs : List Value} (h : W.ownsRow B t s (.slice A m c) n xs) : RL W A xs := by
  intro j v hv
  have hj := (List.getElem?_eq_some_iff.1 hv).1
  rcases h.2 with ⟨h', h''⟩ | ⟨g, cap, cur, h', h1, h2, h3, h4, h5, h6⟩
  · have := h.1; rw [h''] at this; omega
  · injection h' with e1 e2 e3
    subst e1
    refine ⟨g, 0, rfl, (Array.getElem?_eq_some_iff.1 h2).1, ?_⟩
    rw [Nat.zero_add, cell_of_row W g j cur t (0, 0) h2, ← Array.getElem?_toList]
    rw [← h6, List.getElem?_take] at hv
    split at hv
    · exact hv
    · cases hv
theorem one2 (a b : Int) : ∀ u ∈ [Value.int .i64 a, .int .i64 b], u.oneCell' = true := by
  intro u hu
  simp only [List.mem_cons, List.not_mem_nil, or_false] at hu
  rcases hu with rfl | rfl <;> rfl
theorem one1c (a : Int) : ∀ u ∈ [Value.int .i64 a], u.oneCell' = true := by
  intro u hu
  simp only [List.mem_cons, List.not_mem_nil, or_false] at hu
  subst hu
  rfl
theorem cT_snoc (l : List (Int × Int)) (a b : Int) : cT l ++ [.int .i64 a, .int .i64 b] = cT (l ++ [(a, b)]) := by rw [cT_app]; rfl
theorem cI_snoc (l : List Int) (a : Int) : cI l ++ [.int .i64 a] = cI (l ++ [a]) := by rw [cI_app]; rfl
theorem take_snoc2 {l : List (Int × Int)} {k : Nat} (h : k < l.length) : l.take (k + 1) = l.take k ++ [at2 l k] := by rw [List.take_add_one, at2_get h]; rfl
theorem take_snoc1 {l : List Int} {k : Nat} (h : k < l.length) : l.take (k + 1) = l.take k ++ [at1 l k] := by rw [List.take_add_one, at1_get h]; rfl
theorem wo_app (x : Int) (l m : List (Int × Int)) : wo x (l ++ m) = wo x l ++ wo x m := by simp [wo]
theorem wo_len (x : Int) (l : List (Int × Int)) : (wo x l).length ≤ l.length := List.length_filter_le _ _
theorem wo_less {x : Int} {l : List (Int × Int)} (h : hasT x l) : (wo x l).length < l.length := by
  obtain ⟨p, hp, he⟩ := hasT_iff.1 h
  refine Nat.lt_of_le_of_ne (wo_len x l) fun e => ?_
  have := List.length_filter_eq_length_iff.1 e p hp
  simp [he] at this
theorem wo_full {x : Int} {l : List (Int × Int)} (h : ¬ hasT x l) : wo x l = l := wo_self fun i hi he => h ⟨i, hi, he⟩
section
variable {P : Program}
/-- append onto a row of one's own, the source at an address, nil or empty or not -/
theorem wp_rl (w : World) {o : Oper} {a : Act} {K : Act → World → Prop} {Q : Exit → Act → World → Prop} (s x : Operand) (t : TypeId)
    (ho : o.op = .call { callee := .builtin .append, args := #[s, x], argTypes := #[t, t] })
    (base : Nat) (e : TypeId) (i : TypeInfo) (z : Value) (size bytes : Nat) (ht : P.underlying t = some (.slice e)) (hi : P.info? e = some i) (hz : i.zero = some z)
    (hsize : i.size = size) (hby : i.bytes = bytes) (hzs : z.cells.size = size) (hsz : 0 < size)
    (v : Value) (n : Nat) (xs : List Value) (hs : a.eval s = v) (hown : w.ownsRow base e size v n xs)
    (A : Option Addr) (m c : Nat) (news : List Value) (hx : a.eval x = .slice A m c) (hA : A = none → m = 0 ∧ c = 0) (hl : news.length = m * size) (hR : RL w A news) (h1 : ∀ u ∈ news, u.oneCell' = true)
    (N : Nat) (hN : n + m = N) (h63 : N ≤ maxLen) (hbytes : N * bytes ≤ 140737488355328) (hbase : base ≤ w.heap.size)
    (h : ∀ v' w', w'.ownsRow base e size v' N (xs ++ news) → w.grownBy w' v.ownBlock → K (a.put o.dst v') w') : o.wp P a w K Q := by
  subst hN
  obtain ⟨v', w', hr, h2, h3⟩ : ∃ v' w', (Builtin.append_ #[t, t] o.type #[v, .slice A m c]).run P w = .ok v' w' ∧ w'.ownsRow base e size v' (n + m) (xs ++ news) ∧ w.grownBy w' v.ownBlock := by
    cases A with
    | none =>
      obtain ⟨rfl, rfl⟩ := hA rfl
      obtain rfl : news = [] := List.eq_nil_of_length_eq_zero (by simpa using hl)
      exact ⟨v, w, run_append_owned_none w base t o.type e i size ht hi v n xs hown, by simpa using hown, ⟨rfl, rfl, rfl, Nat.le_refl _, fun _ _ _ => rfl⟩⟩
    | some ad =>
      have hn : ∀ j u, news[j]? = some u → w.cell? (ad.add j) = some u := by
        intro j u hu
        obtain ⟨b, o', e', _, hc⟩ := hR j u hu
        cases e'
        rw [Addr.add_lit]
        exact hc
      obtain ⟨v', w', hr, h2, h3, _, _⟩ := run_append_own_at (P := P) w base t o.type e i z size bytes ht hi hz hsize hby hzs hsz v n xs hown ad m c news hl hn h1 h63 hbytes hbase
      exact ⟨v', w', hr, h2, h3⟩
  unfold Oper.wp execOp
  simp only [ho, resolve, invoke, builtin, Sem.run_bind, Sem.run_pure, Result.andThen_ok, List.map_toArray, List.map_cons, List.map_nil, hs, hx, hr]
  exact h v' w' h2 h3
theorem step_rl (w : World) {ops : Array Oper} {o : Oper} {a : Act} {K : Act → World → Prop} {Q : Exit → Act → World → Prop} {E : Prop} (hgd : o.guard = none) (s x : Operand) (t : TypeId)
    (ho : o.op = .call { callee := .builtin .append, args := #[s, x], argTypes := #[t, t] })
    (base : Nat) (e : TypeId) (i : TypeInfo) (z : Value) (size bytes : Nat) (ht : P.underlying t = some (.slice e)) (hi : P.info? e = some i) (hz : i.zero = some z)
    (hsize : i.size = size) (hby : i.bytes = bytes) (hzs : z.cells.size = size) (hsz : 0 < size)
    (v : Value) (n : Nat) (xs : List Value) (hs : a.eval s = v) (hown : w.ownsRow base e size v n xs)
    (A : Option Addr) (m c : Nat) (news : List Value) (hx : a.eval x = .slice A m c) (hA : A = none → m = 0 ∧ c = 0) (hl : news.length = m * size) (hR : RL w A news) (h1 : ∀ u ∈ news, u.oneCell' = true)
    (N : Nat) (hN : n + m = N) (h63 : N ≤ maxLen) (hbytes : N * bytes ≤ 140737488355328) (hbase : base ≤ w.heap.size)
    (h : ∀ v' w', w'.ownsRow base e size v' N (xs ++ news) → w.grownBy w' v.ownBlock → K (a.put o.dst v') w') :
    if Region.wanted o (yielded ops a.tmps) = true then Oper.wp P o a w K Q else E := by
  have hw : Region.wanted o (yielded ops a.tmps) = true := by simp [Region.wanted, hgd]
  rw [if_pos hw]
  exact wp_rl w s x t ho base e i z size bytes ht hi hz hsize hby hzs hsz v n xs hs hown A m c news hx hA hl hR h1 N hN h63 hbytes hbase h
end
theorem own_at0 {W : World} {B g : Nat} {t : TypeId} {s cap : Nat} {cs : Array Value} (h : W.heap[g]? = some (.cells cs t (0, 0))) (hB : B ≤ g) (hc : cap ≤ maxLen) (hl : cs.size = cap * s) : W.ownsRow B t s (.slice (some ⟨g, 0, none⟩) 0 cap) 0 [] :=
  ⟨by simp, .inr ⟨g, cap, cs, rfl, hB, h, Nat.zero_le _, hc, hl, by simp⟩⟩
theorem ack_v (v : Value) (h nx : Int) (O : List (Int × Int)) (I : List Int) (x : Int) (w : World) (hs : SV w v h nx O I) :
    Calls Try.prog 15 #[v, .int .i64 x] w fun e w' => ∃ h' nx' A' n' B' m' er O' I', e = .returned (.tuple #[.agg #[.int .i64 h', .int .i64 nx', .slice A' n' n', .slice B' m' m'], .int .i64 er]) ∧ SC w' h' nx' A' n' B' m' O' I' ∧
      (aE h nx O I x = er ∧ ((er = 0 ∧ h' = h ∧ nx' = nx ∧ O' = wo x O ∧ I' = I) ∨ (er ≠ 0 ∧ h' = 0 ∧ nx' = 0 ∧ O' = [] ∧ I' = []))) ∧ Below w.heap.size w w' := by
  refine (ack_all v h nx O I x w hs).mono ?_
  rintro e w' ⟨⟨v', er, rfl, h1, h2⟩, hb⟩
  rcases h2 with ⟨h0, h3⟩ | ⟨h3, rfl⟩
  · obtain ⟨u0, u1, u2, u3, rfl, hs'⟩ := h3.sc
    exact ⟨_, _, u0, u1, u2, u3, er, _, _, rfl, hs', ⟨h1.symm, .inl ⟨h0, rfl, rfl, rfl, rfl⟩⟩, hb⟩
  · exact ⟨0, 0, none, 0, none, 0, er, [], [], rfl, SN_lit w' 0 0, ⟨h1.symm, .inr ⟨h3, rfl, rfl, rfl, rfl⟩⟩, hb⟩
end Go.Proofs.Yteeohndgkfilaaa
