/-
  THE CONTRACT of hub.Receive over states; Net whatever the networks.
-/
import Derived.Test.YtkhmlbkkdflnoaaHubw
import Derived.Test.YtkhmlbkkdflnoaaArrP
import Derived.Test.YtkhmlbkkdflnoaaSetC
namespace Go.Proofs.Ytkhmlbkkdflnoaa.Hb
open Go.RowKit Go.Maps
set_option linter.unusedVariables false
set_option linter.unusedSimpArgs false
attribute [local go_sem ↓] Go.wp_at_zero Go.wp_at_succ

/-- the inboxes: none, or one -/
def BV (w : World) (v : Value) (T q : Nat) (f : Nat → Int) : Prop :=
  (v = .slice none 0 0 ∧ T = 0 ∧ q = 0) ∨ ∃ b c A cw, v = .slice (some ⟨b, 0, none⟩) 1 c ∧ B1 w b ((T : Int) + 1) q f A cw
theorem BV.keep {w w' : World} {v : Value} {T q : Nat} {f : Nat → Int} (h : BV w v T q f) (hb : Below w.heap.size w w') : BV w' v T q f := by
  rcases h with h | ⟨b, c, A, cw, h1, h2⟩
  · exact .inl h
  · exact .inr ⟨b, c, A, cw, h1, h2.keep hb⟩
/-- .. in memory made behind L -/
def FR (L : Nat) (v : Value) (w : World) : Prop := ∀ b c, v = .slice (some ⟨b, 0, none⟩) 1 c → L ≤ b ∧ ∀ (A : Option Addr) (q cw : Nat), w.cell? ⟨b, 2, none⟩ = some (.slice A q cw) → ∀ b' o, A = some ⟨b', o, none⟩ → L ≤ b'
theorem rec_any (n k T q : Nat) (f : Nat → Int) (S : List Nat) (v : Value) (w : World) (hS : ST n T q f S) (hn : n ≤ 40) (hk : k < n) (hv : BV w v T q f) :
    Calls Try.prog 21 #[v, .agg #[.int .i64 3, .int .i64 ((k : Int) + 1), .int .i64 (k : Int)]] w fun e w' => Below w.heap.size w w' ∧
      ((k ∈ S ∧ e = .returned (.tuple #[.slice none 0 0, .slice none 0 0, .int .i64 12])) ∨
       (¬ k ∈ S ∧ ∃ v' R Ao co q' f', e = .returned (.tuple #[v', .slice Ao R co, .int .i64 0]) ∧ BV w' v' (T + R) q' f' ∧ FR w.heap.size v' w' ∧ ST n (T + R) q' f' (k :: S) ∧ RP w' Ao R (mg (fun i => (T : Int) + 1 + i)) ∧ (R ≤ co ∧ co ≤ 9223372036854775807) ∧ ∀ b o, Ao = some ⟨b, o, none⟩ → w.heap.size ≤ b)) := by
  have hold := hS.old hk
  have e1 : (k : Int) = ((k : Int) + 1) - 1 := by omega
  have e2 : (.agg #[.int .i64 3, .int .i64 ((k : Int) + 1), .int .i64 (k : Int)] : Value) = .agg #[.int .i64 3, .int .i64 ((k : Int) + 1), .int .i64 (((k : Int) + 1) - 1)] := by rw [← e1]
  rw [e2]
  have hN := hS.2.1.1
  have hfew := hS.few
  have fr : ∀ {w' : World} {g c' : Nat} {N : Int} {q' : Nat} {f' : Nat → Int} {A' : Option Addr} {cw' : Nat}, B1 w' g N q' f' A' cw' → w.heap.size ≤ g → (∀ b o, A' = some ⟨b, o, none⟩ → w.heap.size ≤ b) → FR w.heap.size (.slice (some ⟨g, 0, none⟩) 1 c') w' := by
    intro w' g c' N q' f' A' cw' hb h1 h2 b c e
    cases e
    refine ⟨h1, fun A q cw hc b' o e => ?_⟩
    rw [hb.1.2.2] at hc
    cases hc
    exact h2 b' o e
  rcases hv with ⟨rfl, rfl, rfl⟩ | ⟨b, c, A, cw, rfl, hB⟩
  · have hnk : ¬ k ∈ S := by
      rw [hold]
      rintro (h | h)
      · omega
      · simp [isW] at h
    have hw : isW f ((k : Int) + 1) 0 = false := by simp [isW]
    by_cases h1 : k = 0
    · subst h1
      refine (rec_over0 ((0 : Nat) + 1) f w (by omega) (by omega)).mono ?_
      rintro e w' ⟨g, c', A', cw', Ao, co, rfl, hb, ⟨hr1, hr2, hr3⟩, hbl, f1, f2, f3⟩
      obtain ⟨s1, s2⟩ := ST.over hS hn hk hnk rfl
      refine ⟨hbl, .inr ⟨hnk, _, rn ((0 : Nat) + 1) f 0 + 1, Ao, co, _, _, rfl, .inr ⟨g, c', A', cw', rfl, ?_⟩, fr hb f1 f2, s1, hr1, ⟨hr2, hr3⟩, f3⟩⟩
      have : ((0 + (rn (((0 : Nat) : Int) + 1) f 0 + 1) : Nat) : Int) + 1 = 1 + (((rn (((0 : Nat) : Int) + 1) f 0 : Nat) : Int) + 1) := by push_cast; omega
      rw [this]
      exact hb
    · refine (rec_wait0 ((k : Int) + 1) f w (by omega) (by omega)).mono ?_
      rintro e w' ⟨g, c', A', cw', rfl, hb, hbl, f1, f2⟩
      exact ⟨hbl, .inr ⟨hnk, _, 0, none, 0, _, _, rfl, .inr ⟨g, c', A', cw', rfl, hb⟩, fr hb f1 f2, ST.wait hS hn hk (by omega) hw, fun i hi => by omega, by omega, fun b o e => by cases e⟩⟩
  · by_cases ho : (k : Int) + 1 < (T : Int) + 1 ∨ isW f ((k : Int) + 1) q = true
    · refine (rec_old b c ((T : Int) + 1) ((k : Int) + 1) q f A cw w hB (by omega) ho).mono ?_
      rintro e w' ⟨rfl, hbl⟩
      exact ⟨hbl, .inl ⟨hold.2 ho, rfl⟩⟩
    · have hnk : ¬ k ∈ S := fun h => ho (hold.1 h)
      have hw : isW f ((k : Int) + 1) q = false := by
        cases h : isW f ((k : Int) + 1) q
        · rfl
        · exact absurd (.inr h) ho
      by_cases h1 : k = T
      · subst h1
        refine (rec_over1 b c ((k : Int) + 1) ((k : Int) + 1) q f A cw w hB (by omega) (by omega) (by omega) hw).mono ?_
        rintro e w' ⟨g, c', A', cw', Ao, co, rfl, hb, ⟨hr1, hr2, hr3⟩, hbl, f1, f2, f3⟩
        obtain ⟨s1, s2⟩ := ST.over hS hn hk hnk rfl
        refine ⟨hbl, .inr ⟨hnk, _, rn ((k : Int) + 1) f q + 1, Ao, co, _, _, rfl, .inr ⟨g, c', A', cw', rfl, ?_⟩, fr hb f1 f2, s1, hr1, ⟨hr2, hr3⟩, f3⟩⟩
        have : ((k + (rn ((k : Int) + 1) f q + 1) : Nat) : Int) + 1 = (k : Int) + 1 + (((rn ((k : Int) + 1) f q : Nat) : Int) + 1) := by push_cast; omega
        rw [this]
        exact hb
      · refine (rec_wait1 b c ((T : Int) + 1) ((k : Int) + 1) q f A cw w hB (by omega) (by omega) hw (by omega)).mono ?_
        rintro e w' ⟨g, c', A', cw', rfl, hb, hbl, f1, f2⟩
        exact ⟨hbl, .inr ⟨hnk, _, 0, none, 0, _, _, rfl, .inr ⟨g, c', A', cw', rfl, hb⟩, fr hb f1 f2, ST.wait hS hn hk (by omega) hw, fun i hi => by omega, by omega, fun b o e => by cases e⟩⟩
/-- what lies apart from a row stays -/
theorem B1.apart {W W' : World} {L U : Nat} {b : Nat} {N : Int} {q : Nat} {f : Nat → Int} {A : Option Addr} {cw : Nat} (h : B1 W b N q f A cw) (hl : L ≤ b ∧ b < U) (hA : ∀ b' o, A = some ⟨b', o, none⟩ → L ≤ b' ∧ b' < U) (hk : ∀ k, L ≤ k → k < U → W'.heap[k]? = W.heap[k]?) (hs : W.heap.size ≤ W'.heap.size) : B1 W' b N q f A cw := by
  obtain ⟨⟨k0, k1, k2⟩, kr, r⟩ := h
  have hc : ∀ b j, L ≤ b → b < U → W'.cell? ⟨b, j, none⟩ = W.cell? ⟨b, j, none⟩ := fun b j h1 h2 => World.cell?_of_block (hk b h1 h2)
  refine ⟨⟨(hc b 0 hl.1 hl.2).trans k0, (hc b 1 hl.1 hl.2).trans k1, (hc b 2 hl.1 hl.2).trans k2⟩, fun i hi => ?_, r⟩
  obtain ⟨b', o, e, hb, c0, c1, c2⟩ := kr i hi
  have h3 := hA b' o e
  exact ⟨b', o, e, Nat.lt_of_lt_of_le hb hs, (hc _ _ h3.1 h3.2).trans c0, (hc _ _ h3.1 h3.2).trans c1, (hc _ _ h3.1 h3.2).trans c2⟩
/-- the inboxes and what is handed over, all made from L to U -/
def FB (L U : Nat) (w : World) (v : Value) (T q : Nat) (f : Nat → Int) (Ao : Option Addr) (R : Nat) (X : Nat → Nat → Int) : Prop :=
  ((v = .slice none 0 0 ∧ T = 0 ∧ q = 0) ∨ ∃ b c A cw, v = .slice (some ⟨b, 0, none⟩) 1 c ∧ B1 w b ((T : Int) + 1) q f A cw ∧ (L ≤ b ∧ b < U) ∧ ∀ b' o, A = some ⟨b', o, none⟩ → 0 < q → L ≤ b' ∧ b' < U) ∧
  RP w Ao R X ∧ ∀ b o, Ao = some ⟨b, o, none⟩ → 0 < R → L ≤ b ∧ b < U
theorem FB.mk' {L : Nat} {w : World} {v : Value} {T q : Nat} {f : Nat → Int} {Ao : Option Addr} {R : Nat} {X : Nat → Nat → Int} (h : BV w v T q f) (hf : FR L v w) (hR : RP w Ao R X) (hA : ∀ b o, Ao = some ⟨b, o, none⟩ → L ≤ b) : FB L w.heap.size w v T q f Ao R X := by
  refine ⟨?_, hR, fun b o e h0 => ⟨hA b o e, ?_⟩⟩
  · rcases h with h | ⟨b, c, A, cw, rfl, hB⟩
    · exact .inl h
    · obtain ⟨f1, f2⟩ := hf b c rfl
      refine .inr ⟨b, c, A, cw, rfl, hB, ⟨f1, World.block_lt_of_cell? w _ hB.1.1⟩, fun b' o e h0 => ⟨f2 A q cw hB.1.2.2 b' o e, ?_⟩⟩
      obtain ⟨b2, o2, e2, hb2, _⟩ := hB.2.1 0 h0
      rw [e] at e2
      cases e2
      exact hb2
  · obtain ⟨b2, o2, e2, hb2, _⟩ := hR 0 h0
    rw [e] at e2
    cases e2
    exact hb2
theorem FB.kept {L U : Nat} {w w' : World} {v : Value} {T q : Nat} {f : Nat → Int} {Ao : Option Addr} {R : Nat} {X : Nat → Nat → Int} (h : FB L U w v T q f Ao R X) (hk : ∀ k, L ≤ k → k < U → w'.heap[k]? = w.heap[k]?) (hs : w.heap.size ≤ w'.heap.size) : FB L U w' v T q f Ao R X := by
  obtain ⟨h1, h2, h3⟩ := h
  have rp : ∀ {A : Option Addr} {n : Nat} {Y : Nat → Nat → Int}, RP w A n Y → (∀ b o, A = some ⟨b, o, none⟩ → 0 < n → L ≤ b ∧ b < U) → RP w' A n Y := by
    intro A n Y hR hA i hi
    obtain ⟨b', o, e, hb, c0, c1, c2⟩ := hR i hi
    have h3 := hA b' o e (by omega)
    have hc : ∀ j, w'.cell? ⟨b', j, none⟩ = w.cell? ⟨b', j, none⟩ := fun j => World.cell?_of_block (hk b' h3.1 h3.2)
    exact ⟨b', o, e, Nat.lt_of_lt_of_le hb hs, (hc _).trans c0, (hc _).trans c1, (hc _).trans c2⟩
  refine ⟨?_, rp h2 h3, h3⟩
  rcases h1 with h | ⟨b, c, A, cw, rfl, ⟨⟨k0, k1, k2⟩, kr, r⟩, hl, hA⟩
  · exact .inl h
  · have hc : ∀ j, w'.cell? ⟨b, j, none⟩ = w.cell? ⟨b, j, none⟩ := fun j => World.cell?_of_block (hk b hl.1 hl.2)
    exact .inr ⟨b, c, A, cw, rfl, ⟨⟨(hc 0).trans k0, (hc 1).trans k1, (hc 2).trans k2⟩, rp kr hA, r⟩, hl, hA⟩
theorem FB.bv {L U : Nat} {w : World} {v : Value} {T q : Nat} {f : Nat → Int} {Ao : Option Addr} {R : Nat} {X : Nat → Nat → Int} (h : FB L U w v T q f Ao R X) : BV w v T q f := by
  rcases h.1 with h | ⟨b, c, A, cw, h1, h2, _⟩
  · exact .inl h
  · exact .inr ⟨b, c, A, cw, h1, h2⟩
/-- a map's block is none of an inbox's -/
theorem BV.mapped {W W' : World} {v : Value} {T q : Nat} {f : Nat → Int} {bm : Nat} {o : Obj} (h : BV W v T q f) (hm : W.heap[bm]? = some o) (hc : o.isCells = false) (hg : W.grownBy W' (some bm)) : BV W' v T q f := by
  have ck : ∀ {a : Addr} {u : Value}, W.cell? a = some u → W'.cell? a = some u := fun h => cell_kept h hg (fun r e => by cases e; exact ⟨o, hm, hc⟩)
  rcases h with h | ⟨b, c, A, cw, rfl, ⟨⟨k0, k1, k2⟩, kr, r⟩⟩
  · exact .inl h
  · refine .inr ⟨b, c, A, cw, rfl, ⟨ck k0, ck k1, ck k2⟩, fun i hi => ?_, r⟩
    obtain ⟨b', o', e, hb, c0, c1, c2⟩ := kr i hi
    exact ⟨b', o', e, Nat.lt_of_lt_of_le hb hg.size, ck c0, ck c1, ck c2⟩
theorem IM.obj {W : World} {b n : Nat} {S : List Nat} (h : IM W b n S) : ∃ o, W.heap[b]? = some o ∧ o.isCells = false := by
  obtain ⟨D, ⟨es, cl, hb, _⟩, _⟩ := h
  exact ⟨_, hb, rfl⟩
theorem wpList_update_IM (w : World) {ops : Array Oper} {rest : List Oper} {o : Oper} {a : Act} {Q : Exit → Act → World → Prop}
    (hg : o.guard = none) (m x y : Operand) (hop : o.op = Op.mapUpdate 64 m x y) (b n : Nat) (S : List Nat) (hm : a.eval m = .map (some b)) (hS : IM w b n S) (hn : n < 1000) (k : Nat) (hk : k < 1000) (hx : a.eval x = .int .i64 (k : Int)) (hy : a.eval y = .bool true)
    (hK : ∀ w', IM w' b (n + 1) (if k ∈ S then S else k :: S) → w.grownBy w' (some b) → wpList Try.prog ops Q rest (a.put o.dst undef) w') : wpList Try.prog ops Q (o :: rest) a w := by
  refine wpList_plain hg fun K' hK' => ?_
  obtain ⟨w', hrun, h1, h2⟩ := hS.update hn k hk
  unfold Oper.wp
  simp [execOp, hop, hm, hx, hy, hrun, Result.andThen]
  exact hK' _ _ (hK w' h1 h2)
theorem net_arg (A : Option Addr) (n c : Nat) (m : Int) (w : World) (hn : n ≤ 64) (hm : m < 1 ∨ 8 < m) :
    Calls Try.prog 17 #[.slice A n c, .int .i64 m] w fun e w' => e = .returned (.tuple #[.slice none 0 0, .int .i64 1]) ∧ w = w' := by
  rcases hm with hm | hm
  · go_enter Try.func17, Try.ntmps17
    go_wp2_with fail
    all_goals (try (exfalso; omega))
    go_ret2
    exact ⟨rfl, rfl⟩
  · have h1 : ¬ m < 1 := by omega
    go_enter Try.func17, Try.ntmps17
    go_wp2_with fail
    all_goals (try (exfalso; omega))
    go_ret2
    exact ⟨rfl, rfl⟩
end Go.Proofs.Ytkhmlbkkdflnoaa.Hb
