/-
  'TopRecordsArrive': for every input the law returns true and leaves its arguments as they were.
-/
import Derived.Test.YtkhmlbkkdflnoaaArr
import Derived.Test.YtkhmlbkkdflnoaaArOpen
import Derived.Test.YtkhmlbkkdflnoaaBlOpen
import Derived.Test.YtkhmlbkkdflnoaaPost
namespace Go.Proofs.Ytkhmlbkkdflnoaa.topRecordsArrive
open Go.ChangeShapes Go.WideShapes Go.ChangeAt Go.RowKit

set_option maxRecDepth 100000 in
theorem lifted (os : Os) (started : os.Started) (H : Type) (enc : TypeId × Value → H) :
    ReturnsInHanded {} Try.checked os 6 .any (Rows.topRecordsArriveSpec.pre6 enc Try.prog Try.f6 Rows.topRecordsArriveRow.domain false) (Rows.topRecordsArriveSpec.post enc Try.prog Try.f6 false true false false) := by
  refine returnsInHanded_of_change (C := Try.checked) own started (by kernel_rfl) Try.func6
    (ChangeSpec.witness6 (enc := enc) (C := Try.checked) false ⟨#[], #[.slice none 0 0, .int .i64 0, .slice none 0 0], []⟩ 8 (by kernel_rfl) (by kernel_rfl) (by kernel_rfl) (by kernel_rfl)) ?_
  intro W base args ds gs before hval0 hW hcnd _
  have hval : ∀ (j : Nat) t v, Try.f6.params[j]? = some t → args[j]? = some v → Value.okWide Try.prog W .any base t v := hval0
  have hW' := hW
  obtain ⟨p, q, hA0, hV, rfl, hfz, hnd⟩ := hW
  have hA : DataW.TrodAll enc Try.prog W 0 (fun _ => true) true Try.f6.params.toList args.toList ds p := hA0
  rw [Try.params6] at hA hval
  obtain ⟨v0, vs0, d0, ds0, p0, q0, hargs, rfl, rfl, h0, r0⟩ := trodAll_cons hA
  obtain ⟨v1, vs1, d1, ds1, p1, q1, rfl, rfl, rfl, h1, r1⟩ := trodAll_cons r0
  obtain ⟨v2, vs2, d2, ds2, p2, q2, rfl, rfl, rfl, h2, r2⟩ := trodAll_cons r1
  obtain ⟨rfl, rfl, rfl⟩ := trodAll_nil r2
  obtain rfl : args = #[v0, v1, v2] := by cases args; simp_all
  obtain ⟨rfl, rfl⟩ := trodVars_none hV
  obtain ⟨A0, n0, c0, z0, rfl, hn0, hc0, hN0, hT0, hw0⟩ := Ao.open_recs (hval 0 43 v0 rfl rfl) h0
  obtain ⟨a1, rfl, rfl, rfl, w1⟩ := open_int Try.underlying3 (hval 1 3 v1 rfl rfl) h1
  obtain ⟨A2, l2, c2, z2, rfl, hn2, hc2, hA2, hT2⟩ := open_nums Try.underlying39 Try.underlying5 Rc.cellsByte (hval 2 39 v2 rfl rfl) h2
  clear hA0 hval0
  refine (Hb.arr_all A0 n0 c0 z0 a1 A2 l2 c2 z2 W hT0 hw0 (Rc.RN.uo hT2) (by omega) (by omega) ⟨hn0, hc0⟩).mono fun e W' ⟨he, hg⟩ => ?_
  subst he
  exact ⟨_, rfl, post_true laidOut hW' (by kernel_rfl) rfl (by kernel_rfl) Try.underlying4 rfl rfl rfl hg⟩

theorem proved : Rows.TopRecordsArriveSaid :=
  OpenClaim.holds_of_wide 6 Try.f6 rfl rfl rfl rfl rfl rfl rfl ⟨rfl, rfl, rfl, rfl, rfl⟩ rfl rfl rfl rfl rfl (by kernel_rfl) Try.func6 (by kernel_rfl)
    (of_decide_eq_true (by kernel_rfl)) (by unfold Func.isWrapper; first | (rw [if_pos (by decide +kernel)]; kernel_rfl) | (rw [if_neg (by decide +kernel)]; exact ⟨rfl, rfl⟩))
    (fun os started H enc _ => lifted os started H enc)
end Go.Proofs.Ytkhmlbkkdflnoaa.topRecordsArrive
