/-
  'TopSharesAgree': for every input the law returns true and leaves its arguments as they were.
-/
import Derived.Test.YtkhmlbkkdflnoaaLaw
import Derived.Test.YtkhmlbkkdflnoaaStOpen
import Derived.Test.YtkhmlbkkdflnoaaPost
namespace Go.Proofs.Ytkhmlbkkdflnoaa.topSharesAgree
open Go.ChangeShapes Go.WideShapes Go.ChangeAt Go.RowKit

set_option maxRecDepth 100000 in
theorem lifted (os : Os) (started : os.Started) (H : Type) (enc : TypeId × Value → H) :
    ReturnsInHanded {} Try.checked os 8 .any (Rows.topSharesAgreeSpec.pre6 enc Try.prog Try.f8 Rows.topSharesAgreeRow.domain false) (Rows.topSharesAgreeSpec.post enc Try.prog Try.f8 false true false false) := by
  refine returnsInHanded_of_change (C := Try.checked) own started (by kernel_rfl) Try.func8
    (ChangeSpec.witness6 (enc := enc) (C := Try.checked) false ⟨#[], #[.agg #[.slice none 0 0, .slice none 0 0, .slice none 0 0, .slice none 0 0, .slice none 0 0], .slice none 0 0, .slice none 0 0], []⟩ 8 (by kernel_rfl) (by kernel_rfl) (by kernel_rfl) (by kernel_rfl)) ?_
  intro W base args ds gs before hval0 hW hcnd _
  have hval : ∀ (j : Nat) t v, Try.f8.params[j]? = some t → args[j]? = some v → Value.okWide Try.prog W .any base t v := hval0
  have hW' := hW
  obtain ⟨p, q, hA0, hV, rfl, hfz, hnd⟩ := hW
  have hA : DataW.TrodAll enc Try.prog W 0 (fun _ => true) true Try.f8.params.toList args.toList ds p := hA0
  rw [Try.params8] at hA hval
  obtain ⟨v0, vs0, d0, ds0, p0, q0, hargs, rfl, rfl, h0, r0⟩ := trodAll_cons hA
  obtain ⟨v1, vs1, d1, ds1, p1, q1, rfl, rfl, rfl, h1, r1⟩ := trodAll_cons r0
  obtain ⟨v2, vs2, d2, ds2, p2, q2, rfl, rfl, rfl, h2, r2⟩ := trodAll_cons r1
  obtain ⟨rfl, rfl, rfl⟩ := trodAll_nil r2
  obtain rfl : args = #[v0, v1, v2] := by cases args; simp_all
  obtain ⟨rfl, rfl⟩ := trodVars_none hV
  obtain ⟨S0, rfl, hS0⟩ := Nm.open_site (hval 0 80 v0 rfl rfl) h0
  obtain ⟨A1, n1, c1, z1, rfl, hn1, hc1, hN1, hT1⟩ := open_nums Try.underlying46 Try.underlying3 Nm.cellsI (hval 1 46 v1 rfl rfl) h1
  obtain ⟨A2, n2, c2, z2, rfl, hn2, hc2, hN2, hT2⟩ := open_nums Try.underlying46 Try.underlying3 Nm.cellsI (hval 2 46 v2 rfl rfl) h2
  clear hA0 hval0
  refine (Nm.law_walk S0 A1 n1 c1 z1 A2 n2 c2 z2 W hS0 (Nm.ni_rz hT1) ⟨hn1, hc1⟩ (Nm.ni_rz hT2) ⟨hn2, hc2⟩).mono fun e W' ⟨he, hg⟩ => ?_
  subst he
  exact ⟨_, rfl, post_true laidOut hW' (by kernel_rfl) rfl (by kernel_rfl) Try.underlying4 rfl rfl rfl hg⟩

theorem proved : Rows.TopSharesAgreeSaid :=
  OpenClaim.holds_of_wide 8 Try.f8 rfl rfl rfl rfl rfl rfl rfl ⟨rfl, rfl, rfl, rfl, rfl⟩ rfl rfl rfl rfl rfl (by kernel_rfl) Try.func8 (by kernel_rfl)
    (of_decide_eq_true (by kernel_rfl)) (by unfold Func.isWrapper; first | (rw [if_pos (by decide +kernel)]; kernel_rfl) | (rw [if_neg (by decide +kernel)]; exact ⟨rfl, rfl⟩))
    (fun os started H enc _ => lifted os started H enc)
end Go.Proofs.Ytkhmlbkkdflnoaa.topSharesAgree
