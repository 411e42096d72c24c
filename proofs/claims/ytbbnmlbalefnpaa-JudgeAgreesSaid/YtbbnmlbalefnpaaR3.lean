/- JudgeAgrees: of any two outcomes judge.Agree and judge.Whole answer as the statement's own definitions do, judge.Agree is symmetric, and an outcome agrees with itself. No condition. -/
import Derived.Test.YtbbnmlbalefnpaaJ4
import Derived.Test.YtbbnmlbalefnpaaOp
import Derived.ShutString
import Derived.ChangeOld
namespace Go.Proofs.Ytbbnmlbalefnpaa
open Go.RowKit Go.Proofs.YtbbnmlbalefnpaaL Go.ChangeShapes Go.WideShapes Go.ChangeAt
set_option maxRecDepth 100000 in
theorem lifted3 (os : Os) (started : os.Started) (H : Type) (enc : TypeId × Value → H) :
    ReturnsInHanded {} Try.checked os 3 .any (Rows.judgeAgreesSpec.pre6 enc Try.prog Try.f3 Rows.judgeAgreesRow.domain false) (Rows.judgeAgreesSpec.post enc Try.prog Try.f3 false true false false) := by
  refine returnsInHanded_of_change (C := Try.checked) own started (by kernel_rfl) Try.func3
    (ChangeSpec.witness6 (enc := enc) (C := Try.checked) false ⟨#[], #[.agg #[.int .i64 0, .string ⟨#[]⟩, .string ⟨#[]⟩, .int .i64 0, .int .i64 0], .agg #[.int .i64 0, .string ⟨#[]⟩, .string ⟨#[]⟩, .int .i64 0, .int .i64 0]], []⟩ 8 (by kernel_rfl) (by kernel_rfl) (by kernel_rfl) (by kernel_rfl)) ?_
  intro W base args ds gs before hval0 hW hcnd _
  have hval : ∀ (j : Nat) t v, Try.f3.params[j]? = some t → args[j]? = some v → Value.okWide Try.prog W .any base t v := hval0
  have hW' : DataW.Whole enc Try.prog Try.f3.params.toList Rows.judgeAgreesSpec.vars false W args.toList ds gs before := hW
  obtain ⟨p, q, hA0, hV, rfl, hfz, hnd⟩ := hW
  have hA : DataW.TrodAll enc Try.prog W 0 (fun _ => true) true Try.f3.params.toList args.toList ds p := hA0
  rw [Try.params3] at hA hval
  obtain ⟨v0, vs0, d0, ds0, p0, q0, hargs, rfl, rfl, h0, r0⟩ := trodAll_cons hA
  obtain ⟨v1, vs1, d1, ds1, p1, q1, rfl, rfl, rfl, h1, r1⟩ := trodAll_cons r0
  obtain ⟨rfl, rfl, rfl⟩ := trodAll_nil r1
  obtain rfl : args = #[v0, v1] := by cases args; simp_all
  obtain ⟨rfl, rfl⟩ := trodVars_none hV
  obtain ⟨x, rfl⟩ := open24 (hval 0 24 v0 rfl rfl) h0
  obtain ⟨y, rfl⟩ := open24 (hval 1 24 v1 rfl rfl) h1
  clear hA0 hval0
  refine (law3 x y W).mono fun e W' ⟨he, bel⟩ => ?_
  subst he
  exact ⟨_, rfl, law_post rfl Try.underlying4 laidOut (by rw [Try.params3]; decide +kernel) rfl hW' rfl bel⟩
theorem over3 : Rows.judgeAgreesRow.holds Try.pinned (OpenSpec.ofChange Rows.judgeAgreesSpec) :=
  OpenClaim.holds_of_wide 3 Try.f3 rfl rfl rfl rfl rfl rfl rfl ⟨rfl, rfl, rfl, rfl, rfl⟩ rfl rfl rfl rfl rfl (by kernel_rfl) Try.func3 (by kernel_rfl)
    (of_decide_eq_true (by kernel_rfl)) (by unfold Func.isWrapper; first | (rw [if_pos (by decide +kernel)]; kernel_rfl) | (rw [if_neg (by decide +kernel)]; exact ⟨rfl, rfl⟩))
    (fun os started H enc _ => lifted3 os started H enc)
theorem JudgeAgrees_holds : Rows.JudgeAgreesSaid := over3
#print axioms JudgeAgrees_holds
end Go.Proofs.Ytbbnmlbalefnpaa
