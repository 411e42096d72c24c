/- JudgeAlls: any number of outcomes agree (judge.All) if and only if each two of them do; of none it is true. No condition. -/
import Derived.Test.YtbbnmlbalefnpaaJ5
import Derived.Test.YtbbnmlbalefnpaaOp
import Derived.ShutString
import Derived.ChangeOld
import Derived.SizedLaws
namespace Go.Proofs.Ytbbnmlbalefnpaa
open Go.RowKit Go.Proofs.YtbbnmlbalefnpaaL Go.ChangeShapes Go.WideShapes Go.ChangeAt
open Go.ChangeMaps (open_string shut_string)
set_option maxRecDepth 100000 in
theorem lifted4 (os : Os) (started : os.Started) (H : Type) (enc : TypeId × Value → H) :
    ReturnsInHanded {} Try.checked os 4 .any (Rows.judgeAllsSpec.pre6 enc Try.prog Try.f4 Rows.judgeAllsRow.domain false) (Rows.judgeAllsSpec.post enc Try.prog Try.f4 false true false false) := by
  refine returnsInHanded_of_change_sized (C := Try.checked) own started (by kernel_rfl) Try.func4
    (ChangeSpec.witness6 (enc := enc) (C := Try.checked) false ⟨#[], #[.slice none 0 0], []⟩ 8 (by kernel_rfl) (by kernel_rfl) (by kernel_rfl) (by kernel_rfl)) ?_
  intro W base args ds gs before hval0 hW hcnd hsz _
  have hval : ∀ (j : Nat) t v, Try.f4.params[j]? = some t → args[j]? = some v → Value.okWide Try.prog W .any base t v := hval0
  have hW' : DataW.Whole enc Try.prog Try.f4.params.toList Rows.judgeAllsSpec.vars false W args.toList ds gs before := hW
  obtain ⟨p, q, hA0, hV, rfl, hfz, hnd⟩ := hW
  have hA : DataW.TrodAll enc Try.prog W 0 (fun _ => true) true Try.f4.params.toList args.toList ds p := hA0
  rw [Try.params4] at hA hval hsz
  obtain ⟨v0, vs0, d0, ds0, p0, q0, hargs, rfl, rfl, h0, r0⟩ := trodAll_cons hA
  obtain ⟨rfl, rfl, rfl⟩ := trodAll_nil r0
  obtain rfl : args = #[v0] := by cases args; simp_all
  obtain ⟨rfl, rfl⟩ := trodVars_none hV
  obtain ⟨A, len, cap, rfl⟩ := okWide_slice Try.underlying28 (hval 0 28 v0 rfl rfl)
  obtain ⟨hl, hm, hA1, _⟩ := elems_at Try.underlying28 h0
  obtain ⟨l, rfl, hr⟩ := rd_of_elems (α := Out) (en := encO) Try.underlying28 cells24 (by decide) dec24 h0
  have hb : l.length * 56 ≤ 140737488351232 := slice_room Try.underlying28 (by kernel_rfl) h0 hsz
  clear hA0 hval0
  refine (law4 l A cap W hr hl hA1 (by omega)).mono fun e W' ⟨he, bel⟩ => ?_
  subst he
  exact ⟨_, rfl, law_post rfl Try.underlying4 laidOut (by rw [Try.params4]; decide +kernel) rfl hW' rfl bel⟩
theorem over4 : Rows.judgeAllsRow.holds Try.pinned (OpenSpec.ofChange Rows.judgeAllsSpec) :=
  OpenClaim.holds_of_wide 4 Try.f4 rfl rfl rfl rfl rfl rfl rfl ⟨rfl, rfl, rfl, rfl, rfl⟩ rfl rfl rfl rfl rfl (by kernel_rfl) Try.func4 (by kernel_rfl)
    (of_decide_eq_true (by kernel_rfl)) (by unfold Func.isWrapper; first | (rw [if_pos (by decide +kernel)]; kernel_rfl) | (rw [if_neg (by decide +kernel)]; exact ⟨rfl, rfl⟩))
    (fun os started H enc _ => lifted4 os started H enc)
theorem JudgeAlls_holds : Rows.JudgeAllsSaid := over4
#print axioms JudgeAlls_holds
end Go.Proofs.Ytbbnmlbalefnpaa
