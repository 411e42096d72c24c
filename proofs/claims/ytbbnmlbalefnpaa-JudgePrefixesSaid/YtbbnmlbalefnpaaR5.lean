/- JudgePrefixes: an outcome that did not end by itself agrees with those whose output begins as its does, or is a beginning of it, and with no other. No condition. -/
import Derived.Test.YtbbnmlbalefnpaaJ8
import Derived.Test.YtbbnmlbalefnpaaOp
import Derived.ShutString
import Derived.ChangeOld
import Derived.SizedLaws
namespace Go.Proofs.Ytbbnmlbalefnpaa
open Go.RowKit Go.Proofs.YtbbnmlbalefnpaaL Go.ChangeShapes Go.WideShapes Go.ChangeAt
open Go.ChangeMaps (open_string shut_string)
set_option maxRecDepth 100000 in
theorem lifted5 (os : Os) (started : os.Started) (H : Type) (enc : TypeId × Value → H) :
    ReturnsInHanded {} Try.checked os 5 .any (Rows.judgePrefixesSpec.pre6 enc Try.prog Try.f5 Rows.judgePrefixesRow.domain false) (Rows.judgePrefixesSpec.post enc Try.prog Try.f5 false true false false) := by
  refine returnsInHanded_of_change_sized (C := Try.checked) own started (by kernel_rfl) Try.func5
    (ChangeSpec.witness6 (enc := enc) (C := Try.checked) false ⟨#[], #[.string .empty, .int .i64 0, .string .empty, .int .i64 0, .string .empty], []⟩ 8 (by kernel_rfl) (by kernel_rfl) (by kernel_rfl) (by kernel_rfl)) ?_
  intro W base args ds gs before hval0 hW hcnd hsz _
  have hval : ∀ (j : Nat) t v, Try.f5.params[j]? = some t → args[j]? = some v → Value.okWide Try.prog W .any base t v := hval0
  have hW' : DataW.Whole enc Try.prog Try.f5.params.toList Rows.judgePrefixesSpec.vars false W args.toList ds gs before := hW
  obtain ⟨p, q, hA0, hV, rfl, hfz, hnd⟩ := hW
  have hA : DataW.TrodAll enc Try.prog W 0 (fun _ => true) true Try.f5.params.toList args.toList ds p := hA0
  rw [Try.params5] at hA hval hsz
  obtain ⟨v0, vs0, d0, ds0, p0, q0, hargs, rfl, rfl, h0, r0⟩ := trodAll_cons hA
  obtain ⟨v1, vs1, d1, ds1, p1, q1, rfl, rfl, rfl, h1, r1⟩ := trodAll_cons r0
  obtain ⟨v2, vs2, d2, ds2, p2, q2, rfl, rfl, rfl, h2, r2⟩ := trodAll_cons r1
  obtain ⟨v3, vs3, d3, ds3, p3, q3, rfl, rfl, rfl, h3, r3⟩ := trodAll_cons r2
  obtain ⟨v4, vs4, d4, ds4, p4, q4, rfl, rfl, rfl, h4, r4⟩ := trodAll_cons r3
  obtain ⟨rfl, rfl, rfl⟩ := trodAll_nil r4
  obtain rfl : args = #[v0, v1, v2, v3, v4] := by cases args; simp_all
  obtain ⟨rfl, rfl⟩ := trodVars_none hV
  obtain ⟨out, rfl, rfl, rfl, hs0⟩ := open_string Try.underlying9 (hval 0 9 v0 rfl rfl) h0
  obtain ⟨n, rfl, rfl, rfl, w1⟩ := open_int Try.underlying3 (hval 1 3 v1 rfl rfl) h1
  obtain ⟨more, rfl, rfl, rfl, hs2⟩ := open_string Try.underlying9 (hval 2 9 v2 rfl rfl) h2
  obtain ⟨how, rfl, rfl, rfl, w3⟩ := open_int Try.underlying3 (hval 3 3 v3 rfl rfl) h3
  obtain ⟨text, rfl, rfl, rfl, hs4⟩ := open_string Try.underlying9 (hval 4 9 v4 rfl rfl) h4
  have z0 : out.size ≤ 140737488351232 := by
    have := sized_string hsz (j := 0) (t := 9) rfl rfl
    rwa [show out.data.toList.length = out.size from by rw [Array.length_toList]; rfl] at this
  have z2 : more.size ≤ 140737488351232 := by
    have := sized_string hsz (j := 2) (t := 9) rfl rfl
    rwa [show more.data.toList.length = more.size from by rw [Array.length_toList]; rfl] at this
  have hn : -9223372036854775808 ≤ n ∧ n ≤ 9223372036854775807 := by simpa [Lit.wf, IntKind.min, IntKind.max, IntKind.signed, IntKind.bits] using w1
  have hw : -9223372036854775808 ≤ how ∧ how ≤ 9223372036854775807 := by simpa [Lit.wf, IntKind.min, IntKind.max, IntKind.signed, IntKind.bits] using w3
  have hk1 := Int.emod_nonneg n (show (out.size : Int) + 1 ≠ 0 by omega)
  have hk2 := Int.emod_lt_of_pos n (show 0 < (out.size : Int) + 1 by omega)
  obtain ⟨k, hk⟩ := Int.eq_ofNat_of_zero_le hk1
  obtain ⟨h, hh⟩ := Int.eq_ofNat_of_zero_le (show 0 ≤ how % 3 by omega)
  have hp : ∀ w : World, Calls Try.prog 12 #[.int .i64 n, .int .i64 (↑out.size + 1)] w fun e w' => e = .returned (.int .i64 (k : Int)) ∧ w = w' := fun w => by
    rw [← hk]; exact place12 n (out.size + 1) w (by omega) (by omega) hn.1 hn.2
  have hq : ∀ w : World, Calls Try.prog 12 #[.int .i64 how, .int .i64 3] w fun e w' => e = .returned (.int .i64 (h : Int)) ∧ w = w' := fun w => by
    rw [← hh]; exact place12 how 3 w (by omega) (by omega) hw.1 hw.2
  clear hA0 hval0
  refine (law5 out more text n how k h W z0 z2 (by omega) (by omega) hp hq).mono fun e W' ⟨he, bel⟩ => ?_
  subst he
  exact ⟨_, rfl, law_post rfl Try.underlying4 laidOut (by rw [Try.params5]; decide +kernel) rfl hW' rfl bel⟩
theorem over5 : Rows.judgePrefixesRow.holds Try.pinned (OpenSpec.ofChange Rows.judgePrefixesSpec) :=
  OpenClaim.holds_of_wide 5 Try.f5 rfl rfl rfl rfl rfl rfl rfl ⟨rfl, rfl, rfl, rfl, rfl⟩ rfl rfl rfl rfl rfl (by kernel_rfl) Try.func5 (by kernel_rfl)
    (of_decide_eq_true (by kernel_rfl)) (by unfold Func.isWrapper; first | (rw [if_pos (by decide +kernel)]; kernel_rfl) | (rw [if_neg (by decide +kernel)]; exact ⟨rfl, rfl⟩))
    (fun os started H enc _ => lifted5 os started H enc)
theorem JudgePrefixes_holds : Rows.JudgePrefixesSaid := over5
#print axioms JudgePrefixes_holds
end Go.Proofs.Ytbbnmlbalefnpaa
