import Derived.Test.YtdapbegadhcpcaaDoorDat5
import Derived.Test.YtdapbegadhcpcaaDoorLawReadDepths
/- The row of tandemlaw05.ReadDepths. -/
namespace Go.Proofs.YtdapbegadhcpcaaDoor
open Go.RowKit Go.Proofs.YtdapbegadhcpcaaDoorL Go.Proofs.YtdapbegadhcpcaaDoorM Go.ChangeShapes Go.WideShapes Go.ChangeAt Go.Deep
set_option linter.unusedVariables false
set_option linter.unusedSimpArgs false
def readDepthsArgs : Array Value := #[.int .i64 0, .int .i64 0]
theorem readDepths_laid (os : Os) : laidMet Tryd.prog Rows.readDepthsRow.laid ((laidWorld os).forCall (fun _ _ => 0) ⟨#[], readDepthsArgs, []⟩).memory :=
  laidMet_of_run' 8 (by kernel_rfl) (by kernel_rfl)
theorem readDepths_reads (os : Os) {H : Type} (enc : TypeId × Value → H) : ∃ x, DataW.whole enc Tryd.prog ((laidWorld os).forCall (fun _ _ => 0) ⟨#[], readDepthsArgs, []⟩).memory Tryd.f5.params.toList Rows.readDepthsSpec.vars false readDepthsArgs.toList 8 = some x :=
  ⟨([.lit (.int .i64 0), .lit (.int .i64 0)], [], []), by kernel_rfl⟩
set_option maxRecDepth 100000 in
theorem readDepths_contract (H : Type) (enc : TypeId × Value → H) (W : World) (base : Nat) (args : Array Value) (ds gs : List (DataW H)) (before : List MemPlace)
    (hval : ∀ (j : Nat) t v, Tryd.f5.params[j]? = some t → args[j]? = some v → Value.okWide Tryd.prog W .any base t v)
    (hW : DataW.Whole enc Tryd.prog Tryd.f5.params.toList Rows.readDepthsSpec.vars false W args.toList ds gs before) (hL : laidMetH Tryd.prog Rows.readDepthsRow.laid W) :
    Calls Tryd.prog 5 args W fun e W' => ∃ v, e = .returned v ∧ Rows.readDepthsSpec.post enc Tryd.prog Tryd.f5 false true false false W args v W' := by
  have hW' := hW
  obtain ⟨p, q, hA0, hV, rfl, hfz, hnd⟩ := hW
  have hA : DataW.TrodAll enc Tryd.prog W 0 (fun _ => true) true Tryd.f5.params.toList args.toList ds p := hA0
  rw [Tryd.params5] at hA hval
  obtain ⟨v0, vs0, d0, ds0, p0, q0, hv0, rfl, rfl, h0, r0⟩ := trodAll_cons hA
  obtain ⟨v1, vs1, d1, ds1, p1, q1, hv1, rfl, rfl, h1, r1⟩ := trodAll_cons r0
  obtain ⟨hv2, rfl, rfl⟩ := trodAll_nil r1
  obtain rfl : args = #[v0, v1] := by
    have e : args.toList = [v0, v1] := by rw [hv0, hv1, hv2]
    exact Array.toList_inj.1 e
  obtain ⟨rfl, rfl⟩ := trodVars_none hV
  obtain ⟨x0, rfl, hx0⟩ := openI (hval 0 3 v0 rfl rfl) h0
  obtain ⟨x1, rfl, hx1⟩ := openI (hval 1 3 v1 rfl rfl) h1
  clear hA0
  refine (readDepths_any x0 x1 W hx0 hx1).mono fun e W' ⟨v, he, hv, bel⟩ => ?_
  subst he hv
  exact ⟨_, rfl, law_post rfl Tryd.underlying4 laidOut (by rw [Tryd.params5]; decide +kernel) rfl hW' rfl bel⟩
set_option maxRecDepth 100000 in
theorem readDepths_lifted (os : Os) (started : os.Started) (H : Type) (enc : TypeId × Value → H) (F : Stop.Interp) :
    ReturnsInHanded {} Tryd.checked os 5 .any ((OpenSpec.ofChange Rows.readDepthsSpec).preRow enc Tryd.prog Tryd.f5 Rows.readDepthsRow.domain false Rows.readDepthsRow.laid) (((OpenSpec.ofChange Rows.readDepthsSpec).at F).post enc Tryd.prog Tryd.f5 false true false false) := by
  obtain ⟨x, hx⟩ := readDepths_reads os enc
  refine returnsInHanded_of_row (C := Tryd.checked) (s := OpenSpec.ofChange Rows.readDepthsSpec) ownK started (by kernel_rfl) Tryd.func5
    (witness_row_at (enc := enc) (C := Tryd.checked) false (laidWorld os) readDepthsArgs rfl (by kernel_rfl) (by kernel_rfl) (by kernel_rfl)
      (OpenSpec.preRow_of_cond 8 hx (by rfl) (fun k hk => by cases hk) (by kernel_rfl) (readDepths_laid os))) ?_
  intro W base args ds gs before hval hW _ hk _ hL _ _
  exact readDepths_contract H enc W base args ds gs before hval hW hL
theorem readDepths_said : Rows.ReadDepthsSaid :=
  OpenClaim.holds_of_cond 5 Tryd.f5 rfl rfl rfl rfl rfl rfl rfl ⟨rfl, rfl, rfl, rfl, rfl⟩ rfl rfl rfl rfl rfl (by kernel_rfl) Tryd.func5 (by kernel_rfl)
    (of_decide_eq_true (by kernel_rfl)) (by unfold Func.isWrapper; first | (rw [if_pos (by decide +kernel)]; kernel_rfl) | (rw [if_neg (by decide +kernel)]; exact ⟨rfl, rfl⟩))
    (fun os started H enc _ F => by rw [OpenClaim.pre_eq_preRow]; exact readDepths_lifted os started H enc F)
theorem readDepths_plainly (f : FuncId) (fn : Func) (hf : Tryd.pinned.checked.prog.funcNamed "tandem/tandemlaw05.ReadDepths" = some f) (hfn : Tryd.pinned.checked.prog.funcs[f]? = some fn) :
    true = Tryd.pinned.checked.prog.looks [] ∧ ∀ (j : Nat) t, fn.params[j]? = some t → Tryd.pinned.checked.prog.wantsStandIn t = false := by
  obtain rfl : f = 5 := Option.some.inj ((show Tryd.prog.funcNamed "tandem/tandemlaw05.ReadDepths" = some 5 by kernel_rfl).symm.trans hf) |>.symm
  obtain rfl : fn = Tryd.f5 := (Option.some.inj (Tryd.func5.symm.trans hfn)).symm
  refine ⟨by kernel_rfl, fun j t ht => ?_⟩
  rw [Tryd.params5] at ht
  have hm := Array.mem_of_getElem? ht
  simp only [Array.mem_def, List.mem_cons, List.not_mem_nil, or_false] at hm
  rcases hm with rfl | rfl
  · exact (show Tryd.prog.wantsStandIn 3 = false by kernel_rfl)
  · exact (show Tryd.prog.wantsStandIn 3 = false by kernel_rfl)
theorem ReadDepthsCard_holds : Rows.ReadDepthsCardSaid :=
  Claim7.holds_tied_plain_at .later [] _ _ _ _ readDepths_said (fun _ h => by cases h) (by kernel_rfl) (fun _ h => by cases h) readDepths_row_tie rfl ⟨rfl, rfl⟩ (by kernel_rfl) rfl readDepths_plainly (by kernel_rfl)
end Go.Proofs.YtdapbegadhcpcaaDoor
