import Derived.Test.YtdapbegadhcpcaaDoorDat5
import Derived.Test.YtdapbegadhcpcaaDoorLawReadBack
/- The row of tandemlaw05.ReadBack. -/
namespace Go.Proofs.YtdapbegadhcpcaaDoor
open Go.RowKit Go.Proofs.YtdapbegadhcpcaaDoorL Go.Proofs.YtdapbegadhcpcaaDoorM Go.ChangeShapes Go.WideShapes Go.ChangeAt Go.Deep
set_option linter.unusedVariables false
set_option linter.unusedSimpArgs false
def readBackArgs : Array Value := #[.string ⟨#[]⟩]
theorem readBack_laid (os : Os) : laidMet Tryd.prog Rows.readBackRow.laid ((laidWorld os).forCall (fun _ _ => 0) ⟨#[], readBackArgs, []⟩).memory :=
  laidMet_of_run' 8 (by kernel_rfl) (by kernel_rfl)
theorem readBack_reads (os : Os) {H : Type} (enc : TypeId × Value → H) : ∃ x, DataW.whole enc Tryd.prog ((laidWorld os).forCall (fun _ _ => 0) ⟨#[], readBackArgs, []⟩).memory Tryd.f3.params.toList Rows.readBackSpec.vars false readBackArgs.toList 8 = some x :=
  ⟨([.lit (.string [])], [], []), by kernel_rfl⟩
set_option maxRecDepth 100000 in
theorem readBack_contract (H : Type) (enc : TypeId × Value → H) (W : World) (base : Nat) (args : Array Value) (ds gs : List (DataW H)) (before : List MemPlace)
    (hval : ∀ (j : Nat) t v, Tryd.f3.params[j]? = some t → args[j]? = some v → Value.okWide Tryd.prog W .any base t v)
    (hW : DataW.Whole enc Tryd.prog Tryd.f3.params.toList Rows.readBackSpec.vars false W args.toList ds gs before) (hL : laidMetH Tryd.prog Rows.readBackRow.laid W) :
    Calls Tryd.prog 3 args W fun e W' => ∃ v, e = .returned v ∧ Rows.readBackSpec.post enc Tryd.prog Tryd.f3 false true false false W args v W' := by
  have hW' := hW
  obtain ⟨p, q, hA0, hV, rfl, hfz, hnd⟩ := hW
  have hA : DataW.TrodAll enc Tryd.prog W 0 (fun _ => true) true Tryd.f3.params.toList args.toList ds p := hA0
  rw [Tryd.params3] at hA hval
  obtain ⟨v0, vs0, d0, ds0, p0, q0, hv0, rfl, rfl, h0, r0⟩ := trodAll_cons hA
  obtain ⟨hv1, rfl, rfl⟩ := trodAll_nil r0
  obtain rfl : args = #[v0] := by
    have e : args.toList = [v0] := by rw [hv0, hv1]
    exact Array.toList_inj.1 e
  obtain ⟨rfl, rfl⟩ := trodVars_none hV
  obtain ⟨x0, rfl, hx0⟩ := openT (hval 0 9 v0 rfl rfl) h0
  clear hA0
  refine (readBack_any x0 W).mono fun e W' ⟨v, he, hv, bel⟩ => ?_
  subst he hv
  exact ⟨_, rfl, law_post rfl Tryd.underlying4 laidOut (by rw [Tryd.params3]; decide +kernel) rfl hW' rfl bel⟩
set_option maxRecDepth 100000 in
theorem readBack_lifted (os : Os) (started : os.Started) (H : Type) (enc : TypeId × Value → H) (F : Stop.Interp) :
    ReturnsInHanded {} Tryd.checked os 3 .any ((OpenSpec.ofChange Rows.readBackSpec).preRow enc Tryd.prog Tryd.f3 Rows.readBackRow.domain false Rows.readBackRow.laid) (((OpenSpec.ofChange Rows.readBackSpec).at F).post enc Tryd.prog Tryd.f3 false true false false) := by
  obtain ⟨x, hx⟩ := readBack_reads os enc
  refine returnsInHanded_of_row (C := Tryd.checked) (s := OpenSpec.ofChange Rows.readBackSpec) ownK started (by kernel_rfl) Tryd.func3
    (witness_row_at (enc := enc) (C := Tryd.checked) false (laidWorld os) readBackArgs rfl (by kernel_rfl) (by kernel_rfl) (by kernel_rfl)
      (OpenSpec.preRow_of_cond 8 hx (by rfl) (fun k hk => by cases hk) (by kernel_rfl) (readBack_laid os))) ?_
  intro W base args ds gs before hval hW _ hk _ hL _ _
  exact readBack_contract H enc W base args ds gs before hval hW hL
theorem readBack_said : Rows.ReadBackSaid :=
  OpenClaim.holds_of_cond 3 Tryd.f3 rfl rfl rfl rfl rfl rfl rfl ⟨rfl, rfl, rfl, rfl, rfl⟩ rfl rfl rfl rfl rfl (by kernel_rfl) Tryd.func3 (by kernel_rfl)
    (of_decide_eq_true (by kernel_rfl)) (by unfold Func.isWrapper; first | (rw [if_pos (by decide +kernel)]; kernel_rfl) | (rw [if_neg (by decide +kernel)]; exact ⟨rfl, rfl⟩))
    (fun os started H enc _ F => by rw [OpenClaim.pre_eq_preRow]; exact readBack_lifted os started H enc F)
theorem readBack_plainly (f : FuncId) (fn : Func) (hf : Tryd.pinned.checked.prog.funcNamed "tandem/tandemlaw05.ReadBack" = some f) (hfn : Tryd.pinned.checked.prog.funcs[f]? = some fn) :
    true = Tryd.pinned.checked.prog.looks [] ∧ ∀ (j : Nat) t, fn.params[j]? = some t → Tryd.pinned.checked.prog.wantsStandIn t = false := by
  obtain rfl : f = 3 := Option.some.inj ((show Tryd.prog.funcNamed "tandem/tandemlaw05.ReadBack" = some 3 by kernel_rfl).symm.trans hf) |>.symm
  obtain rfl : fn = Tryd.f3 := (Option.some.inj (Tryd.func3.symm.trans hfn)).symm
  refine ⟨by kernel_rfl, fun j t ht => ?_⟩
  rw [Tryd.params3] at ht
  have hm := Array.mem_of_getElem? ht
  simp only [Array.mem_def, List.mem_cons, List.not_mem_nil, or_false] at hm
  subst hm
  · exact (show Tryd.prog.wantsStandIn 9 = false by kernel_rfl)
theorem ReadBackCard_holds : Rows.ReadBackCardSaid :=
  Claim7.holds_tied_plain_at .later [] _ _ _ _ readBack_said (fun _ h => by cases h) (by kernel_rfl) (fun _ h => by cases h) readBack_row_tie rfl ⟨rfl, rfl⟩ (by kernel_rfl) rfl readBack_plainly (by kernel_rfl)
end Go.Proofs.YtdapbegadhcpcaaDoor
