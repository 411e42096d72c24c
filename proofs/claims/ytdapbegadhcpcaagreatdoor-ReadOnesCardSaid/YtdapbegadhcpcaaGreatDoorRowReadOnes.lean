/- A part of the proof. -/
import Derived.Test.YtdapbegadhcpcaaGreatDoorDat5
import Derived.Test.YtdapbegadhcpcaaGreatDoorLawReadOnes
set_option linter.unusedVariables false
set_option linter.unusedSimpArgs false
namespace Go.Proofs.YtdapbegadhcpcaaGreatDoor
open Go.RowKit Go.Proofs.YtdapbegadhcpcaaGreatDoorL Go.Proofs.YtdapbegadhcpcaaGreatDoorM Go.ChangeShapes Go.WideShapes Go.ChangeAt Go.Deep
def readOnesArgs : Array Value := #[.string ⟨#[]⟩, .int .i64 0]
theorem readOnes_laid (os : Os) : laidMet Tryz.prog Rows.readOnesRow.laid ((laidWorld os).forCall (fun _ _ => 0) ⟨#[], readOnesArgs, []⟩).memory :=
 laidMet_of_run' 8 (by kernel_rfl) (by kernel_rfl)
theorem readOnes_reads (os : Os) {H : Type} (enc : TypeId × Value → H) : ∃ x, DataW.whole enc Tryz.prog ((laidWorld os).forCall (fun _ _ => 0) ⟨#[], readOnesArgs, []⟩).memory Tryz.f4.params.toList Rows.readOnesSpec.vars false readOnesArgs.toList 8 = some x :=
 ⟨([.lit (.string []), .lit (.int .i64 0)], [], []), by kernel_rfl⟩
set_option maxRecDepth 100000 in
theorem readOnes_contract (H : Type) (enc : TypeId × Value → H) (W : World) (base : Nat) (args : Array Value) (ds gs : List (DataW H)) (before : List MemPlace)
 (hval : ∀ (j : Nat) t v, Tryz.f4.params[j]? = some t → args[j]? = some v → Value.okWide Tryz.prog W .any base t v)
 (hW : DataW.Whole enc Tryz.prog Tryz.f4.params.toList Rows.readOnesSpec.vars false W args.toList ds gs before) (hL : laidMetH Tryz.prog Rows.readOnesRow.laid W) :
 Calls Tryz.prog 4 args W fun e W' => ∃ v, e = .returned v ∧ Rows.readOnesSpec.post enc Tryz.prog Tryz.f4 false true false false W args v W' := by
 have hW' := hW
 obtain ⟨p, q, hA0, hV, rfl, hfz, hnd⟩ := hW
 have hA : DataW.TrodAll enc Tryz.prog W 0 (fun _ => true) true Tryz.f4.params.toList args.toList ds p := hA0
 rw [Tryz.params4] at hA hval
 obtain ⟨v0, vs0, d0, ds0, p0, q0, hv0, rfl, rfl, h0, r0⟩ := trodAll_cons hA
 obtain ⟨v1, vs1, d1, ds1, p1, q1, hv1, rfl, rfl, h1, r1⟩ := trodAll_cons r0
 obtain ⟨hv2, rfl, rfl⟩ := trodAll_nil r1
 obtain rfl : args = #[v0, v1] := by
  have e : args.toList = [v0, v1] := by rw [hv0, hv1, hv2]
  exact Array.toList_inj.1 e
 obtain ⟨rfl, rfl⟩ := trodVars_none hV
 obtain ⟨x0, rfl, hx0⟩ := openT (hval 0 9 v0 rfl rfl) h0
 obtain ⟨x1, rfl, hx1⟩ := openI (hval 1 3 v1 rfl rfl) h1
 clear hA0
 refine (readOnes_any x0 x1 W).mono fun e W' ⟨v, he, hv, bel⟩ => ?_
 subst he hv
 exact ⟨_, rfl, law_post rfl Tryz.underlying4 laidOut (by rw [Tryz.params4]; decide +kernel) rfl hW' rfl bel⟩
set_option maxRecDepth 100000 in
theorem readOnes_lifted (os : Os) (started : os.Started) (H : Type) (enc : TypeId × Value → H) (F : Stop.Interp) :
 ReturnsInHanded {} Tryz.checked os 4 .any ((OpenSpec.ofChange Rows.readOnesSpec).preRow enc Tryz.prog Tryz.f4 Rows.readOnesRow.domain false Rows.readOnesRow.laid) (((OpenSpec.ofChange Rows.readOnesSpec).at F).post enc Tryz.prog Tryz.f4 false true false false) := by
 obtain ⟨x, hx⟩ := readOnes_reads os enc
 refine returnsInHanded_of_row (C := Tryz.checked) (s := OpenSpec.ofChange Rows.readOnesSpec) ownK started (by kernel_rfl) Tryz.func4
  (witness_row_at (enc := enc) (C := Tryz.checked) false (laidWorld os) readOnesArgs rfl (by kernel_rfl) (by kernel_rfl) (by kernel_rfl)
    (OpenSpec.preRow_of_cond 8 hx (by rfl) (fun k hk => by cases hk) (by kernel_rfl) (readOnes_laid os))) ?_
 intro W base args ds gs before hval hW _ hk _ hL _ _
 exact readOnes_contract H enc W base args ds gs before hval hW hL
theorem readOnes_said : Rows.ReadOnesSaid :=
 OpenClaim.holds_of_cond 4 Tryz.f4 rfl rfl rfl rfl rfl rfl rfl ⟨rfl, rfl, rfl, rfl, rfl⟩ rfl rfl rfl rfl rfl (by kernel_rfl) Tryz.func4 (by kernel_rfl)
  (of_decide_eq_true (by kernel_rfl)) (by unfold Func.isWrapper; first | (rw [if_pos (by decide +kernel)]; kernel_rfl) | (rw [if_neg (by decide +kernel)]; exact ⟨rfl, rfl⟩))
  (fun os started H enc _ F => by rw [OpenClaim.pre_eq_preRow]; exact readOnes_lifted os started H enc F)
theorem readOnes_plainly (f : FuncId) (fn : Func) (hf : Tryz.pinned.checked.prog.funcNamed "tandem/tandemlaw05.ReadOnes" = some f) (hfn : Tryz.pinned.checked.prog.funcs[f]? = some fn) :
 true = Tryz.pinned.checked.prog.looks [] ∧ ∀ (j : Nat) t, fn.params[j]? = some t → Tryz.pinned.checked.prog.wantsStandIn t = false := by
 obtain rfl : f = 4 := Option.some.inj ((show Tryz.prog.funcNamed "tandem/tandemlaw05.ReadOnes" = some 4 by kernel_rfl).symm.trans hf) |>.symm
 obtain rfl : fn = Tryz.f4 := (Option.some.inj (Tryz.func4.symm.trans hfn)).symm
 refine ⟨by kernel_rfl, fun j t ht => ?_⟩
 rw [Tryz.params4] at ht
 have hm := Array.mem_of_getElem? ht
 simp only [Array.mem_def, List.mem_cons, List.not_mem_nil, or_false] at hm
 rcases hm with rfl | rfl
 · exact (show Tryz.prog.wantsStandIn 9 = false by kernel_rfl)
 · exact (show Tryz.prog.wantsStandIn 3 = false by kernel_rfl)
theorem ReadOnesCard_holds : Rows.ReadOnesCardSaid :=
 Claim7.holds_tied_plain_at .later [] _ _ _ _ readOnes_said (fun _ h => by cases h) (by kernel_rfl) (fun _ h => by cases h) readOnes_row_tie rfl ⟨rfl, rfl⟩ (by kernel_rfl) rfl readOnes_plainly (by kernel_rfl)
end Go.Proofs.YtdapbegadhcpcaaGreatDoor
