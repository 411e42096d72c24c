import Derived.Test.YtdapbegadhcpcaaDoorDat5b
import Derived.Test.YtdapbegadhcpcaaDoorLawReadBlanks
/- The row of tandemlaw05.ReadBlanks. -/
namespace Go.Proofs.YtdapbegadhcpcaaDoor
open Go.RowKit Go.Proofs.YtdapbegadhcpcaaDoorL Go.Proofs.YtdapbegadhcpcaaDoorM Go.ChangeShapes Go.WideShapes Go.ChangeAt Go.Deep
set_option linter.unusedVariables false
set_option linter.unusedSimpArgs false
def readBlanksArgs : Array Value := #[.slice none 0 0, .slice none 0 0]
theorem readBlanks_laid (os : Os) : laidMet Tryd.prog Rows.readBlanksRow.laid ((laidWorld os).forCall (fun _ _ => 0) ⟨#[], readBlanksArgs, []⟩).memory :=
  laidMet_of_run' 8 (by kernel_rfl) (by kernel_rfl)
theorem readBlanks_reads (os : Os) {H : Type} (enc : TypeId × Value → H) : ∃ x, DataW.whole enc Tryd.prog ((laidWorld os).forCall (fun _ _ => 0) ⟨#[], readBlanksArgs, []⟩).memory Tryd.f4.params.toList Rows.readBlanksSpec.vars false readBlanksArgs.toList 8 = some x :=
  ⟨([.nil, .nil], [], []), by kernel_rfl⟩
set_option maxRecDepth 100000 in
theorem readBlanks_contract (H : Type) (enc : TypeId × Value → H) (W : World) (base : Nat) (args : Array Value) (ds gs : List (DataW H)) (before : List MemPlace)
    (hval : ∀ (j : Nat) t v, Tryd.f4.params[j]? = some t → args[j]? = some v → Value.okWide Tryd.prog W .any base t v)
    (hW : DataW.Whole enc Tryd.prog Tryd.f4.params.toList Rows.readBlanksSpec.vars false W args.toList ds gs before) (hL : laidMetH Tryd.prog Rows.readBlanksRow.laid W) :
    Calls Tryd.prog 4 args W fun e W' => ∃ v, e = .returned v ∧ Rows.readBlanksSpec.post enc Tryd.prog Tryd.f4 false true false false W args v W' := by
  have hW' := hW
  obtain ⟨p, q, hA0, hV, rfl, hfz, hnd⟩ := hW
  have hA : DataW.TrodAll enc Tryd.prog W 0 (fun _ => true) true Tryd.f4.params.toList args.toList ds p := hA0
  rw [Tryd.params4] at hA hval
  obtain ⟨v0, vs0, d0, ds0, p0, q0, hv0, rfl, rfl, h0, r0⟩ := trodAll_cons hA
  obtain ⟨v1, vs1, d1, ds1, p1, q1, hv1, rfl, rfl, h1, r1⟩ := trodAll_cons r0
  obtain ⟨hv2, rfl, rfl⟩ := trodAll_nil r1
  obtain rfl : args = #[v0, v1] := by
    have e : args.toList = [v0, v1] := by rw [hv0, hv1, hv2]
    exact Array.toList_inj.1 e
  obtain ⟨rfl, rfl⟩ := trodVars_none hV
  obtain ⟨A0, x0, c0, rfl, hr0, hc0⟩ := openTs (hval 0 35 v0 rfl rfl) h0
  obtain ⟨A1, x1, c1, rfl, hr1, hc1, hz1⟩ := openIs (hval 1 36 v1 rfl rfl) h1
  clear hA0
  refine (readBlanks_any W x0 A0 c0 hr0 hc0 x1 A1 c1 hr1 hc1 hz1).mono fun e W' ⟨v, he, hv, bel⟩ => ?_
  subst he hv
  exact ⟨_, rfl, law_post rfl Tryd.underlying4 laidOut (by rw [Tryd.params4]; decide +kernel) rfl hW' rfl bel⟩
set_option maxRecDepth 100000 in
theorem readBlanks_lifted (os : Os) (started : os.Started) (H : Type) (enc : TypeId × Value → H) (F : Stop.Interp) :
    ReturnsInHanded {} Tryd.checked os 4 .any ((OpenSpec.ofChange Rows.readBlanksSpec).preRow enc Tryd.prog Tryd.f4 Rows.readBlanksRow.domain false Rows.readBlanksRow.laid) (((OpenSpec.ofChange Rows.readBlanksSpec).at F).post enc Tryd.prog Tryd.f4 false true false false) := by
  obtain ⟨x, hx⟩ := readBlanks_reads os enc
  refine returnsInHanded_of_row (C := Tryd.checked) (s := OpenSpec.ofChange Rows.readBlanksSpec) ownK started (by kernel_rfl) Tryd.func4
    (witness_row_at (enc := enc) (C := Tryd.checked) false (laidWorld os) readBlanksArgs rfl (by kernel_rfl) (by kernel_rfl) (by kernel_rfl)
      (OpenSpec.preRow_of_cond 8 hx (by rfl) (fun k hk => by cases hk) (by kernel_rfl) (readBlanks_laid os))) ?_
  intro W base args ds gs before hval hW _ hk _ hL _ _
  exact readBlanks_contract H enc W base args ds gs before hval hW hL
theorem readBlanks_said : Rows.ReadBlanksSaid :=
  OpenClaim.holds_of_cond 4 Tryd.f4 rfl rfl rfl rfl rfl rfl rfl ⟨rfl, rfl, rfl, rfl, rfl⟩ rfl rfl rfl rfl rfl (by kernel_rfl) Tryd.func4 (by kernel_rfl)
    (of_decide_eq_true (by kernel_rfl)) (by unfold Func.isWrapper; first | (rw [if_pos (by decide +kernel)]; kernel_rfl) | (rw [if_neg (by decide +kernel)]; exact ⟨rfl, rfl⟩))
    (fun os started H enc _ F => by rw [OpenClaim.pre_eq_preRow]; exact readBlanks_lifted os started H enc F)
theorem readBlanks_plainly (f : FuncId) (fn : Func) (hf : Tryd.pinned.checked.prog.funcNamed "tandem/tandemlaw05.ReadBlanks" = some f) (hfn : Tryd.pinned.checked.prog.funcs[f]? = some fn) :
    true = Tryd.pinned.checked.prog.looks [] ∧ ∀ (j : Nat) t, fn.params[j]? = some t → Tryd.pinned.checked.prog.wantsStandIn t = false := by
  obtain rfl : f = 4 := Option.some.inj ((show Tryd.prog.funcNamed "tandem/tandemlaw05.ReadBlanks" = some 4 by kernel_rfl).symm.trans hf) |>.symm
  obtain rfl : fn = Tryd.f4 := (Option.some.inj (Tryd.func4.symm.trans hfn)).symm
  refine ⟨by kernel_rfl, fun j t ht => ?_⟩
  rw [Tryd.params4] at ht
  have hm := Array.mem_of_getElem? ht
  simp only [Array.mem_def, List.mem_cons, List.not_mem_nil, or_false] at hm
  rcases hm with rfl | rfl
  · exact (show Tryd.prog.wantsStandIn 35 = false by kernel_rfl)
  · exact (show Tryd.prog.wantsStandIn 36 = false by kernel_rfl)
theorem ReadBlanksCard_holds : Rows.ReadBlanksCardSaid :=
  Claim7.holds_tied_plain_at .later [] _ _ _ _ readBlanks_said (fun _ h => by cases h) (by kernel_rfl) (fun _ h => by cases h) readBlanks_row_tie rfl ⟨rfl, rfl⟩ (by kernel_rfl) rfl readBlanks_plainly (by kernel_rfl)
end Go.Proofs.YtdapbegadhcpcaaDoor
