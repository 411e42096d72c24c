/- The row of tandemlaw01.NatTexts. -/
import Derived.Test.YtbdcjlikjpdhfaaDoorDat1
import Derived.Test.YtbdcjlikjpdhfaaDoorOpenT
import Derived.Test.YtbdcjlikjpdhfaaDoorLawNatTexts
namespace Go.Proofs.YtbdcjlikjpdhfaaDoor
open Go.RowKit Go.Proofs.YtbdcjlikjpdhfaaDoorL Go.Proofs.YtbdcjlikjpdhfaaDoorM Go.ChangeShapes Go.WideShapes Go.ChangeAt Go.Deep
set_option linter.unusedVariables false
set_option linter.unusedSimpArgs false
def natTextsArgs : Array Value := #[.slice none 0 0, .string ⟨#[]⟩]
theorem natTexts_laid (os : Os) : laidMet Tryd.prog Rows.natTextsUptoRow.laid ((laidWorld os).forCall (fun _ _ => 0) ⟨#[], natTextsArgs, []⟩).memory :=
  laidMet_of_run' 8 (by kernel_rfl) (by kernel_rfl)
theorem natTexts_reads (os : Os) {H : Type} (enc : TypeId × Value → H) : ∃ x, DataW.whole enc Tryd.prog ((laidWorld os).forCall (fun _ _ => 0) ⟨#[], natTextsArgs, []⟩).memory Tryd.f4.params.toList Rows.natTextsSpec.vars false natTextsArgs.toList 8 = some x ∧ Rows.uptoSmall H (x.1 ++ x.2.1) = true :=
  ⟨([.nil, .lit (.string [])], [], []), by kernel_rfl, by kernel_rfl⟩
set_option maxRecDepth 100000 in
theorem natTexts_contract (H : Type) (enc : TypeId × Value → H) (W : World) (base : Nat) (args : Array Value) (ds gs : List (DataW H)) (before : List MemPlace)
    (hval : ∀ (j : Nat) t v, Tryd.f4.params[j]? = some t → args[j]? = some v → Value.okWide Tryd.prog W .any base t v)
    (hW : DataW.Whole enc Tryd.prog Tryd.f4.params.toList Rows.natTextsSpec.vars false W args.toList ds gs before) (hk : Rows.uptoSmall H (ds ++ gs) = true) (hL : laidMetH Tryd.prog Rows.natSumsRow.laid W) :
    Calls Tryd.prog 4 args W fun e W' => ∃ v, e = .returned v ∧ Rows.natTextsSpec.post enc Tryd.prog Tryd.f4 false true false false W args v W' := by
  have hW' := hW
  obtain ⟨p, q, hA0, hV, rfl, hfz, hnd⟩ := hW
  have hA : DataW.TrodAll enc Tryd.prog W 0 (fun _ => true) true Tryd.f4.params.toList args.toList ds p := hA0
  rw [Tryd.params4] at hA hval
  obtain ⟨v0, vs0, d0, ds0, p0, q0, hv0, rfl, rfl, h0, r0⟩ := trodAll_cons hA
  obtain ⟨v1, vs1, d1, ds1, p1, q1, hv1, rfl, rfl, h1, r1⟩ := trodAll_cons r0
  obtain ⟨hv2, rfl, rfl⟩ := trodAll_nil r1
  obtain rfl : args = #[v0, v1] := by
    have e : args.toList = [v0, v1] := by rw [hv0, hv1, hv2]
    exact Array.toList_inj.1 e
  obtain ⟨rfl, rfl⟩ := trodVars_none hV
  have hb : Rows.uptoBulk d0 + (Rows.uptoBulk d1 + 0) ≤ 1048576 := by
    simpa only [List.append_nil, Rows.uptoSmall, Rows.uptoBulkAll, decide_eq_true_eq] using hk
  obtain ⟨A0, x0, c0, rfl, hx0, hg0⟩ := openU (hval 0 22 v0 rfl rfl) h0
  obtain ⟨x1, rfl, hx1⟩ := openT (hval 1 9 v1 rfl rfl) h1
  clear hA0
  refine (natTexts_any x0 x1 A0 c0 W (tab_of hL) (hg0 (by omega)) (by omega)).mono fun e W' ⟨v, he, hv, bel⟩ => ?_
  subst he hv
  exact ⟨_, rfl, law_post rfl Tryd.underlying4 laidOut (by rw [Tryd.params4]; decide +kernel) rfl hW' rfl bel⟩
set_option maxRecDepth 100000 in
theorem natTexts_lifted (os : Os) (started : os.Started) (H : Type) (enc : TypeId × Value → H) (F : Stop.Interp) :
    ReturnsInHanded {} Tryd.checked os 4 .any ((Rows.OpenSpec.upto Rows.natTextsSpec).preRow enc Tryd.prog Tryd.f4 Rows.natTextsUptoRow.domain false Rows.natTextsUptoRow.laid) (((Rows.OpenSpec.upto Rows.natTextsSpec).at F).post enc Tryd.prog Tryd.f4 false true false false) := by
  obtain ⟨x, hx, hxs⟩ := natTexts_reads os enc
  refine returnsInHanded_of_row (C := Tryd.checked) (s := Rows.OpenSpec.upto Rows.natTextsSpec) ownK started (by kernel_rfl) Tryd.func4
    (witness_row_at (enc := enc) (C := Tryd.checked) false (laidWorld os) natTextsArgs rfl (by kernel_rfl) (by kernel_rfl) (by kernel_rfl)
      (OpenSpec.preRow_of_cond 8 hx (by rfl) (fun k hk => by cases hk; exact hxs) (by kernel_rfl) (natTexts_laid os))) ?_
  intro W base args ds gs before hval hW _ hk _ hL _ _
  exact natTexts_contract H enc W base args ds gs before hval hW (hk _ rfl) hL
theorem natTexts_saidUpto : Rows.NatTextsUptoSaid :=
  OpenClaim.holds_of_cond 4 Tryd.f4 rfl rfl rfl rfl rfl rfl rfl ⟨rfl, rfl, rfl, rfl, rfl⟩ rfl rfl rfl rfl rfl (by kernel_rfl) Tryd.func4 (by kernel_rfl)
    (of_decide_eq_true (by kernel_rfl)) (by unfold Func.isWrapper; first | (rw [if_pos (by decide +kernel)]; kernel_rfl) | (rw [if_neg (by decide +kernel)]; exact ⟨rfl, rfl⟩))
    (fun os started H enc _ F => by rw [OpenClaim.pre_eq_preRow]; exact natTexts_lifted os started H enc F)
theorem natTexts_plainly (f : FuncId) (fn : Func) (hf : Tryd.pinned.checked.prog.funcNamed "tandem/tandemlaw01.NatTexts" = some f) (hfn : Tryd.pinned.checked.prog.funcs[f]? = some fn) :
    true = Tryd.pinned.checked.prog.looks [] ∧ ∀ (j : Nat) t, fn.params[j]? = some t → Tryd.pinned.checked.prog.wantsStandIn t = false := by
  obtain rfl : f = 4 := Option.some.inj ((show Tryd.prog.funcNamed "tandem/tandemlaw01.NatTexts" = some 4 by kernel_rfl).symm.trans hf) |>.symm
  obtain rfl : fn = Tryd.f4 := (Option.some.inj (Tryd.func4.symm.trans hfn)).symm
  refine ⟨by kernel_rfl, fun j t ht => ?_⟩
  rw [Tryd.params4] at ht
  have hm := Array.mem_of_getElem? ht
  simp only [Array.mem_def, List.mem_cons, List.not_mem_nil, or_false] at hm
  rcases hm with rfl | rfl
  · exact (show Tryd.prog.wantsStandIn 22 = false by kernel_rfl)
  · exact (show Tryd.prog.wantsStandIn 9 = false by kernel_rfl)
theorem NatTextsUptoCard_holds : Rows.NatTextsUptoCardSaid :=
  Claim7.holds_tied_plain_at .later [] _ _ _ _ natTexts_saidUpto (fun _ h => by cases h) (by kernel_rfl) (fun _ h => by cases h) natTextsUpto_row_tie rfl ⟨rfl, rfl⟩ (by kernel_rfl) rfl natTexts_plainly (by kernel_rfl)
end Go.Proofs.YtbdcjlikjpdhfaaDoor
