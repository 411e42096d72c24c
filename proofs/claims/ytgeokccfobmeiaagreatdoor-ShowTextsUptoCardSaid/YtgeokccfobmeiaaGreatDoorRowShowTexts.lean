import Derived.Test.YtgeokccfobmeiaaGreatDoorDat6
import Derived.Test.YtgeokccfobmeiaaGreatDoorLawShowTexts
/- The row of tandemlaw06.ShowTexts. -/
namespace Go.Proofs.YtgeokccfobmeiaaGreatDoor
open Go.RowKit Go.Proofs.YtgeokccfobmeiaaGreatDoorL Go.Proofs.YtgeokccfobmeiaaGreatDoorM Go.ChangeShapes Go.WideShapes Go.ChangeAt Go.Deep
set_option linter.unusedVariables false
set_option linter.unusedSimpArgs false
theorem showTexts_any2 (s : ByteArray) (c : UInt8) (w : World) (htab : Tab w) (hs : s.size ≤ 1048576) : Calls Tryz.prog 3 #[.string s, .int .u8 (c.toNat : Int)] w (Gives w fun v _ => v = .bool true) := by
  have e : s = ⟨s.data.toList.toArray⟩ := by simp
  rw [e]
  exact showTexts_any s.data.toList c w htab (by rw [size_list]; exact hs)
def showTextsArgs : Array Value := #[.string ⟨#[]⟩, .int .u8 0]
theorem showTexts_laid (os : Os) : laidMet Tryz.prog Rows.showTextsUptoRow.laid ((laidWorld os).forCall (fun _ _ => 0) ⟨#[], showTextsArgs, []⟩).memory :=
  laidMet_of_run' 8 (by kernel_rfl) (by kernel_rfl)
theorem showTexts_reads (os : Os) {H : Type} (enc : TypeId × Value → H) : ∃ x, DataW.whole enc Tryz.prog ((laidWorld os).forCall (fun _ _ => 0) ⟨#[], showTextsArgs, []⟩).memory Tryz.f3.params.toList Rows.showTextsSpec.vars false showTextsArgs.toList 8 = some x ∧ Rows.uptoSmall H (x.1 ++ x.2.1) = true :=
  ⟨([.lit (.string []), .lit (.int .u8 0)], [], []), by kernel_rfl, by kernel_rfl⟩
set_option maxRecDepth 100000 in
theorem showTexts_contract (H : Type) (enc : TypeId × Value → H) (W : World) (base : Nat) (args : Array Value) (ds gs : List (DataW H)) (before : List MemPlace)
    (hval : ∀ (j : Nat) t v, Tryz.f3.params[j]? = some t → args[j]? = some v → Value.okWide Tryz.prog W .any base t v)
    (hW : DataW.Whole enc Tryz.prog Tryz.f3.params.toList Rows.showTextsSpec.vars false W args.toList ds gs before) (hk : Rows.uptoSmall H (ds ++ gs) = true) (hL : laidMetH Tryz.prog Rows.showTextsRow.laid W) :
    Calls Tryz.prog 3 args W fun e W' => ∃ v, e = .returned v ∧ Rows.showTextsSpec.post enc Tryz.prog Tryz.f3 false true false false W args v W' := by
  have hW' := hW
  obtain ⟨p, q, hA0, hV, rfl, hfz, hnd⟩ := hW
  have hA : DataW.TrodAll enc Tryz.prog W 0 (fun _ => true) true Tryz.f3.params.toList args.toList ds p := hA0
  rw [Tryz.params3] at hA hval
  obtain ⟨v0, vs0, d0, ds0, p0, q0, hv0, rfl, rfl, h0, r0⟩ := trodAll_cons hA
  obtain ⟨v1, vs1, d1, ds1, p1, q1, hv1, rfl, rfl, h1, r1⟩ := trodAll_cons r0
  obtain ⟨hv2, rfl, rfl⟩ := trodAll_nil r1
  obtain rfl : args = #[v0, v1] := by
    have e : args.toList = [v0, v1] := by rw [hv0, hv1, hv2]
    exact Array.toList_inj.1 e
  obtain ⟨rfl, rfl⟩ := trodVars_none hV
  have hb : Rows.uptoBulk d0 + (Rows.uptoBulk d1 + 0) ≤ 1048576 := by
    simpa only [List.append_nil, Rows.uptoSmall, Rows.uptoBulkAll, decide_eq_true_eq] using hk
  obtain ⟨x0, rfl, hx0⟩ := openT (hval 0 9 v0 rfl rfl) h0
  obtain ⟨x1, rfl⟩ := openB (hval 1 5 v1 rfl rfl) h1
  clear hA0
  refine (showTexts_any2 x0 x1 W (tab_of hL) (by omega)).mono fun e W' ⟨v, he, hv, bel⟩ => ?_
  subst he hv
  exact ⟨_, rfl, law_post rfl Tryz.underlying4 laidOut (by rw [Tryz.params3]; decide +kernel) rfl hW' rfl bel⟩
set_option maxRecDepth 100000 in
theorem showTexts_lifted (os : Os) (started : os.Started) (H : Type) (enc : TypeId × Value → H) (F : Stop.Interp) :
    ReturnsInHanded {} Tryz.checked os 3 .any ((Rows.OpenSpec.upto Rows.showTextsSpec).preRow enc Tryz.prog Tryz.f3 Rows.showTextsUptoRow.domain false Rows.showTextsUptoRow.laid) (((Rows.OpenSpec.upto Rows.showTextsSpec).at F).post enc Tryz.prog Tryz.f3 false true false false) := by
  obtain ⟨x, hx, hxs⟩ := showTexts_reads os enc
  refine returnsInHanded_of_row (C := Tryz.checked) (s := Rows.OpenSpec.upto Rows.showTextsSpec) ownK started (by kernel_rfl) Tryz.func3
    (witness_row_at (enc := enc) (C := Tryz.checked) false (laidWorld os) showTextsArgs rfl (by kernel_rfl) (by kernel_rfl) (by kernel_rfl)
      (OpenSpec.preRow_of_cond 8 hx (by rfl) (fun k hk => by cases hk; exact hxs) (by kernel_rfl) (showTexts_laid os))) ?_
  intro W base args ds gs before hval hW _ hk _ hL _ _
  exact showTexts_contract H enc W base args ds gs before hval hW (hk _ rfl) hL
theorem showTexts_saidUpto : Rows.ShowTextsUptoSaid :=
  OpenClaim.holds_of_cond 3 Tryz.f3 rfl rfl rfl rfl rfl rfl rfl ⟨rfl, rfl, rfl, rfl, rfl⟩ rfl rfl rfl rfl rfl (by kernel_rfl) Tryz.func3 (by kernel_rfl)
    (of_decide_eq_true (by kernel_rfl)) (by unfold Func.isWrapper; first | (rw [if_pos (by decide +kernel)]; kernel_rfl) | (rw [if_neg (by decide +kernel)]; exact ⟨rfl, rfl⟩))
    (fun os started H enc _ F => by rw [OpenClaim.pre_eq_preRow]; exact showTexts_lifted os started H enc F)
theorem showTexts_plainly (f : FuncId) (fn : Func) (hf : Tryz.pinned.checked.prog.funcNamed "tandem/tandemlaw06.ShowTexts" = some f) (hfn : Tryz.pinned.checked.prog.funcs[f]? = some fn) :
    true = Tryz.pinned.checked.prog.looks [] ∧ ∀ (j : Nat) t, fn.params[j]? = some t → Tryz.pinned.checked.prog.wantsStandIn t = false := by
  obtain rfl : f = 3 := Option.some.inj ((show Tryz.prog.funcNamed "tandem/tandemlaw06.ShowTexts" = some 3 by kernel_rfl).symm.trans hf) |>.symm
  obtain rfl : fn = Tryz.f3 := (Option.some.inj (Tryz.func3.symm.trans hfn)).symm
  refine ⟨by kernel_rfl, fun j t ht => ?_⟩
  rw [Tryz.params3] at ht
  have hm := Array.mem_of_getElem? ht
  simp only [Array.mem_def, List.mem_cons, List.not_mem_nil, or_false] at hm
  rcases hm with rfl | rfl
  · exact (show Tryz.prog.wantsStandIn 9 = false by kernel_rfl)
  · exact (show Tryz.prog.wantsStandIn 5 = false by kernel_rfl)
theorem ShowTextsUptoCard_holds : Rows.ShowTextsUptoCardSaid :=
  Claim7.holds_tied_plain_at .later [] _ _ _ _ showTexts_saidUpto (fun _ h => by cases h) (by kernel_rfl) (fun _ h => by cases h) showTextsUpto_row_tie rfl ⟨rfl, rfl⟩ (by kernel_rfl) rfl showTexts_plainly (by kernel_rfl)
end Go.Proofs.YtgeokccfobmeiaaGreatDoor
