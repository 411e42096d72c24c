/- The rows of tandemlaw06.ShowWrites and ShowDisplays. -/
import Derived.Test.YtgeokccfobmeiaaDoorCards
import Derived.Test.YtgeokccfobmeiaaDoorTie
import Derived.Test.YtgeokccfobmeiaaDoorDat
import Derived.Deep.DeepHandedRow
import Derived.Lib.LaidTab
import Derived.Stop.LaidErr
namespace Go.Proofs.YtgeokccfobmeiaaDoor
open Go.RowKit Go.Proofs.YtgeokccfobmeiaaDoorL Go.Proofs.YtgeokccfobmeiaaDoorM Go.ChangeShapes Go.WideShapes Go.ChangeAt Go.Deep
set_option linter.unusedVariables false
set_option linter.unusedSimpArgs false
theorem ownK : ownKnob Tryd.prog.godebug = none := by kernel_rfl
theorem gTab : Tryd.prog.globalNamed "internal/strconv.uint64pow10" = some 0 := by kernel_rfl
theorem gTabType : (Tryd.prog.globals[0]?).map (·.type) = some 98 := by kernel_rfl
theorem cellsTab : Tryd.prog.cellsOf 98 = 20 := by kernel_rfl
theorem cells64 : Tryd.prog.cellsOf 56 = 1 := by kernel_rfl
theorem tab_of {W : World} (h : laidMetH Tryd.prog Rows.showWritesRow.laid W) : Tab W := by
  have h1 : laidMet Tryd.prog Rows.showWritesRow.laid W := h
  exact Lib.tabIs_of_head (rest := []) gTab gTabType Tryd.underlying98 Tryd.underlying56 cells64 cellsTab h1.tail.tail
theorem laidOut : laidOutB Tryd.prog = true := by kernel_rfl
theorem openD {H : Type} {enc : TypeId × Value → H} {W : World} {base : Nat} {v : Value} {d : DataW H} {p : List MemPlace} (hv : Value.okWide Tryd.prog W .any base 27 v) (h : DataW.Trod enc Tryd.prog W 0 (fun _ => true) true 27 v d p) :
    ∃ x : LD, v = .agg (encD x).toArray ∧ wtD x ≤ Rows.uptoBulk d ∧ (Rows.uptoBulk d ≤ 1048576 → Good W x) := by
  obtain ⟨cs, rfl, hsz⟩ := okWide_struct Tryd.underlying27 hv
  obtain ⟨fuel, hf⟩ := h
  obtain ⟨x, hx, h1, h2⟩ := ld_of fuel cs.toList _ hf
  exact ⟨x, by rw [← show cs.toList.toArray = cs from by simp, hx], h1, h2⟩
def litCells : DataW Unit → Array Value
  | .agg l => (l.map fun d => match d with | .lit (.int k n) => Value.int k n | _ => undef).toArray
  | _ => #[]
def layTab (h : Array Obj) (g : Nat) (cs : Array Value) : Array Obj := h.modify g fun
  | .cells _ t frozen => .cells cs t frozen
  | o => o
noncomputable def laidWorld (os : Os) : World :=
  { World.holding Tryd.prog os ⟨#[], #[], []⟩ with heap := layTab (layTab (layTab (World.holding Tryd.prog os ⟨#[], #[], []⟩).heap 0 (litCells Rows.laid_internal_strconv_uint64pow10)) 2 (litCells Rows.laid_math_bits_deBruijn32tab)) 3 (litCells Rows.laid_math_bits_deBruijn64tab) }
def showWritesArg : Value := .agg #[.int .i64 0, .int .i64 0, .bool false, .slice none 0 0, .string ⟨#[]⟩, .slice none 0 0, .slice none 0 0]
theorem showWrites_laid (os : Os) : laidMet Tryd.prog Rows.showWritesUptoRow.laid ((laidWorld os).forCall (fun _ _ => 0) ⟨#[], #[showWritesArg], []⟩).memory :=
  laidMet_of_run' 8 (by kernel_rfl) (by kernel_rfl)
theorem showWrites_reads (os : Os) {H : Type} (enc : TypeId × Value → H) : ∃ x, DataW.whole enc Tryd.prog ((laidWorld os).forCall (fun _ _ => 0) ⟨#[], #[showWritesArg], []⟩).memory Tryd.f3.params.toList Rows.showWritesSpec.vars false #[showWritesArg].toList 8 = some x ∧ Rows.uptoSmall H (x.1 ++ x.2.1) = true :=
  ⟨([.agg [.lit (.int .i64 0), .lit (.int .i64 0), .agg [.lit (.bool false), .nil], .lit (.string []), .nil, .nil]], [], []), by kernel_rfl, by kernel_rfl⟩
theorem showWrites_contract (H : Type) (enc : TypeId × Value → H) (W : World) (base : Nat) (args : Array Value) (ds gs : List (DataW H)) (before : List MemPlace)
    (hval : ∀ (j : Nat) t v, Tryd.f3.params[j]? = some t → args[j]? = some v → Value.okWide Tryd.prog W .any base t v)
    (hW : DataW.Whole enc Tryd.prog Tryd.f3.params.toList Rows.showWritesSpec.vars false W args.toList ds gs before) (hk : Rows.uptoSmall H (ds ++ gs) = true) (hL : laidMetH Tryd.prog Rows.showWritesRow.laid W) :
    Calls Tryd.prog 3 args W fun e W' => ∃ v, e = .returned v ∧ Rows.showWritesSpec.post enc Tryd.prog Tryd.f3 false true false false W args v W' := by
  have hW' := hW
  obtain ⟨p, q, hA0, hV, rfl, hfz, hnd⟩ := hW
  have hA : DataW.TrodAll enc Tryd.prog W 0 (fun _ => true) true Tryd.f3.params.toList args.toList ds p := hA0
  rw [Tryd.params3] at hA hval
  obtain ⟨v0, vs0, d0, ds0, p0, q0, hargs, rfl, rfl, h0, r0⟩ := trodAll_cons hA
  obtain ⟨rfl, rfl, rfl⟩ := trodAll_nil r0
  obtain rfl : args = #[v0] := by cases args; simp_all
  obtain ⟨rfl, rfl⟩ := trodVars_none hV
  have hb : Rows.uptoBulk d0 ≤ 1048576 := by
    simp only [List.append_nil, Rows.uptoSmall, Rows.uptoBulkAll, decide_eq_true_eq] at hk
    omega
  obtain ⟨x, rfl, hx1, hx2⟩ := openD (hval 0 27 v0 rfl rfl) h0
  clear hA0
  refine (showWrites_any x W (tab_of hL) (hx2 hb) (by omega)).mono fun e W' ⟨v, he, hv, bel⟩ => ?_
  subst he hv
  exact ⟨_, rfl, law_post rfl Tryd.underlying4 laidOut (by rw [Tryd.params3]; decide +kernel) rfl hW' rfl bel⟩
set_option maxRecDepth 100000 in
theorem showWrites_lifted (os : Os) (started : os.Started) (H : Type) (enc : TypeId × Value → H) (F : Stop.Interp) :
    ReturnsInHanded {} Tryd.checked os 3 .any ((Rows.OpenSpec.upto Rows.showWritesSpec).preRow enc Tryd.prog Tryd.f3 Rows.showWritesUptoRow.domain false Rows.showWritesUptoRow.laid) (((Rows.OpenSpec.upto Rows.showWritesSpec).at F).post enc Tryd.prog Tryd.f3 false true false false) := by
  obtain ⟨x, hx, hxs⟩ := showWrites_reads os enc
  refine returnsInHanded_of_row (C := Tryd.checked) (s := Rows.OpenSpec.upto Rows.showWritesSpec) ownK started (by kernel_rfl) Tryd.func3
    (witness_row_at (enc := enc) (C := Tryd.checked) false (laidWorld os) #[showWritesArg] rfl (by kernel_rfl) (by kernel_rfl) (by kernel_rfl)
      (OpenSpec.preRow_of_cond 8 hx (by rfl) (fun k hk => by cases hk; exact hxs) (by kernel_rfl) (showWrites_laid os))) ?_
  intro W base args ds gs before hval hW _ hk _ hL _ _
  exact showWrites_contract H enc W base args ds gs before hval hW (hk _ rfl) hL
theorem showWrites_saidUpto : Rows.ShowWritesUptoSaid :=
  OpenClaim.holds_of_cond 3 Tryd.f3 rfl rfl rfl rfl rfl rfl rfl ⟨rfl, rfl, rfl, rfl, rfl⟩ rfl rfl rfl rfl rfl (by kernel_rfl) Tryd.func3 (by kernel_rfl)
    (of_decide_eq_true (by kernel_rfl)) (by unfold Func.isWrapper; first | (rw [if_pos (by decide +kernel)]; kernel_rfl) | (rw [if_neg (by decide +kernel)]; exact ⟨rfl, rfl⟩))
    (fun os started H enc _ F => by rw [OpenClaim.pre_eq_preRow]; exact showWrites_lifted os started H enc F)
theorem showWrites_plain (f : FuncId) (fn : Func) (hf : Tryd.pinned.checked.prog.funcNamed "tandem/tandemlaw06.ShowWrites" = some f) (hfn : Tryd.pinned.checked.prog.funcs[f]? = some fn) :
    false = Tryd.pinned.checked.prog.looks [] ∧ ∀ (j : Nat) t, fn.params[j]? = some t → Tryd.pinned.checked.prog.wantsStandIn t = false := by
  obtain rfl : f = 3 := Option.some.inj ((show Tryd.prog.funcNamed "tandem/tandemlaw06.ShowWrites" = some 3 by kernel_rfl).symm.trans hf) |>.symm
  obtain rfl : fn = Tryd.f3 := (Option.some.inj (Tryd.func3.symm.trans hfn)).symm
  refine ⟨by kernel_rfl, fun j t ht => ?_⟩
  rw [Tryd.params3] at ht
  obtain rfl : t = 27 := by simpa using Array.mem_of_getElem? ht
  exact (show Tryd.prog.wantsStandIn 27 = false by kernel_rfl)
theorem ShowWritesUptoCard_holds : Rows.ShowWritesUptoCardSaid :=
  Claim7.holds_tied_plain_at .later [] _ _ _ _ showWrites_saidUpto (fun _ h => by cases h) (by kernel_rfl) (fun _ h => by cases h) showWritesUpto_row_tie rfl ⟨rfl, rfl⟩ (by kernel_rfl) rfl showWrites_plain (by kernel_rfl)
def showDisplaysArg : Value := .agg #[.int .i64 0, .int .i64 0, .bool false, .slice none 0 0, .string ⟨#[]⟩, .slice none 0 0, .slice none 0 0]
theorem showDisplays_laid (os : Os) : laidMet Tryd.prog Rows.showDisplaysUptoRow.laid ((laidWorld os).forCall (fun _ _ => 0) ⟨#[], #[showDisplaysArg], []⟩).memory :=
  laidMet_of_run' 8 (by kernel_rfl) (by kernel_rfl)
theorem showDisplays_reads (os : Os) {H : Type} (enc : TypeId × Value → H) : ∃ x, DataW.whole enc Tryd.prog ((laidWorld os).forCall (fun _ _ => 0) ⟨#[], #[showDisplaysArg], []⟩).memory Tryd.f4.params.toList Rows.showDisplaysSpec.vars false #[showDisplaysArg].toList 8 = some x ∧ Rows.uptoSmall H (x.1 ++ x.2.1) = true :=
  ⟨([.agg [.lit (.int .i64 0), .lit (.int .i64 0), .agg [.lit (.bool false), .nil], .lit (.string []), .nil, .nil]], [], []), by kernel_rfl, by kernel_rfl⟩
theorem showDisplays_contract (H : Type) (enc : TypeId × Value → H) (W : World) (base : Nat) (args : Array Value) (ds gs : List (DataW H)) (before : List MemPlace)
    (hval : ∀ (j : Nat) t v, Tryd.f4.params[j]? = some t → args[j]? = some v → Value.okWide Tryd.prog W .any base t v)
    (hW : DataW.Whole enc Tryd.prog Tryd.f4.params.toList Rows.showDisplaysSpec.vars false W args.toList ds gs before) (hk : Rows.uptoSmall H (ds ++ gs) = true) (hL : laidMetH Tryd.prog Rows.showWritesRow.laid W) :
    Calls Tryd.prog 4 args W fun e W' => ∃ v, e = .returned v ∧ Rows.showDisplaysSpec.post enc Tryd.prog Tryd.f4 false true false false W args v W' := by
  have hW' := hW
  obtain ⟨p, q, hA0, hV, rfl, hfz, hnd⟩ := hW
  have hA : DataW.TrodAll enc Tryd.prog W 0 (fun _ => true) true Tryd.f4.params.toList args.toList ds p := hA0
  rw [Tryd.params4] at hA hval
  obtain ⟨v0, vs0, d0, ds0, p0, q0, hargs, rfl, rfl, h0, r0⟩ := trodAll_cons hA
  obtain ⟨rfl, rfl, rfl⟩ := trodAll_nil r0
  obtain rfl : args = #[v0] := by cases args; simp_all
  obtain ⟨rfl, rfl⟩ := trodVars_none hV
  have hb : Rows.uptoBulk d0 ≤ 1048576 := by
    simp only [List.append_nil, Rows.uptoSmall, Rows.uptoBulkAll, decide_eq_true_eq] at hk
    omega
  obtain ⟨x, rfl, hx1, hx2⟩ := openD (hval 0 27 v0 rfl rfl) h0
  clear hA0
  refine (showDisplays_any x W (tab_of hL) (hx2 hb) (by omega)).mono fun e W' ⟨v, he, hv, bel⟩ => ?_
  subst he hv
  exact ⟨_, rfl, law_post rfl Tryd.underlying4 laidOut (by rw [Tryd.params4]; decide +kernel) rfl hW' rfl bel⟩
set_option maxRecDepth 100000 in
theorem showDisplays_lifted (os : Os) (started : os.Started) (H : Type) (enc : TypeId × Value → H) (F : Stop.Interp) :
    ReturnsInHanded {} Tryd.checked os 4 .any ((Rows.OpenSpec.upto Rows.showDisplaysSpec).preRow enc Tryd.prog Tryd.f4 Rows.showDisplaysUptoRow.domain false Rows.showDisplaysUptoRow.laid) (((Rows.OpenSpec.upto Rows.showDisplaysSpec).at F).post enc Tryd.prog Tryd.f4 false true false false) := by
  obtain ⟨x, hx, hxs⟩ := showDisplays_reads os enc
  refine returnsInHanded_of_row (C := Tryd.checked) (s := Rows.OpenSpec.upto Rows.showDisplaysSpec) ownK started (by kernel_rfl) Tryd.func4
    (witness_row_at (enc := enc) (C := Tryd.checked) false (laidWorld os) #[showDisplaysArg] rfl (by kernel_rfl) (by kernel_rfl) (by kernel_rfl)
      (OpenSpec.preRow_of_cond 8 hx (by rfl) (fun k hk => by cases hk; exact hxs) (by kernel_rfl) (showDisplays_laid os))) ?_
  intro W base args ds gs before hval hW _ hk _ hL _ _
  exact showDisplays_contract H enc W base args ds gs before hval hW (hk _ rfl) hL
theorem showDisplays_saidUpto : Rows.ShowDisplaysUptoSaid :=
  OpenClaim.holds_of_cond 4 Tryd.f4 rfl rfl rfl rfl rfl rfl rfl ⟨rfl, rfl, rfl, rfl, rfl⟩ rfl rfl rfl rfl rfl (by kernel_rfl) Tryd.func4 (by kernel_rfl)
    (of_decide_eq_true (by kernel_rfl)) (by unfold Func.isWrapper; first | (rw [if_pos (by decide +kernel)]; kernel_rfl) | (rw [if_neg (by decide +kernel)]; exact ⟨rfl, rfl⟩))
    (fun os started H enc _ F => by rw [OpenClaim.pre_eq_preRow]; exact showDisplays_lifted os started H enc F)
theorem showDisplays_plain (f : FuncId) (fn : Func) (hf : Tryd.pinned.checked.prog.funcNamed "tandem/tandemlaw06.ShowDisplays" = some f) (hfn : Tryd.pinned.checked.prog.funcs[f]? = some fn) :
    false = Tryd.pinned.checked.prog.looks [] ∧ ∀ (j : Nat) t, fn.params[j]? = some t → Tryd.pinned.checked.prog.wantsStandIn t = false := by
  obtain rfl : f = 4 := Option.some.inj ((show Tryd.prog.funcNamed "tandem/tandemlaw06.ShowDisplays" = some 4 by kernel_rfl).symm.trans hf) |>.symm
  obtain rfl : fn = Tryd.f4 := (Option.some.inj (Tryd.func4.symm.trans hfn)).symm
  refine ⟨by kernel_rfl, fun j t ht => ?_⟩
  rw [Tryd.params4] at ht
  obtain rfl : t = 27 := by simpa using Array.mem_of_getElem? ht
  exact (show Tryd.prog.wantsStandIn 27 = false by kernel_rfl)
theorem ShowDisplaysUptoCard_holds : Rows.ShowDisplaysUptoCardSaid :=
  Claim7.holds_tied_plain_at .later [] _ _ _ _ showDisplays_saidUpto (fun _ h => by cases h) (by kernel_rfl) (fun _ h => by cases h) showDisplaysUpto_row_tie rfl ⟨rfl, rfl⟩ (by kernel_rfl) rfl showDisplays_plain (by kernel_rfl)
end Go.Proofs.YtgeokccfobmeiaaDoor
