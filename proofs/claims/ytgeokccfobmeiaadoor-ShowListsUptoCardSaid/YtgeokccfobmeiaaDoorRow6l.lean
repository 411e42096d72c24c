/- The row of tandemlaw06.ShowLists. -/
import Derived.Test.YtgeokccfobmeiaaDoorRow6
import Derived.Test.YtgeokccfobmeiaaDoorLaw6d
namespace Go.Proofs.YtgeokccfobmeiaaDoor
open Go.RowKit Go.Proofs.YtgeokccfobmeiaaDoorL Go.Proofs.YtgeokccfobmeiaaDoorM Go.ChangeShapes Go.WideShapes Go.ChangeAt Go.Deep
set_option linter.unusedVariables false
set_option linter.unusedSimpArgs false
set_option maxRecDepth 100000 in
theorem openDs {H : Type} {enc : TypeId × Value → H} {W : World} {base : Nat} {v : Value} {d : DataW H} {p : List MemPlace} (hv : Value.okWide Tryd.prog W .any base 25 v) (h : DataW.Trod enc Tryd.prog W 0 (fun _ => true) true 25 v d p) :
    ∃ (A : Option Addr) (l : List LD) (c : Nat), v = .slice A l.length c ∧ Rd encD 7 W A l ∧ l.length ≤ c ∧ (A = none → c = 0) ∧ wtAll l + 1 ≤ Rows.uptoBulk d ∧ (Rows.uptoBulk d ≤ 1048576 → ∀ y ∈ l, Good W y) := by
  obtain ⟨A', n', c', rfl⟩ := okWide_slice Tryd.underlying25 hv
  obtain ⟨fuel, hf⟩ := h
  obtain ⟨A, l, c, ds, e, hr, hc, hA, hdl, hR, hb⟩ := slice_dec (enc := enc) (α := LD) (en := encD) Tryd.underlying25 c27 (by omega) (fun x d => wtD x ≤ Rows.uptoBulk d ∧ (Rows.uptoBulk d ≤ 1048576 → Good W x)) (fun n hn cs y hy => ld_of n cs y hy) hf
  simp [Value.cells] at e
  obtain ⟨rfl, rfl, rfl⟩ := e
  have hw := sum_wt (fun x d h => h.1) l ds hdl hR
  simp only at hb
  refine ⟨_, l, _, rfl, hr, hc, hA, by omega, fun hk x hx => ?_⟩
  obtain ⟨i, hi, rfl⟩ := List.getElem_of_mem hx
  have h1 := hR i _ ds[i] (List.getElem?_eq_getElem hi) (List.getElem?_eq_getElem (by omega))
  exact h1.2 (by have := bulk_mem (List.getElem_mem (show i < ds.length by omega)); omega)
theorem showLists_any (items : List LD) (A : Option Addr) (c : Nat) (x : LD) (b : Bool) (w : World) (htab : Tab w) (hr : Rd encD 7 w A items) (hc : items.length ≤ c) (hgi : ∀ y ∈ items, Good w y) (hgx : Good w x) (hwt : wtAll items + wtD x ≤ 536870912) :
    Calls Tryd.prog 5 #[.slice A items.length c, .agg (encD x).toArray, .bool b] w (Gives w fun v _ => v = .bool true) := by
  cases b with
  | false => exact showLists_plain items A c x w htab hr hc hgi hgx hwt
  | true =>
    rcases items with _ | ⟨y, l⟩
    · exact showLists_none [] A c x w htab hr hc hgi hgx hwt rfl
    · exact showLists_dot (y :: l) A c x w htab hr hc hgi hgx hwt (Nat.succ_pos _)
def showListsArgs : Array Value := #[.slice none 0 0, .agg #[.int .i64 0, .int .i64 0, .bool false, .slice none 0 0, .string ⟨#[]⟩, .slice none 0 0, .slice none 0 0], .bool false]
theorem showLists_laid (os : Os) : laidMet Tryd.prog Rows.showListsUptoRow.laid ((laidWorld os).forCall (fun _ _ => 0) ⟨#[], showListsArgs, []⟩).memory :=
  laidMet_of_run' 8 (by kernel_rfl) (by kernel_rfl)
theorem showLists_reads (os : Os) {H : Type} (enc : TypeId × Value → H) : ∃ x, DataW.whole enc Tryd.prog ((laidWorld os).forCall (fun _ _ => 0) ⟨#[], showListsArgs, []⟩).memory Tryd.f5.params.toList Rows.showListsSpec.vars false showListsArgs.toList 8 = some x ∧ Rows.uptoSmall H (x.1 ++ x.2.1) = true :=
  ⟨([.nil, .agg [.lit (.int .i64 0), .lit (.int .i64 0), .agg [.lit (.bool false), .nil], .lit (.string []), .nil, .nil], .lit (.bool false)], [], []), by kernel_rfl, by kernel_rfl⟩
theorem showLists_contract (H : Type) (enc : TypeId × Value → H) (W : World) (base : Nat) (args : Array Value) (ds gs : List (DataW H)) (before : List MemPlace)
    (hval : ∀ (j : Nat) t v, Tryd.f5.params[j]? = some t → args[j]? = some v → Value.okWide Tryd.prog W .any base t v)
    (hW : DataW.Whole enc Tryd.prog Tryd.f5.params.toList Rows.showListsSpec.vars false W args.toList ds gs before) (hk : Rows.uptoSmall H (ds ++ gs) = true) (hL : laidMetH Tryd.prog Rows.showWritesRow.laid W) :
    Calls Tryd.prog 5 args W fun e W' => ∃ v, e = .returned v ∧ Rows.showListsSpec.post enc Tryd.prog Tryd.f5 false true false false W args v W' := by
  have hW' := hW
  obtain ⟨p, q, hA0, hV, rfl, hfz, hnd⟩ := hW
  have hA : DataW.TrodAll enc Tryd.prog W 0 (fun _ => true) true Tryd.f5.params.toList args.toList ds p := hA0
  rw [Tryd.params5] at hA hval
  obtain ⟨v0, vs0, d0, ds0, p0, q0, hv0, rfl, rfl, h0, r0⟩ := trodAll_cons hA
  obtain ⟨v1, vs1, d1, ds1, p1, q1, hv1, rfl, rfl, h1, r1⟩ := trodAll_cons r0
  obtain ⟨v2, vs2, d2, ds2, p2, q2, hv2, rfl, rfl, h2, r2⟩ := trodAll_cons r1
  obtain ⟨hv3, rfl, rfl⟩ := trodAll_nil r2
  obtain rfl : args = #[v0, v1, v2] := by
    have e : args.toList = [v0, v1, v2] := by rw [hv0, hv1, hv2, hv3]
    exact Array.toList_inj.1 e
  obtain ⟨rfl, rfl⟩ := trodVars_none hV
  have hb : Rows.uptoBulk d0 + (Rows.uptoBulk d1 + (Rows.uptoBulk d2 + 0)) ≤ 1048576 := by
    simpa only [List.append_nil, Rows.uptoSmall, Rows.uptoBulkAll, decide_eq_true_eq] using hk
  obtain ⟨A0, x0, c0, rfl, hr0, hc0, hA0, hx0, hg0⟩ := openDs (hval 0 25 v0 rfl rfl) h0
  obtain ⟨x1, rfl, hx1, hg1⟩ := openD (hval 1 27 v1 rfl rfl) h1
  obtain ⟨x2, rfl⟩ := okWide_bool Tryd.underlying4 (hval 2 4 v2 rfl rfl)
  clear hA0
  refine (showLists_any x0 A0 c0 x1 x2 W (tab_of hL) hr0 hc0 (hg0 (by omega)) (hg1 (by omega)) (by omega)).mono fun e W' ⟨v, he, hv, bel⟩ => ?_
  subst he hv
  exact ⟨_, rfl, law_post rfl Tryd.underlying4 laidOut (by rw [Tryd.params5]; decide +kernel) rfl hW' rfl bel⟩
set_option maxRecDepth 100000 in
theorem showLists_lifted (os : Os) (started : os.Started) (H : Type) (enc : TypeId × Value → H) (F : Stop.Interp) :
    ReturnsInHanded {} Tryd.checked os 5 .any ((Rows.OpenSpec.upto Rows.showListsSpec).preRow enc Tryd.prog Tryd.f5 Rows.showListsUptoRow.domain false Rows.showListsUptoRow.laid) (((Rows.OpenSpec.upto Rows.showListsSpec).at F).post enc Tryd.prog Tryd.f5 false true false false) := by
  obtain ⟨x, hx, hxs⟩ := showLists_reads os enc
  refine returnsInHanded_of_row (C := Tryd.checked) (s := Rows.OpenSpec.upto Rows.showListsSpec) ownK started (by kernel_rfl) Tryd.func5
    (witness_row_at (enc := enc) (C := Tryd.checked) false (laidWorld os) showListsArgs rfl (by kernel_rfl) (by kernel_rfl) (by kernel_rfl)
      (OpenSpec.preRow_of_cond 8 hx (by rfl) (fun k hk => by cases hk; exact hxs) (by kernel_rfl) (showLists_laid os))) ?_
  intro W base args ds gs before hval hW _ hk _ hL _ _
  exact showLists_contract H enc W base args ds gs before hval hW (hk _ rfl) hL
theorem showLists_saidUpto : Rows.ShowListsUptoSaid :=
  OpenClaim.holds_of_cond 5 Tryd.f5 rfl rfl rfl rfl rfl rfl rfl ⟨rfl, rfl, rfl, rfl, rfl⟩ rfl rfl rfl rfl rfl (by kernel_rfl) Tryd.func5 (by kernel_rfl)
    (of_decide_eq_true (by kernel_rfl)) (by unfold Func.isWrapper; first | (rw [if_pos (by decide +kernel)]; kernel_rfl) | (rw [if_neg (by decide +kernel)]; exact ⟨rfl, rfl⟩))
    (fun os started H enc _ F => by rw [OpenClaim.pre_eq_preRow]; exact showLists_lifted os started H enc F)
theorem showLists_plainly (f : FuncId) (fn : Func) (hf : Tryd.pinned.checked.prog.funcNamed "tandem/tandemlaw06.ShowLists" = some f) (hfn : Tryd.pinned.checked.prog.funcs[f]? = some fn) :
    false = Tryd.pinned.checked.prog.looks [] ∧ ∀ (j : Nat) t, fn.params[j]? = some t → Tryd.pinned.checked.prog.wantsStandIn t = false := by
  obtain rfl : f = 5 := Option.some.inj ((show Tryd.prog.funcNamed "tandem/tandemlaw06.ShowLists" = some 5 by kernel_rfl).symm.trans hf) |>.symm
  obtain rfl : fn = Tryd.f5 := (Option.some.inj (Tryd.func5.symm.trans hfn)).symm
  refine ⟨by kernel_rfl, fun j t ht => ?_⟩
  rw [Tryd.params5] at ht
  have hm := Array.mem_of_getElem? ht
  simp only [Array.mem_def, List.mem_cons, List.not_mem_nil, or_false] at hm
  rcases hm with rfl | rfl | rfl
  · exact (show Tryd.prog.wantsStandIn 25 = false by kernel_rfl)
  · exact (show Tryd.prog.wantsStandIn 27 = false by kernel_rfl)
  · exact (show Tryd.prog.wantsStandIn 4 = false by kernel_rfl)
theorem ShowListsUptoCard_holds : Rows.ShowListsUptoCardSaid :=
  Claim7.holds_tied_plain_at .later [] _ _ _ _ showLists_saidUpto (fun _ h => by cases h) (by kernel_rfl) (fun _ h => by cases h) showListsUpto_row_tie rfl ⟨rfl, rfl⟩ (by kernel_rfl) rfl showLists_plainly (by kernel_rfl)
end Go.Proofs.YtgeokccfobmeiaaDoor
