/- LawNumPowers RowNumPowers, in one text. -/
import Derived.Test.YtigoofeodbbbhaaDoorNumQ
import Derived.Test.YtigoofeodbbbhaaDoorNum10
import Derived.Test.YtigoofeodbbbhaaDoorDat2
/- NumPowers. -/
namespace Go.Proofs.YtigoofeodbbbhaaDoor
open Go.RowKit Go.Proofs.YtigoofeodbbbhaaDoorL Go.Proofs.YtigoofeodbbbhaaDoorM
set_option linter.unusedVariables false
set_option linter.unusedSimpArgs false
set_option maxRecDepth 16000 in
set_option maxHeartbeats 16000000 in
theorem numPowers_any (x : LN) (e bits : Int) (w : World) (htab : Tab w) (hx : LimN w x) (hxy : x.mag.length ≤ 1048576) (he1 : -9223372036854775808 ≤ e) (he2 : e ≤ 9223372036854775807) (hb1 : -9223372036854775808 ≤ bits) (hb2 : bits ≤ 9223372036854775807) :
    Calls Tryd.prog 10 #[.agg (encN x).toArray, .int .i64 e, .int .i64 bits] w (Gives w fun r _ => r = .bool true) := by
  obtain ⟨n1, A1, c1, l1⟩ := x
  simp only [encN]
  replace hxy : l1.length ≤ 1048576 := hxy
  obtain ⟨k1, z1, e1, o1⟩ := open_num hx
  have F0 := (Fs.nil w).cons o1
  rw [e1] at hxy ⊢
  have HT := As.mk htab
  clear htab hx e1 o1
  rcases Int.lt_or_le 3000 bits with hbit | hbit
  · obtain ⟨q, ok, hPW⟩ := pw_ex z1 e 3000
    have HPW := As.mk hPW
    clear hPW
    have d1 : decide (bits > 3000) = true := by simpa using hbit
    have d2 : decide ((3000 : Int) < bits) = true := by simpa using hbit
    go_enter Tryd.func10, Tryd.ntmps10
    go_wp2_with (first
      | ((with_reducible refine g_dst 3 ?_); go_must (refine ev_box 3 rfl (cs := [.bool n1, .slice A1 k1 c1]) (by rfl) ?_); intro g3 wb hbt B3 hg3; replace F0 := F0.below hbt; have C3 := B3.cells; have hcur := Below.refl wb.heap.size wb)
      | (go_at_call 21; (with_reducible refine (cF (F0.below hcur) (by repeat (first | exact List.mem_cons_self .. | apply List.mem_cons_of_mem))).mono ?_); rintro e' wn ⟨vn, rfl, ⟨b17, A17, n17, c17, rfl, o17, f17⟩, hbn⟩; clear C3 f17; replace hcur := bthen hcur hbn; clear hbn)
      | (go_at_call 37; (with_reducible refine (powF ((Fs.nil _).cons o17) (by repeat (first | exact List.mem_cons_self .. | apply List.mem_cons_of_mem)) HPW.out (by omega) (by omega) (by omega) (by omega)).mono ?_); rintro e' wn ⟨vn, rfl, ⟨qv, rfl, ⟨b21, A21, n21, c21, rfl, o21, f21⟩⟩, hbn⟩; have lt21 : ∀ k ∈ addrBlock A21, k < _ := (fun k hk => (f21 k hk).2); clear f21 o17; replace hcur := bthen hcur hbn; clear hbn)
      | ((with_reducible refine g_dst 8 ?_); go_must (refine ev_alloc 8 rfl infoNum (cs := [.bool false, .slice none 0 0]) rfl ?_); intro g8 wn hbx B8 hgn; have hne21_8 : ∀ k ∈ addrBlock A21, k ≠ g8 := (fun k hk e => by (have h1 := lt21 k hk; omega)); replace lt21 : ∀ k ∈ addrBlock A21, k < _ := (fun k hk => Nat.lt_of_lt_of_le (lt21 k hk) hbx.size); replace o21 := o21.below hbx; have hg8 := Nat.le_trans hcur.size hgn; replace hcur := bthen hcur hbx; clear hbx hgn)
      | ((with_reducible refine g_store 8 ?_); go_must (refine ev_store rfl rfl B8 (news := [.bool b21, .slice A21 n21 c21]) (by rfl) infoNum (by simp) (by simp [Value.oneCell']) ?_); intro wn hon Bn; simp only [List.take_zero, List.nil_append, List.length_cons, List.length_nil, List.drop_succ_cons, List.drop_zero, List.append_nil, List.cons_append] at Bn; replace B8 := Bn; clear Bn; replace o21 := o21.only hon hne21_8; have honz := hon.size; replace hcur := hcur.trans (hon.below hg8); clear hon; replace lt21 : ∀ k ∈ addrBlock A21, k < _ := (fun k hk => Nat.lt_of_lt_of_eq (lt21 k hk) honz.symm); have C3 := (B3.below hcur).cells)
      | (go_at_call 38; (with_reducible refine (rpowF (F0.below hcur) (by repeat (first | exact List.mem_cons_self .. | apply List.mem_cons_of_mem)) HPW.out (by omega) (by omega)).mono ?_); rintro e' wn ⟨vn, rfl, ⟨qv, rfl, ⟨b28, A28, n28, c28, rfl, o28, f28⟩⟩, hbn⟩; have lt28 : ∀ k ∈ addrBlock A28, k < _ := (fun k hk => (f28 k hk).2); clear f28 C3; replace o21 := o21.below hbn; replace lt21 : ∀ k ∈ addrBlock A21, k < _ := (fun k hk => Nat.lt_of_lt_of_le (lt21 k hk) hbn.size); replace B8 := B8.below hbn; replace hcur := bthen hcur hbn; clear hbn)
      | ((with_reducible refine g_dst 10 ?_); go_must (refine ev_alloc 10 rfl infoNum (cs := [.bool false, .slice none 0 0]) rfl ?_); intro g10 wn hbx B10 hgn; have hneb10_8 : g10 ≠ g8 := (fun e => by (have h1 := B8.lt; omega)); have hne21_10 : ∀ k ∈ addrBlock A21, k ≠ g10 := (fun k hk e => by (have h1 := lt21 k hk; omega)); replace lt21 : ∀ k ∈ addrBlock A21, k < _ := (fun k hk => Nat.lt_of_lt_of_le (lt21 k hk) hbx.size); replace o21 := o21.below hbx; have hne28_10 : ∀ k ∈ addrBlock A28, k ≠ g10 := (fun k hk e => by (have h1 := lt28 k hk; omega)); replace lt28 : ∀ k ∈ addrBlock A28, k < _ := (fun k hk => Nat.lt_of_lt_of_le (lt28 k hk) hbx.size); replace o28 := o28.below hbx; have hg10 := Nat.le_trans hcur.size hgn; replace B8 := B8.below hbx; replace hcur := bthen hcur hbx; clear hbx hgn)
      | ((with_reducible refine g_store 10 ?_); go_must (refine ev_store rfl rfl B10 (news := [.bool b28, .slice A28 n28 c28]) (by rfl) infoNum (by simp) (by simp [Value.oneCell']) ?_); intro wn hon Bn; simp only [List.take_zero, List.nil_append, List.length_cons, List.length_nil, List.drop_succ_cons, List.drop_zero, List.append_nil, List.cons_append] at Bn; replace B8 := B8.only hon (Ne.symm hneb10_8); replace B10 := Bn; clear Bn; replace o21 := o21.only hon hne21_10; replace o28 := o28.only hon hne28_10; replace hcur := hcur.trans (hon.below hg10); clear hon; have C8 := B8.cells; have C10 := B10.cells)
      | (go_at_call 15; (with_reducible refine (sameF (((Fs.nil _).cons o28).cons o21) (by repeat (first | exact List.mem_cons_self .. | apply List.mem_cons_of_mem)) (by repeat (first | exact List.mem_cons_self .. | apply List.mem_cons_of_mem)) (by with_reducible rfl)).mono ?_); rintro e' wn ⟨vn, rfl, rfl, hbn⟩; clear C8 C10 o21 o28; replace hcur := bthen hcur hbn; clear hbn)
      | (go_at_call 19; (with_reducible refine (awake02_any _ (HT.out.below (bthen hbt hcur))).mono ?_); rintro e' wn ⟨vn, rfl, rfl, hbn⟩; replace hcur := bthen hcur hbn; clear hbn))
    go_ret
    exact ⟨_, rfl, rfl, bthen hbt hcur⟩
  · obtain ⟨q, ok, hPW⟩ := pw_ex z1 e bits
    have HPW := As.mk hPW
    clear hPW
    have d1 : decide (bits > 3000) = false := by simp; omega
    have d2 : decide ((3000 : Int) < bits) = false := by simp; omega
    go_enter Tryd.func10, Tryd.ntmps10
    go_wp2_with (first
      | ((with_reducible refine g_dst 3 ?_); go_must (refine ev_box 3 rfl (cs := [.bool n1, .slice A1 k1 c1]) (by rfl) ?_); intro g3 wb hbt B3 hg3; replace F0 := F0.below hbt; have C3 := B3.cells; have hcur := Below.refl wb.heap.size wb)
      | (go_at_call 21; (with_reducible refine (cF (F0.below hcur) (by repeat (first | exact List.mem_cons_self .. | apply List.mem_cons_of_mem))).mono ?_); rintro e' wn ⟨vn, rfl, ⟨b17, A17, n17, c17, rfl, o17, f17⟩, hbn⟩; clear C3 f17; replace hcur := bthen hcur hbn; clear hbn)
      | (go_at_call 37; (with_reducible refine (powF ((Fs.nil _).cons o17) (by repeat (first | exact List.mem_cons_self .. | apply List.mem_cons_of_mem)) HPW.out (by omega) (by omega) (by omega) (by omega)).mono ?_); rintro e' wn ⟨vn, rfl, ⟨qv, rfl, ⟨b21, A21, n21, c21, rfl, o21, f21⟩⟩, hbn⟩; have lt21 : ∀ k ∈ addrBlock A21, k < _ := (fun k hk => (f21 k hk).2); clear f21 o17; replace hcur := bthen hcur hbn; clear hbn)
      | ((with_reducible refine g_dst 8 ?_); go_must (refine ev_alloc 8 rfl infoNum (cs := [.bool false, .slice none 0 0]) rfl ?_); intro g8 wn hbx B8 hgn; have hne21_8 : ∀ k ∈ addrBlock A21, k ≠ g8 := (fun k hk e => by (have h1 := lt21 k hk; omega)); replace lt21 : ∀ k ∈ addrBlock A21, k < _ := (fun k hk => Nat.lt_of_lt_of_le (lt21 k hk) hbx.size); replace o21 := o21.below hbx; have hg8 := Nat.le_trans hcur.size hgn; replace hcur := bthen hcur hbx; clear hbx hgn)
      | ((with_reducible refine g_store 8 ?_); go_must (refine ev_store rfl rfl B8 (news := [.bool b21, .slice A21 n21 c21]) (by rfl) infoNum (by simp) (by simp [Value.oneCell']) ?_); intro wn hon Bn; simp only [List.take_zero, List.nil_append, List.length_cons, List.length_nil, List.drop_succ_cons, List.drop_zero, List.append_nil, List.cons_append] at Bn; replace B8 := Bn; clear Bn; replace o21 := o21.only hon hne21_8; have honz := hon.size; replace hcur := hcur.trans (hon.below hg8); clear hon; replace lt21 : ∀ k ∈ addrBlock A21, k < _ := (fun k hk => Nat.lt_of_lt_of_eq (lt21 k hk) honz.symm); have C3 := (B3.below hcur).cells)
      | (go_at_call 38; (with_reducible refine (rpowF (F0.below hcur) (by repeat (first | exact List.mem_cons_self .. | apply List.mem_cons_of_mem)) HPW.out (by omega) (by omega)).mono ?_); rintro e' wn ⟨vn, rfl, ⟨qv, rfl, ⟨b28, A28, n28, c28, rfl, o28, f28⟩⟩, hbn⟩; have lt28 : ∀ k ∈ addrBlock A28, k < _ := (fun k hk => (f28 k hk).2); clear f28 C3; replace o21 := o21.below hbn; replace lt21 : ∀ k ∈ addrBlock A21, k < _ := (fun k hk => Nat.lt_of_lt_of_le (lt21 k hk) hbn.size); replace B8 := B8.below hbn; replace hcur := bthen hcur hbn; clear hbn)
      | ((with_reducible refine g_dst 10 ?_); go_must (refine ev_alloc 10 rfl infoNum (cs := [.bool false, .slice none 0 0]) rfl ?_); intro g10 wn hbx B10 hgn; have hneb10_8 : g10 ≠ g8 := (fun e => by (have h1 := B8.lt; omega)); have hne21_10 : ∀ k ∈ addrBlock A21, k ≠ g10 := (fun k hk e => by (have h1 := lt21 k hk; omega)); replace lt21 : ∀ k ∈ addrBlock A21, k < _ := (fun k hk => Nat.lt_of_lt_of_le (lt21 k hk) hbx.size); replace o21 := o21.below hbx; have hne28_10 : ∀ k ∈ addrBlock A28, k ≠ g10 := (fun k hk e => by (have h1 := lt28 k hk; omega)); replace lt28 : ∀ k ∈ addrBlock A28, k < _ := (fun k hk => Nat.lt_of_lt_of_le (lt28 k hk) hbx.size); replace o28 := o28.below hbx; have hg10 := Nat.le_trans hcur.size hgn; replace B8 := B8.below hbx; replace hcur := bthen hcur hbx; clear hbx hgn)
      | ((with_reducible refine g_store 10 ?_); go_must (refine ev_store rfl rfl B10 (news := [.bool b28, .slice A28 n28 c28]) (by rfl) infoNum (by simp) (by simp [Value.oneCell']) ?_); intro wn hon Bn; simp only [List.take_zero, List.nil_append, List.length_cons, List.length_nil, List.drop_succ_cons, List.drop_zero, List.append_nil, List.cons_append] at Bn; replace B8 := B8.only hon (Ne.symm hneb10_8); replace B10 := Bn; clear Bn; replace o21 := o21.only hon hne21_10; replace o28 := o28.only hon hne28_10; replace hcur := hcur.trans (hon.below hg10); clear hon; have C8 := B8.cells; have C10 := B10.cells)
      | (go_at_call 15; (with_reducible refine (sameF (((Fs.nil _).cons o28).cons o21) (by repeat (first | exact List.mem_cons_self .. | apply List.mem_cons_of_mem)) (by repeat (first | exact List.mem_cons_self .. | apply List.mem_cons_of_mem)) (by with_reducible rfl)).mono ?_); rintro e' wn ⟨vn, rfl, rfl, hbn⟩; clear C8 C10 o21 o28; replace hcur := bthen hcur hbn; clear hbn)
      | (go_at_call 19; (with_reducible refine (awake02_any _ (HT.out.below (bthen hbt hcur))).mono ?_); rintro e' wn ⟨vn, rfl, rfl, hbn⟩; replace hcur := bthen hcur hbn; clear hbn))
    go_ret
    exact ⟨_, rfl, rfl, bthen hbt hcur⟩
end Go.Proofs.YtigoofeodbbbhaaDoor
/- The row of tandemlaw02.NumPowers. -/
namespace Go.Proofs.YtigoofeodbbbhaaDoor
open Go.RowKit Go.Proofs.YtigoofeodbbbhaaDoorL Go.Proofs.YtigoofeodbbbhaaDoorM Go.ChangeShapes Go.WideShapes Go.ChangeAt Go.Deep
set_option linter.unusedVariables false
set_option linter.unusedSimpArgs false
section
variable {H : Type} {enc : TypeId × Value → H}
set_option maxRecDepth 100000 in
theorem openI {W : World} {base : Nat} {v : Value} {d : DataW H} {p : List MemPlace} (hv : Value.okWide Tryd.prog W .any base 3 v) (h : DataW.Trod enc Tryd.prog W 0 (fun _ => true) true 3 v d p) :
    ∃ n : Int, v = .int .i64 n ∧ (-9223372036854775808 ≤ n ∧ n ≤ 9223372036854775807) := by
  obtain ⟨n, rfl⟩ := okWide_int Tryd.underlying3 hv
  obtain ⟨fuel, hf⟩ := h
  obtain ⟨k, e, _, hw⟩ := DataW.trod_int Tryd.underlying3 hf
  simp [Value.cells] at e
  subst e
  have hmin : IntKind.i64.min = -9223372036854775808 := by decide
  have hmax : IntKind.i64.max = 9223372036854775807 := by decide
  simp only [Lit.wf, hmin, hmax, Bool.and_eq_true, decide_eq_true_eq] at hw
  exact ⟨n, rfl, hw⟩
end
def numPowersArgs : Array Value := #[.agg #[.bool false, .slice none 0 0], .int .i64 0, .int .i64 0]
theorem numPowers_laid (os : Os) : laidMet Tryd.prog Rows.numPowersUptoRow.laid ((laidWorld os).forCall (fun _ _ => 0) ⟨#[], numPowersArgs, []⟩).memory :=
  laidMet_of_run' 8 (by kernel_rfl) (by kernel_rfl)
theorem numPowers_reads (os : Os) {H : Type} (enc : TypeId × Value → H) : ∃ x, DataW.whole enc Tryd.prog ((laidWorld os).forCall (fun _ _ => 0) ⟨#[], numPowersArgs, []⟩).memory Tryd.f10.params.toList Rows.numPowersSpec.vars false numPowersArgs.toList 8 = some x ∧ Rows.uptoSmall H (x.1 ++ x.2.1) = true :=
  ⟨([.agg [.lit (.bool false), .nil], .lit (.int .i64 0), .lit (.int .i64 0)], [], []), by kernel_rfl, by kernel_rfl⟩
set_option maxRecDepth 100000 in
theorem numPowers_contract (H : Type) (enc : TypeId × Value → H) (W : World) (base : Nat) (args : Array Value) (ds gs : List (DataW H)) (before : List MemPlace)
    (hval : ∀ (j : Nat) t v, Tryd.f10.params[j]? = some t → args[j]? = some v → Value.okWide Tryd.prog W .any base t v)
    (hW : DataW.Whole enc Tryd.prog Tryd.f10.params.toList Rows.numPowersSpec.vars false W args.toList ds gs before) (hk : Rows.uptoSmall H (ds ++ gs) = true) (hL : laidMetH Tryd.prog Rows.numSumsRow.laid W) :
    Calls Tryd.prog 10 args W fun e W' => ∃ v, e = .returned v ∧ Rows.numPowersSpec.post enc Tryd.prog Tryd.f10 false true false false W args v W' := by
  have hW' := hW
  obtain ⟨p, q, hA0, hV, rfl, hfz, hnd⟩ := hW
  have hA : DataW.TrodAll enc Tryd.prog W 0 (fun _ => true) true Tryd.f10.params.toList args.toList ds p := hA0
  rw [Tryd.params10] at hA hval
  obtain ⟨v0, vs0, d0, ds0, p0, q0, hv0, rfl, rfl, h0, r0⟩ := trodAll_cons hA
  obtain ⟨v1, vs1, d1, ds1, p1, q1, hv1, rfl, rfl, h1, r1⟩ := trodAll_cons r0
  obtain ⟨v2, vs2, d2, ds2, p2, q2, hv2, rfl, rfl, h2, r2⟩ := trodAll_cons r1
  obtain ⟨hv3, rfl, rfl⟩ := trodAll_nil r2
  obtain rfl : args = #[v0, v1, v2] := by
    have e : args.toList = [v0, v1, v2] := by rw [hv0, hv1, hv2, hv3]
    exact Array.toList_inj.1 e
  obtain ⟨rfl, rfl⟩ := trodVars_none hV
  have hb : Rows.uptoBulk d0 + (Rows.uptoBulk d1 + (Rows.uptoBulk d2 + 0)) ≤ 1048576 := by
    simpa only [List.append_nil, Rows.uptoSmall, Rows.uptoBulkAll, decide_eq_true_eq] using hk
  obtain ⟨x0, rfl, hx0, hg0⟩ := openN (hval 0 26 v0 rfl rfl) h0
  obtain ⟨x1, rfl, hx1⟩ := openI (hval 1 3 v1 rfl rfl) h1
  obtain ⟨x2, rfl, hx2⟩ := openI (hval 2 3 v2 rfl rfl) h2
  clear hA0
  refine (numPowers_any x0 x1 x2 W (tab_of hL) (hg0 (by omega)) (by omega) hx1.1 hx1.2 hx2.1 hx2.2).mono fun e W' ⟨v, he, hv, bel⟩ => ?_
  subst he hv
  exact ⟨_, rfl, law_post rfl Tryd.underlying4 laidOut (by rw [Tryd.params10]; decide +kernel) rfl hW' rfl bel⟩
set_option maxRecDepth 100000 in
theorem numPowers_lifted (os : Os) (started : os.Started) (H : Type) (enc : TypeId × Value → H) (F : Stop.Interp) :
    ReturnsInHanded {} Tryd.checked os 10 .any ((Rows.OpenSpec.upto Rows.numPowersSpec).preRow enc Tryd.prog Tryd.f10 Rows.numPowersUptoRow.domain false Rows.numPowersUptoRow.laid) (((Rows.OpenSpec.upto Rows.numPowersSpec).at F).post enc Tryd.prog Tryd.f10 false true false false) := by
  obtain ⟨x, hx, hxs⟩ := numPowers_reads os enc
  refine returnsInHanded_of_row (C := Tryd.checked) (s := Rows.OpenSpec.upto Rows.numPowersSpec) ownK started (by kernel_rfl) Tryd.func10
    (witness_row_at (enc := enc) (C := Tryd.checked) false (laidWorld os) numPowersArgs rfl (by kernel_rfl) (by kernel_rfl) (by kernel_rfl)
      (OpenSpec.preRow_of_cond 8 hx (by rfl) (fun k hk => by cases hk; exact hxs) (by kernel_rfl) (numPowers_laid os))) ?_
  intro W base args ds gs before hval hW _ hk _ hL _ _
  exact numPowers_contract H enc W base args ds gs before hval hW (hk _ rfl) hL
theorem numPowers_saidUpto : Rows.NumPowersUptoSaid :=
  OpenClaim.holds_of_cond 10 Tryd.f10 rfl rfl rfl rfl rfl rfl rfl ⟨rfl, rfl, rfl, rfl, rfl⟩ rfl rfl rfl rfl rfl (by kernel_rfl) Tryd.func10 (by kernel_rfl)
    (of_decide_eq_true (by kernel_rfl)) (by unfold Func.isWrapper; first | (rw [if_pos (by decide +kernel)]; kernel_rfl) | (rw [if_neg (by decide +kernel)]; exact ⟨rfl, rfl⟩))
    (fun os started H enc _ F => by rw [OpenClaim.pre_eq_preRow]; exact numPowers_lifted os started H enc F)
theorem numPowers_plainly (f : FuncId) (fn : Func) (hf : Tryd.pinned.checked.prog.funcNamed "tandem/tandemlaw02.NumPowers" = some f) (hfn : Tryd.pinned.checked.prog.funcs[f]? = some fn) :
    true = Tryd.pinned.checked.prog.looks [] ∧ ∀ (j : Nat) t, fn.params[j]? = some t → Tryd.pinned.checked.prog.wantsStandIn t = false := by
  obtain rfl : f = 10 := Option.some.inj ((show Tryd.prog.funcNamed "tandem/tandemlaw02.NumPowers" = some 10 by kernel_rfl).symm.trans hf) |>.symm
  obtain rfl : fn = Tryd.f10 := (Option.some.inj (Tryd.func10.symm.trans hfn)).symm
  refine ⟨by kernel_rfl, fun j t ht => ?_⟩
  rw [Tryd.params10] at ht
  have hm := Array.mem_of_getElem? ht
  simp only [Array.mem_def, List.mem_cons, List.not_mem_nil, or_false] at hm
  rcases hm with rfl | rfl | rfl
  · exact (show Tryd.prog.wantsStandIn 26 = false by kernel_rfl)
  · exact (show Tryd.prog.wantsStandIn 3 = false by kernel_rfl)
  · exact (show Tryd.prog.wantsStandIn 3 = false by kernel_rfl)
theorem NumPowersUptoCard_holds : Rows.NumPowersUptoCardSaid :=
  Claim7.holds_tied_plain_at .later [] _ _ _ _ numPowers_saidUpto (fun _ h => by cases h) (by kernel_rfl) (fun _ h => by cases h) numPowersUpto_row_tie rfl ⟨rfl, rfl⟩ (by kernel_rfl) rfl numPowers_plainly (by kernel_rfl)
end Go.Proofs.YtigoofeodbbbhaaDoor
