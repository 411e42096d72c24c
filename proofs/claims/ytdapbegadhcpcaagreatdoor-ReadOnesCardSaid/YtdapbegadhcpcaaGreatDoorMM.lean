/- A part of the proof. -/
import Derived.Test.YtdapbegadhcpcaaGreatDoorMF
import Derived.Test.YtdapbegadhcpcaaGreatDoorRdQ
import Derived.Test.YtdapbegadhcpcaaGreatDoorMA
import Derived.IntWalk
set_option linter.unusedVariables false
set_option linter.unusedSimpArgs false
namespace Go.Proofs.YtdapbegadhcpcaaGreatDoorM
def awT : List UInt8 := [40, 97, 32, 46, 32, 40, 98, 32, 49, 50, 41, 41, 32, 59, 32, 120]
def awU : List UInt8 := [40, 46, 32, 97, 41]
theorem sym_b : plainF [98] = .ok (dSym [98]) := by simp [plainF, numF, symF, isLet, isD]
theorem num_12 : plainF [49, 50] = .ok (dInt 12) := by simp [plainF, numF, isD, numV, sval]
theorem aw_12 : tokR awT 8 = .ok (dInt 12, 10) := by
 have h := tok_plain (p := [40, 97, 32, 46, 32, 40, 98, 32]) (t := [49, 50]) (q := [41, 41, 32, 59, 32, 120]) (dlm_cons _ (by decide)) (by decide) (by decide) (by decide) num_12
 exact h
theorem aw_b : tokR awT 6 = .ok (dSym [98], 7) := by
 have h := tok_plain (p := [40, 97, 32, 46, 32, 40]) (t := [98]) (q := [32, 49, 50, 41, 41, 32, 59, 32, 120]) (dlm_cons _ (by decide)) (by decide) (by decide) (by decide) sym_b
 exact h
theorem aw_a : tokR awT 1 = .ok (dSym [97], 2) := by
 have h := tok_plain (p := [40]) (t := [97]) (q := [32, 46, 32, 40, 98, 32, 49, 50, 41, 41, 32, 59, 32, 120]) (dlm_cons _ (by decide)) (by decide) (by decide) (by decide) sym_a
 exact h
theorem tok_at {s : List UInt8} {d i e : Nat} {x : DV} (h1 : dcls s i = .tok) (h2 : tokR s i = .ok (x, e)) : Run s (.datum d i) (.ok (x, e)) := by
 have := @Run.d_tok s d i h1
 rwa [h2] at this
theorem aw_inner : Run awT (.datum 1 5) (.ok (dList [dSym [98], dInt 12] [], 11)) := by
 refine .d_list rfl (by decide) ?_
 refine .i_more (.b_stop rfl) rfl (tok_at rfl aw_b) ?_
 refine .i_more (.b_blank rfl (.b_stop rfl)) rfl (tok_at rfl aw_12) ?_
 exact .i_close (v := false) (.b_stop rfl) rfl
theorem aw_outer : Run awT (.datum 0 0) (.ok (dList [dSym [97], dSym [98], dInt 12] [], 12)) := by
 refine .d_list rfl (by decide) ?_
 refine .i_more (.b_stop rfl) rfl (tok_at rfl aw_a) ?_
 exact .i_last (z := dList [dSym [98], dInt 12] []) (.b_blank rfl (.b_stop rfl)) rfl (.b_blank rfl (.b_stop rfl)) (by decide) (by decide) aw_inner (.b_stop rfl) rfl
theorem aw_line : lineEnd awT 13 = 16 := by
 rw [lineEnd_on (c := 59) rfl (by decide), lineEnd_on (c := 32) rfl (by decide), lineEnd_on (c := 120) rfl (by decide), lineEnd_len (by decide)]
theorem aw_all : AllR awT 0 [] (.ok [dList [dSym [97], dSym [98], dInt 12] []]) := by
 refine .more (.b_stop rfl) (by decide) aw_outer ?_
 refine .fin (e := 16) (x := d0) (.b_blank rfl (.b_line rfl ?_)) (by decide)
 rw [aw_line]
 exact .b_fin rfl
theorem aw_bad : AllR awU 0 [] (.error (1, 15)) := by
 refine .bad (.b_stop rfl) (by decide) (.d_list rfl (by decide) ?_)
 exact .i_bad (.b_stop rfl) rfl
end Go.Proofs.YtdapbegadhcpcaaGreatDoorM
namespace Go.Proofs.YtdapbegadhcpcaaGreatDoor
open Go.RowKit Go.Proofs.YtdapbegadhcpcaaGreatDoorL Go.Proofs.YtdapbegadhcpcaaGreatDoorM
theorem aw_shape {m : List LD} (h : erAll m = [dList [dSym [97], dSym [98], dInt 12] []]) : ∃ kind n neg A c mag text Ai ci items Ar cr rest, m = [.mk kind n neg A c mag text Ai ci items Ar cr rest] ∧ items.length = 3 := by
 match m, h with
 | [], h => simp [erAll] at h
 | x :: y :: l, h => simp [erAll] at h
 | [.mk kind n neg A c mag text Ai ci items Ar cr rest], h =>
   refine ⟨kind, n, neg, A, c, mag, text, Ai, ci, items, Ar, cr, rest, rfl, ?_⟩
   simp only [erAll, erD, dList, List.cons.injEq, DV.mk.injEq] at h
   have h2 := h.1.2.2.2.2.2.1
   rw [← erAll_len, h2]; rfl
set_option maxHeartbeats 4000000 in
theorem awake_any (w : World) : Calls Tryz.prog 8 #[] w (Gives w fun v _ => v = .bool true) := by
 have HA := As.mk (fun w => all_any (w := w) (T := ⟨#[40, 97, 32, 46, 32, 40, 98, 32, 49, 50, 41, 41, 32, 59, 32, 120]⟩) (by decide) _ aw_all)
 have HB := As.mk (fun w => all_any (w := w) (T := ⟨#[40, 46, 32, 97, 41]⟩) (by decide) _ aw_bad)
 go_enter Tryz.func8, Tryz.ntmps8
 go_wp2_with (first
  | (go_at_call 5; (with_reducible refine (HA.out _).mono ?_); rintro e1 w1 ⟨v1, rfl, ⟨A, c, m, rfl, hi, hm⟩, hb1⟩; obtain ⟨kind, n, neg, mA, mc, mag, text, Ai, ci, items, Ar, cr, rest, rfl, h3⟩ := aw_shape hi.same; have hr := hi.ow.rd lenD; clear hi hm HA)
  | (go_at_call 5; (with_reducible refine (HB.out _).mono ?_); rintro e2 w2 ⟨v2, rfl, ⟨rfl, _⟩, hb2⟩; replace hr := hr.below hb2; obtain ⟨b, off, rfl⟩ := hr.get (by simp); have c5 : w2.cell? ⟨b, off + 5, none⟩ = some (.slice Ai items.length ci) := (by have := hr.cell 0 (by simp) 5 _ rfl; simpa using this); replace hb2 := bthen hb1 hb2; clear hr HB; have h3i : (items.length : Int) = 3 := (by omega)))
 go_ret
 exact ⟨_, rfl, by simp, hb2⟩
end Go.Proofs.YtdapbegadhcpcaaGreatDoor
