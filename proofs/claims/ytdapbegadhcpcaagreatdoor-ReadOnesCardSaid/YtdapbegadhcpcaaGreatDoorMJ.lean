/- A part of the proof. -/
import Derived.Test.YtdapbegadhcpcaaGreatDoorMD
import Derived.OwnWalk
import Derived.Deep.RegionHeld3
import Derived.Test.YtdapbegadhcpcaaGreatDoorMA
import Derived.Test.YtdapbegadhcpcaaGreatDoorRdM
set_option linter.unusedVariables false
set_option linter.unusedSimpArgs false
namespace Go.Proofs.YtdapbegadhcpcaaGreatDoorL
open Go.RowKit
variable {P : Program}
theorem results_ct {fn : Func} {p u : Tmp} {ty : TypeId} (h : fn.results = #[.cell p ty, .tmp u]) (tmps : Array Value) (w : World) (g : Nat) (t : TypeId) (cs : Array Value) (fr : Nat × Nat) (d : TypeDesc)
 (hp : tmps.getD p undef = .pointer (some ⟨g, 0, none⟩)) (hg : w.heap[g]? = some (.cells cs t fr))
 (hu : P.underlying ty = some d) (hd : (match d with | .struct _ | .array _ _ => true | _ => false) = true) (hi : (P.info? ty).map (·.size) = some cs.size) :
 (results fn tmps).run P w = .ok (.tuple #[.agg cs, tmps.getD u undef]) w := by
 have hp' : tmps[p]?.getD undef = .pointer (some ⟨g, 0, none⟩) := by simpa using hp
 simp [results, h, hp', asAddr, run_loadVar_row w g t ty cs fr d hg hu hd hi]
end Go.Proofs.YtdapbegadhcpcaaGreatDoorL
namespace Go.Proofs.YtdapbegadhcpcaaGreatDoor
open Go.RowKit Go.Proofs.YtdapbegadhcpcaaGreatDoorL Go.Proofs.YtdapbegadhcpcaaGreatDoorM
theorem pA {α : Type} (l : List α) (i : Nat) (a : α) : l.toArray.setIfInBounds i a = (l.set i a).toArray := List.setIfInBounds_toArray ..
theorem pB {α : Type} (x a : α) (xs : List α) : (x :: xs).set 0 a = a :: xs := List.set_cons_zero
theorem pC {α : Type} (x a : α) (xs : List α) (i : Nat) : (x :: xs).set (i + 1) a = x :: xs.set i a := List.set_cons_succ
theorem pD {α : Type} (l : List α) (i : Nat) (h : i < l.toArray.size) : l.toArray[i] = l[i]'(by simpa using h) := List.getElem_toArray ..
theorem pE {α : Type} (x : α) (xs : List α) (h : 0 < (x :: xs).length) : (x :: xs)[0] = x := List.getElem_cons_zero ..
theorem pF {α : Type} (x : α) (xs : List α) (i : Nat) (h : i + 1 < (x :: xs).length) : (x :: xs)[i + 1] = xs[i]'(by simpa using h) := List.getElem_cons_succ ..
theorem gI {P : Program} {ops : Array Oper} {K : Act → World → Prop} {Q : Exit → Act → World → Prop} {E : Prop} {a : Act} {w : World} {o : Oper} (h : if Region.wanted o (yielded ops a.tmps) = true then Oper.wp P o a w K Q else E) : if Region.wanted o (yielded ops a.tmps) = true then Oper.wp P o a w K Q else E := h
theorem gA {P : Program} {md : Region.Mode} {ops : Array Oper} {Q : Exit → Act → World → Prop} {S : World → Prop} {fuel : Nat} {listed : Array Bool} {a : Act} {w : World} {rs : List Nat} (h : AllReadyH P md ops Q S fuel listed a w rs) : AllReadyH P md ops Q S fuel listed a w rs := h
theorem gW {P : Program} {md : Region.Mode} {ops : Array Oper} {Q : Exit → Act → World → Prop} {S : World → Prop} {fuel : Nat} {listed : Array Bool} {a : Act} {w : World} (h : wpAnyH P md ops Q S fuel listed a w) : wpAnyH P md ops Q S fuel listed a w := h
theorem m0 {α : Type} {a : α} {l : List α} : a ∈ a :: l := List.mem_cons_self ..
theorem m1 {α : Type} {a b : α} {l : List α} (h : a ∈ l) : a ∈ b :: l := List.mem_cons_of_mem _ h
theorem tk {P : Program} {ops : Array Oper} {Q : Exit → Act → World → Prop} {md : Region.Mode} {S : World → Prop} {i : Nat} {oi : Oper} {v : Value} {fuel : Nat} {listed : Array Bool} {a : Act} {w : World} (hi : ops[i]? = some oi)
 (h3 : (Region.noSelect ops && (Region.free md ops listed i && (Region.ready md ops listed).contains i)) = true) (hw : Region.wanted oi (yielded ops a.tmps) = true) (hy : ∀ w, S w → (execOp a.eval oi).run P w = .ok (.value v) w) (hS : S w)
 (h : wpAnyH P md ops (NoPanic Q) S fuel (listed.setIfInBounds i true) (a.put oi.dst v) w) : wpAnyH P md ops (NoPanic Q) S (fuel + 1) listed a w := by
 simp only [Bool.and_eq_true] at h3
 exact wpAnyH_take hi h3.1 h3.2.1 h3.2.2 (fun _ _ _ h => h) (.inl ⟨hw, hy⟩) hS h
theorem tn {P : Program} {ops : Array Oper} {Q : Exit → Act → World → Prop} {md : Region.Mode} {S : World → Prop} {i : Nat} {oi : Oper} {fuel : Nat} {listed : Array Bool} {a : Act} {w : World} (hi : ops[i]? = some oi)
 (h3 : (Region.noSelect ops && (Region.free md ops listed i && (Region.ready md ops listed).contains i)) = true) (hw : Region.wanted oi (yielded ops a.tmps) = false) (hS : S w)
 (h : wpAnyH P md ops (NoPanic Q) S fuel (listed.setIfInBounds i true) (a.put oi.dst undef) w) : wpAnyH P md ops (NoPanic Q) S (fuel + 1) listed a w := by
 simp only [Bool.and_eq_true] at h3
 exact wpAnyH_take hi h3.1 h3.2.1 h3.2.2 (fun _ _ _ h => h) (.inr ⟨hw, rfl⟩) hS h
theorem ta {P : Program} {ops : Array Oper} {Q : Exit → Act → World → Prop} {md : Region.Mode} {S : World → Prop} (i : Nat) {oi : Oper} (v : Value) {fuel : Nat} {listed : Array Bool} {a b : Act} {w : World}
 (h : wpAnyH P md ops (NoPanic Q) S fuel (listed.setIfInBounds i true) b w) (hi : ops[i]? = some oi := by rfl)
 (h3 : (Region.noSelect ops && (Region.free md ops listed i && (Region.ready md ops listed).contains i)) = true := by decide +kernel) (hw : Region.wanted oi (yielded ops a.tmps) = true := by kernel_rfl)
 (hy : ∀ w, S w → (execOp a.eval oi).run P w = .ok (.value v) w := by (intro W hSw; go_split_ands; go_simp; (try (with_reducible rfl)))) (hS : S w := by first | assumption | exact trivial)
 (hb : a.put oi.dst v = b := by (simp only [Act.put, pA, pB, pC, pD, pE, pF]; rfl)) : wpAnyH P md ops (NoPanic Q) S (fuel + 1) listed a w :=
 tk hi h3 hw hy hS (hb ▸ h)
theorem tu {P : Program} {ops : Array Oper} {Q : Exit → Act → World → Prop} {md : Region.Mode} {S : World → Prop} (i : Nat) {oi : Oper} {fuel : Nat} {listed : Array Bool} {a b : Act} {w : World}
 (h : wpAnyH P md ops (NoPanic Q) S fuel (listed.setIfInBounds i true) b w) (hi : ops[i]? = some oi := by rfl)
 (h3 : (Region.noSelect ops && (Region.free md ops listed i && (Region.ready md ops listed).contains i)) = true := by decide +kernel) (hw : Region.wanted oi (yielded ops a.tmps) = false := by kernel_rfl) (hS : S w := by first | assumption | exact trivial)
 (hb : a.put oi.dst undef = b := by (simp only [Act.put, pA, pB, pC, pD, pE, pF]; rfl)) : wpAnyH P md ops (NoPanic Q) S (fuel + 1) listed a w :=
 tn hi h3 hw hS (hb ▸ h)
theorem Upg.trans_B {g B : Nat} {w W w1 : World} (h : Upg g w W) (k : UpB B g W w1) (hB : w.heap.size ≤ B) : Upg g w w1 :=
 ⟨k.os.trans h.os, k.tape.trans h.tape, k.output.trans h.output, Nat.le_trans h.size k.size, fun i hi hne => (k.block i (by omega) hne).trans (h.block i hi hne)⟩
theorem blkU {w w1 : World} {k B g : Nat} {cs : List Value} {t : TypeId} (f : Blk w k cs t) (h : UpB B g w w1) (hk : k < B) (hne : k ≠ g) : Blk w1 k cs t := ⟨(h.block k hk hne).trans f.h⟩
theorem icls_facts {s : List UInt8} {v : Bool} {acc : List DV} {e : Nat} :
 (match icls s v acc e with
  | .fin => s.length ≤ e
  | .close => e < s.length ∧ pre s e [41] = true
  | .dot => e < s.length ∧ pre s e [41] = false ∧ dotAt s e = true ∧ v = false ∧ acc ≠ []
  | .bad => e < s.length ∧ pre s e [41] = false ∧ dotAt s e = true ∧ (v = true ∨ acc = [])
  | .more => e < s.length ∧ pre s e [41] = false ∧ dotAt s e = false) := by
 unfold icls
 by_cases h1 : s.length ≤ e
 · rw [if_pos h1]; exact h1
 · rw [if_neg h1]
   have h2 : s[e]? = some s[e] := List.getElem?_eq_getElem (by omega)
   by_cases h3 : s[e]? = some 41
   · rw [if_pos h3]; exact ⟨by omega, by rw [pre1 h3]; rfl⟩
   · rw [if_neg h3]
     have h4 : pre s e [41] = false := by
      rw [pre1 h2]
      simpa using fun h => h3 (by rw [h2, h])
     by_cases h5 : dotAt s e = true
     · rw [if_pos h5]
       by_cases h6 : (v || acc.isEmpty) = true
       · rw [if_pos h6]
         refine ⟨by omega, h4, h5, ?_⟩
         cases v
         · right; simpa using h6
         · left; rfl
       · rw [if_neg h6]
         refine ⟨by omega, h4, h5, ?_, ?_⟩
         · cases v
           · rfl
           · exact absurd rfl h6
         · intro e; rw [e] at h6; simp at h6
     · rw [if_neg h5]; exact ⟨by omega, h4, by simpa using h5⟩
theorem Aft.belowB {w w1 : World} {g B : Nat} {T : ByteArray} {r : Rs} (h : Aft w g T r) (hb : Below B w w1) (hg : g < B) : Aft w1 g T r := by
 cases r with
 | ok xe => exact ⟨⟨blkB h.1.out hb hg⟩, h.2⟩
 | error pc =>
   obtain ⟨j, R, hc⟩ := h
   exact ⟨j, ⟨blkB R.out hb hg⟩, hc⟩
def NextI (s : List UInt8) (v : Bool) (D : Nat) (acc : List DV) (r : Rs) : Rs → Prop
 | .error p => r = .error p
 | .ok (y, f) => Run s (.items v D f (acc ++ [y])) r
structure LJ (w0 wr : World) (g g4 g5 : Nat) (T : ByteArray) (vec : Bool) (D i : Nat) (r : Rs) (K : Int) (A : Option Addr) (c : Nat) (m : List LD) (acc : List DV) : Prop where
 its : Its wr.heap.size (g5 + 1) wr A c m acc
 upg : Upg g w0 wr
 b4 : Blk wr g4 [.int .i64 0, .int .i64 0, .bool false, .slice none 0 0, .string ⟨#[]⟩, .slice none 0 0, .slice none 0 0] 35
 b5 : Blk wr g5 [.int .i64 K, .int .i64 0, .bool false, .slice none 0 0, .string ⟨#[]⟩, .slice A m.length c, .slice none 0 0] 35
 st : (∃ j, i < j ∧ j ≤ T.size ∧ m.length ≤ j ∧ RB wr g T j 0 0 ∧ Run T.data.toList (.items vec D j acc) r) ∨ (∃ (j p c : Nat), r = .error (p, c) ∧ c ≠ 0 ∧ RB wr g T j p c)
set_option maxRecDepth 8000 in
set_option maxHeartbeats 2000000 in
theorem list_deep {w : World} {g i : Nat} {T : ByteArray} (R : RB w g T i 0 0) (D : Nat) (hD : 100 < D) (r : Rs) (hr : r = .error (i, 16)) :
 Calls Tryz.prog 23 #[.pointer (some ⟨g, 0, none⟩), .int .i64 (D : Int)] w fun x w' => ∃ v, x = .returned v ∧ Upg g w w' ∧ Aft w' g T r ∧ IsD w.heap.size w' r v := by
 have C := R.out.cells
 have hu := Upg.refl g w
 have Hr := As.mk hr
 have hDi : (100 : Int) < (D : Int) := by omega
 clear hr
 go_enter Tryz.func23, Tryz.ntmps23
 go_wp2_with (first
  | ((with_reducible refine g_dst 4 ?_); go_must (refine ev_alloc 4 rfl infoD (cs := [.int .i64 0, .int .i64 0, .bool false, .slice none 0 0, .string ⟨#[]⟩, .slice none 0 0, .slice none 0 0]) rfl ?_); intro g4 wn hb B4 hg4; have hs4 := Nat.le_trans hu.size hg4; have hne4 : g4 ≠ g := (fun h => by have := R.lt; omega); clear hg4; replace R := R.below hb; clear C; have C := R.out.cells; replace hu := hu.trans (Upg.of_below hb); clear hb)
  | (go_at_call 24; (with_reducible refine (fail_ok R (i : Int) 16).mono ?_); rintro e wn ⟨rfl, ho, R2⟩; have hq := Upg.of_only ho; clear C R; have R := R2; clear R2; have C := R.out.cells; replace hu := hu.trans hq; replace B4 := blk_upg B4 hq hne4; clear hq)
  | ((with_reducible refine g_store 4 ?_); go_must (refine ev_store rfl rfl B4 (news := [.int .i64 0, .int .i64 0, .bool false, .slice none 0 0, .string ⟨#[]⟩, .slice none 0 0, .slice none 0 0]) (by rfl) infoD (by simp) (by simp [Value.oneCell']) ?_); intro wn ho Bn; simp only [encD, zA, zB, zC, zD, zE, zF, zG, zH] at Bn; replace hu := hu.only_new ho hs4; have R2 : RB wn g T _ _ _ := ⟨R.out.only ho (Ne.symm hne4)⟩; clear C R; have R := R2; clear R2; have C := R.out.cells; replace B4 := Bn; clear Bn ho))
 refine bodyPost_ret (results_cell_row rfl _ _ g4 35 ([.int .i64 0, .int .i64 0, .bool false, .slice none 0 0, .string ⟨#[]⟩, .slice none 0 0, .slice none 0 0] : List Value).toArray (0, 0) _ rfl B4.h Tryz.underlying35 rfl (by kernel_rfl)) rfl ?_
 exact ⟨_, rfl, hu, by rw [Hr.out]; exact ⟨_, R, by decide⟩, ldZ, rfl, good_z _ _ _ (by decide) (by decide) _, fun b hb => (by rw [ldZ, foot_z] at hb; cases hb), fun x e h => by rw [Hr.out] at h; cases h⟩
end Go.Proofs.YtdapbegadhcpcaaGreatDoor
