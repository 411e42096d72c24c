/- A part of the proof. -/
import Derived.ProofKit
import Derived.OpenShut
import Derived.Carry
import Derived.Deep.Slices
import Derived.SizedLaws
import Derived.Test.YtdapbegadhcpcaaGreatDoorMA
set_option linter.unusedVariables false
set_option linter.unusedSimpArgs false
namespace Go.Proofs.YtdapbegadhcpcaaGreatDoorL
open Go.RowKit Go.ChangeShapes Go.WideShapes Go.ChangeAt Go.Deep
variable {H : Type} {enc : TypeId × Value → H} {P : Program}
theorem trodAll_stays (hl : laidOutB P = true) {W W' : World} (hb : Below W.heap.size W W') : ∀ (ts : List TypeId) (vs : List Value) (ds : List (DataW H)) (ps : List MemPlace), (∀ t ∈ ts, P.readableRec t = true ∧ t < P.types.size) →
 DataW.TrodAll enc P W 0 (fun _ => true) true ts vs ds ps → DataW.TrodAll enc P W' 0 (fun b => decide (b < W.heap.size)) true ts vs ds ps
 | [], vs, ds, ps, _, h => by
   obtain ⟨rfl, rfl, rfl⟩ := trodAll_nil h
   exact trodAll_mk0
 | t :: ts, vs, ds, ps, ht, h => by
   obtain ⟨v, vs', d, ds', p, q, rfl, rfl, rfl, hd, hr⟩ := trodAll_cons h
   have hlt : ∀ x ∈ p, x.block < W.heap.size := by obtain ⟨m, hm⟩ := hd; exact DataW.trod_lt m _ _ _ hm
   exact trodAll_cons_mk (Below.trod hl (ht t (by simp)).1 (ht t (by simp)).2 hd hb hlt) (trodAll_stays hl hb ts vs' ds' q (fun u hu => ht u (by simp [hu])) hr)
theorem law_post {f : Func} {tb : TypeId} (hrt : f.resultTypes = #[tb]) (htb : P.underlying tb = some .bool) (hl : laidOutB P = true) (hp : ∀ t ∈ f.params.toList, P.readableRec t = true ∧ t < P.types.size)
 {s : ChangeSpec} (hv : s.vars = []) {W W' : World} {args : Array Value} {ds gs : List (DataW H)} {before : List MemPlace} (hW : DataW.Whole enc P f.params.toList s.vars false W args.toList ds gs before)
 (hs : s.fn H (ds ++ gs) = { results := [.lit (.bool true)], args := ds }) (bel : Below W.heap.size W W') :
 s.post enc P f false true false false W args (.bool true) W' := by
 have hW' := hW
 obtain ⟨p, q, hA, hV, rfl, hfz, hnd⟩ := hW
 rw [hv] at hV
 obtain ⟨rfl, rfl⟩ := trodVars_none hV
 refine ⟨ds, [], p ++ [], [], p, [], hW', ?_, ?_, ?_, bel.frame _, fun h => by cases h⟩
 · rw [hs, hrt]; exact trodAll_mk1 (shut_bool htb _)
 · rw [hs]; exact trodAll_stays hl bel _ _ _ _ hp hA
 · rw [hs, hv]; rfl
end Go.Proofs.YtdapbegadhcpcaaGreatDoorL
