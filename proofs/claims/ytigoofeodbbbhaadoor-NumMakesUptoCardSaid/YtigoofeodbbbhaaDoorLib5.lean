/- Several results, some told by variables. -/
import Derived.Test.YtigoofeodbbbhaaDoorLib4
import Derived.OwnWalk
namespace Go.Proofs.YtigoofeodbbbhaaDoorL
open Go.RowKit
set_option linter.unusedVariables false
set_option linter.unusedSimpArgs false
variable {P : Program}
theorem results_ct {fn : Func} {p u : Tmp} {ty : TypeId} (h : fn.results = #[.cell p ty, .tmp u]) (tmps : Array Value) (w : World) (g : Nat) (t : TypeId) (cs : Array Value) (fr : Nat × Nat) (d : TypeDesc)
    (hp : tmps.getD p undef = .pointer (some ⟨g, 0, none⟩)) (hg : w.heap[g]? = some (.cells cs t fr))
    (hu : P.underlying ty = some d) (hd : (match d with | .struct _ | .array _ _ => true | _ => false) = true) (hi : (P.info? ty).map (·.size) = some cs.size) :
    (results fn tmps).run P w = .ok (.tuple #[.agg cs, tmps.getD u undef]) w := by
  have hp' : tmps[p]?.getD undef = .pointer (some ⟨g, 0, none⟩) := by simpa using hp
  simp [results, h, hp', asAddr, run_loadVar_row w g t ty cs fr d hg hu hd hi]
theorem results_cct {fn : Func} {p p2 u : Tmp} {ty : TypeId} (h : fn.results = #[.cell p ty, .cell p2 ty, .tmp u]) (tmps : Array Value) (w : World) (g g2 : Nat) (t t2 : TypeId) (cs cs2 : Array Value) (fr fr2 : Nat × Nat) (d : TypeDesc)
    (hp : tmps.getD p undef = .pointer (some ⟨g, 0, none⟩)) (hp2 : tmps.getD p2 undef = .pointer (some ⟨g2, 0, none⟩)) (hg : w.heap[g]? = some (.cells cs t fr)) (hg2 : w.heap[g2]? = some (.cells cs2 t2 fr2))
    (hu : P.underlying ty = some d) (hd : (match d with | .struct _ | .array _ _ => true | _ => false) = true) (hi : (P.info? ty).map (·.size) = some cs.size) (hi2 : (P.info? ty).map (·.size) = some cs2.size) :
    (results fn tmps).run P w = .ok (.tuple #[.agg cs, .agg cs2, tmps.getD u undef]) w := by
  have hp' : tmps[p]?.getD undef = .pointer (some ⟨g, 0, none⟩) := by simpa using hp
  have hp2' : tmps[p2]?.getD undef = .pointer (some ⟨g2, 0, none⟩) := by simpa using hp2
  simp [results, h, hp', hp2', asAddr, run_loadVar_row w g t ty cs fr d hg hu hd hi, run_loadVar_row w g2 t2 ty cs2 fr2 d hg2 hu hd hi2]
/-- two variables stored, one behind the other -/
theorem set4_gen {w V : World} {B0 g k : Nat} {a b c d a' b' c' d' : Value} {t : TypeId} (hb : Below B0 w V) (hg : B0 ≤ g) (hk : B0 ≤ k) (B : Blk V g [a', b'] t) (C : Blk V k [c', d'] t) (hne : g ≠ k) :
    Below B0 w ((((V.setCell ⟨g, 0, none⟩ a).setCell ⟨g, 1, none⟩ b).setCell ⟨k, 0, none⟩ c).setCell ⟨k, 1, none⟩ d) ∧ Blk ((((V.setCell ⟨g, 0, none⟩ a).setCell ⟨g, 1, none⟩ b).setCell ⟨k, 0, none⟩ c).setCell ⟨k, 1, none⟩ d) g [a, b] t ∧ Blk ((((V.setCell ⟨g, 0, none⟩ a).setCell ⟨g, 1, none⟩ b).setCell ⟨k, 0, none⟩ c).setCell ⟨k, 1, none⟩ d) k [c, d] t ∧
    (∀ j, j ≠ g → j ≠ k → ((((V.setCell ⟨g, 0, none⟩ a).setCell ⟨g, 1, none⟩ b).setCell ⟨k, 0, none⟩ c).setCell ⟨k, 1, none⟩ d).heap[j]? = V.heap[j]?) ∧ ((((V.setCell ⟨g, 0, none⟩ a).setCell ⟨g, 1, none⟩ b).setCell ⟨k, 0, none⟩ c).setCell ⟨k, 1, none⟩ d).heap.size = V.heap.size := by
  have h1 := set2_gen B a b
  have C1 := C.only h1.1 (Ne.symm hne)
  have h2 := set2_gen C1 c d
  exact ⟨(hb.trans (h1.1.below hg)).trans (h2.1.below hk), h1.2.only h2.1 hne, h2.2, fun j h3 h4 => (h2.1.block j h4).trans (h1.1.block j h3), h2.1.size.trans h1.1.size⟩
/-- an own list stays where other blocks alone have changed -/
theorem ow_others {α : Type} {enc : α → List Value} {sz : Nat} {e : TypeId} {base base2 g k : Nat} {w w1 : World} {v : Value} {l : List α} (f : Ow enc sz e base2 w v l) (h : ∀ j, j ≠ g → j ≠ k → w1.heap[j]? = w.heap[j]?) (hg : g < base2) (hk : k < base2) (hb : base ≤ base2) : Ow enc sz e base w1 v l := by
  obtain ⟨h1, h2⟩ := f.own
  refine Ow.lower ⟨h1, ?_⟩ hb
  rcases h2 with h2 | ⟨q, cap, cur, hv, hq, hh, r⟩
  · exact .inl h2
  · exact .inr ⟨q, cap, cur, hv, hq, (h q (by omega) (by omega)).trans hh, r⟩
end Go.Proofs.YtigoofeodbbbhaaDoorL
