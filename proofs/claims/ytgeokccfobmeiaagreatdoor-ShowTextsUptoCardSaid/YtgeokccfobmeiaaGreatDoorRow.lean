import Derived.ProofKit
import Derived.OpenShut
import Derived.Carry
import Derived.Deep.Slices
import Derived.SizedLaws
import Derived.Test.YtgeokccfobmeiaaGreatDoorMA
/- What every law's row asks behind the walk: the answer true, and arguments that read as they did. -/
namespace Go.Proofs.YtgeokccfobmeiaaGreatDoorL
set_option linter.unusedVariables false
set_option linter.unusedSimpArgs false
open Go.RowKit Go.ChangeShapes Go.WideShapes Go.ChangeAt Go.Deep
variable {H : Type} {enc : TypeId × Value → H} {P : Program}
theorem trodAll_stays (hl : laidOutB P = true) {W W' : World} (hb : Below W.heap.size W W') : ∀ (ts : List TypeId) (vs : List Value) (ds : List (DataW H)) (ps : List MemPlace), (∀ t ∈ ts, P.readableRec t = true ∧ t < P.types.size) →
    DataW.TrodAll enc P W 0 (fun _ => true) true ts vs ds ps → DataW.TrodAll enc P W' 0 (fun b => decide (b < W.heap.size)) true ts vs ds ps
  | [], vs, ds, ps, _, h => by
    obtain ⟨rfl, rfl, rfl⟩ := trodAll_nil h
    exact trodAll_mk0
  | t :: ts, vs, ds, ps, ht, h => by
    obtain ⟨v, vs', d, ds', p, q, rfl, rfl, rfl, hd, hr⟩ := trodAll_cons h
    have hlt : ∀ x ∈ p, x.block < W.heap.size := by obtain ⟨m, hm⟩ := hd; exact DataW.trod_lt m _ _ _ hm
    exact trodAll_cons_mk (Below.trod hl (ht t (by simp)).1 (ht t (by simp)).2 hd hb hlt) (trodAll_stays hl hb ts vs' ds' q (fun u hu => ht u (by simp [hu])) hr)
theorem law_post {f : Func} {tb : TypeId} (hrt : f.resultTypes = #[tb]) (htb : P.underlying tb = some .bool) (hl : laidOutB P = true) (hp : ∀ t ∈ f.params.toList, P.readableRec t = true ∧ t < P.types.size)
    {s : ChangeSpec} (hv : s.vars = []) {W W' : World} {args : Array Value} {ds gs : List (DataW H)} {before : List MemPlace} (hW : DataW.Whole enc P f.params.toList s.vars false W args.toList ds gs before)
    (hs : s.fn H (ds ++ gs) = { results := [.lit (.bool true)], args := ds }) (bel : Below W.heap.size W W') :
    s.post enc P f false true false false W args (.bool true) W' := by
  have hW' := hW
  obtain ⟨p, q, hA, hV, rfl, hfz, hnd⟩ := hW
  rw [hv] at hV
  obtain ⟨rfl, rfl⟩ := trodVars_none hV
  refine ⟨ds, [], p ++ [], [], p, [], hW', ?_, ?_, ?_, bel.frame _, fun h => by cases h⟩
  · rw [hs, hrt]; exact trodAll_mk1 (shut_bool htb _)
  · rw [hs]; exact trodAll_stays hl bel _ _ _ _ hp hA
  · rw [hs, hv]; rfl
/-- a field of a struct that is told in cells -/
theorem field_at {w : World} {base : Nat} {spare : Nat → Bool} {held : Bool} {fuel : Nat} {t : TypeId} {fs : Array Field} {cs : List Value} {x : DataW H × List MemPlace} (hs : P.underlying t = some (.struct fs)) (h : DataW.trod enc P w base spare held fuel t cs = some x)
    (i : Nat) {f : Field} (hf : fs[i]? = some f) {o k : Nat} (ho : f.offset = o) (hc : P.cellsOf f.type = k) : ∃ n y, DataW.trod enc P w base spare held n f.type ((cs.drop o).take k) = some y := by
  obtain ⟨xs, n, _, _, _, hlen, hx⟩ := DataW.trod_struct hs h
  have hi : i < xs.length := by rw [hlen]; exact (Array.getElem?_eq_some_iff.1 hf).1
  have := hx i f hf
  rw [ho, hc, List.getElem?_eq_getElem hi] at this
  exact ⟨n, _, this⟩
theorem struct_len {w : World} {base : Nat} {spare : Nat → Bool} {held : Bool} {fuel : Nat} {t : TypeId} {fs : Array Field} {cs : List Value} {x : DataW H × List MemPlace} (hs : P.underlying t = some (.struct fs)) (h : DataW.trod enc P w base spare held fuel t cs = some x) : cs.length = P.cellsOf t := by
  obtain ⟨_, _, _, _, hl, _⟩ := DataW.trod_struct hs h
  exact hl
/-- the elements of a slice: each read in its own cells -/
theorem elems_at {w : World} {spare : Nat → Bool} {held : Bool} {t e : TypeId} {A : Option Addr} {len cap : Nat} {d : DataW H} {ps : List MemPlace} (ht : P.underlying t = some (.slice e))
    (h : DataW.Trod enc P w 0 spare held t (.slice A len cap) d ps) : len ≤ cap ∧ cap ≤ maxLen ∧ (A = none → cap = 0) ∧ (0 < len → ∃ a, A = some a ∧ ∀ i, i < len → ∃ cs n y, w.cells? 0 (a.add (i * P.cellsOf e)) (P.cellsOf e) = some cs ∧ DataW.trod enc P w 0 spare held n e cs = some y) := by
  obtain ⟨fuel, hf⟩ := h
  rcases open_slice ht hf with ⟨hcs, _⟩ | ⟨a, l, c, m, n, D, Pl, hcs, _, hl, hm, hmm, _, hx⟩
  · simp [Value.cells] at hcs
    obtain ⟨rfl, rfl, rfl⟩ := hcs
    exact ⟨Nat.le_refl _, by simp [maxLen], fun _ => rfl, fun h => absurd h (Nat.lt_irrefl 0)⟩
  · simp [Value.cells] at hcs
    obtain ⟨rfl, rfl, rfl⟩ := hcs
    refine ⟨hl, hm, (fun h => by cases h), fun _ => ⟨a, rfl, fun i hi => ?_⟩⟩
    obtain ⟨cs', h1, h2⟩ := hx i (by rw [hmm]; split <;> omega)
    exact ⟨cs', n, _, h1, h2⟩
theorem rd_of_elems {α : Type} [Inhabited α] {en : α → List Value} {sz : Nat} {w : World} {spare : Nat → Bool} {held : Bool} {t e : TypeId} {A : Option Addr} {len cap : Nat} {d : DataW H} {ps : List MemPlace} (ht : P.underlying t = some (.slice e))
    (hC : P.cellsOf e = sz) (hsz : 0 < sz) (dec : ∀ n cs y, DataW.trod enc P w 0 spare held n e cs = some y → ∃ x, cs = en x) (h : DataW.Trod enc P w 0 spare held t (.slice A len cap) d ps) :
    ∃ l : List α, l.length = len ∧ Rd en sz w A l := by
  obtain ⟨_, _, _, hel⟩ := elems_at ht h
  by_cases h0 : 0 < len
  · obtain ⟨a, rfl, ha⟩ := hel h0
    obtain ⟨f, hf⟩ := choose_lt (α := α) (p := fun i x => w.cells? 0 (a.add (i * P.cellsOf e)) (P.cellsOf e) = some (en x)) (fun i hi => by
      obtain ⟨cs, n, y, h1, h2⟩ := ha i hi
      obtain ⟨x, rfl⟩ := dec n cs y h2
      exact ⟨x, h1⟩)
    obtain ⟨b, off, spot⟩ := a
    have hsp : spot = none := by
      obtain ⟨_, hlen, hc⟩ := World.cells?_some (hf 0 h0)
      have := hc 0 (by rw [hC]; exact hsz)
      rw [List.getElem?_eq_getElem (by rw [hlen, hC]; exact hsz)] at this
      simpa [Addr.add] using World.cell?_spot this
    subst hsp
    refine ⟨(List.range len).map f, by simp, ⟨fun _ => ⟨b, off, rfl, fun i x hx j v hv => ?_⟩⟩⟩
    rw [List.getElem?_map] at hx
    have hi : i < len := by
      rcases Nat.lt_or_ge i len with hlt | hge
      · exact hlt
      · rw [List.getElem?_eq_none (by simpa using hge)] at hx; simp at hx
    rw [List.getElem?_range hi] at hx
    simp only [Option.map_some, Option.some.injEq] at hx
    subst hx
    obtain ⟨_, hlen, hc⟩ := World.cells?_some (hf i hi)
    have hj : j < (en (f i)).length := (List.getElem?_eq_some_iff.1 hv).1
    have := hc j (by omega)
    rw [hv, hC, Addr.add_lit, Addr.add_lit] at this
    exact this
  · have hl : len = 0 := by omega
    subst hl
    exact ⟨[], rfl, Rd.nil _ _ _ _⟩
/-- a slice that is handed in takes at most 2^47 - 4096 bytes -/
theorem slice_room {w : World} {t e b : TypeId} {A : Option Addr} {len cap : Nat} {d : DataW H} {ps : List MemPlace} {ts : List TypeId} {ds : List (DataW H)} (ht : P.underlying t = some (.slice e)) (hb : P.bytesOf e = b)
    (h : DataW.Trod enc P w 0 (fun _ => true) true t (.slice A len cap) d ps) (hsz : (DataW.weightsEach P (t :: ts) (d :: ds)).all (· ≤ reachBytes) = true) : len * b ≤ 140737488351232 := by
  obtain ⟨fuel, hf⟩ := h
  rcases open_slice ht hf with ⟨hcs, _⟩ | ⟨a, l, c, m, n, D, Pl, hcs, _, hl, hm, hmm, hx, _⟩
  · simp [Value.cells] at hcs
    obtain ⟨rfl, rfl, rfl⟩ := hcs
    omega
  · simp [Value.cells] at hcs
    obtain ⟨rfl, rfl, rfl⟩ := hcs
    simp only [Prod.mk.injEq] at hx
    have := sized_slice hsz (j := 0) (t := t) rfl (by rw [hx.1]; rfl) ht
    rw [List.length_map, List.length_range, hb] at this
    exact Nat.le_trans (Nat.mul_le_mul_right _ (Nat.le_add_right _ _)) this
end Go.Proofs.YtgeokccfobmeiaaGreatDoorL
