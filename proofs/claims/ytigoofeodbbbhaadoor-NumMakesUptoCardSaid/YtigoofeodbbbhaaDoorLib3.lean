/- The rules for operations that make memory, within a region that draws its order. -/
import Derived.Deep.RegionHeld3
import Derived.Test.YtigoofeodbbbhaaDoorLib2
namespace Go.Proofs.YtigoofeodbbbhaaDoorL
open Go.RowKit
set_option linter.unusedVariables false
set_option linter.unusedSimpArgs false
theorem st {P : Program} {ops : Array Oper} {K : Act → World → Prop} {Q : Exit → Act → World → Prop} {E : Prop} {a : Act} {w w1 : World} {o : Oper} {v : Value}
    (hw : Region.wanted o (yielded ops a.tmps) = true) (hrun : (execOp a.eval o).run P w = .ok (.value v) w1) (h : K (a.put o.dst v) w1) :
    if Region.wanted o (yielded ops a.tmps) = true then Oper.wp P o a w K Q else E := by
  rw [if_pos hw]
  unfold Oper.wp
  rw [hrun]
  exact h
/-- is this the operation whose result goes to slot N? -/
theorem s_dst {P : Program} {ops : Array Oper} {K : Act → World → Prop} {Q : Exit → Act → World → Prop} {E : Prop} {a : Act} {w : World} (N : Tmp) {op : Op} {ty : TypeId} {ps : String} {af : Array Edge} {gd : Option (Nat × Bool)}
    (h : if Region.wanted { dst := some N, op, type := ty, pos := ps, after := af, guard := gd } (yielded ops a.tmps) = true then Oper.wp P { dst := some N, op, type := ty, pos := ps, after := af, guard := gd } a w K Q else E) :
    if Region.wanted { dst := some N, op, type := ty, pos := ps, after := af, guard := gd } (yielded ops a.tmps) = true then Oper.wp P { dst := some N, op, type := ty, pos := ps, after := af, guard := gd } a w K Q else E := h
theorem st_lit {P : Program} {ops : Array Oper} {K : Act → World → Prop} {Q : Exit → Act → World → Prop} {E : Prop} {a : Act} {w : World} (N : Tmp) {op : Op} {ty : TypeId} {ps : String} {af : Array Edge} {gd : Option (Nat × Bool)}
    (hw : Region.wanted { dst := some N, op, type := ty, pos := ps, after := af, guard := gd } (yielded ops a.tmps) = true) {cs : List Value} {t : TypeId} {v : Nat → Value}
    (hrun : (execOp a.eval { dst := some N, op, type := ty, pos := ps, after := af, guard := gd }).run P w = .ok (.value (v w.heap.size)) (w.alloc (.cells cs.toArray t)))
    (h : ∀ g w1, Below w.heap.size w w1 → Blk w1 g cs t → w.heap.size ≤ g → K (a.put (some N) (v g)) w1) :
    if Region.wanted { dst := some N, op, type := ty, pos := ps, after := af, guard := gd } (yielded ops a.tmps) = true then Oper.wp P { dst := some N, op, type := ty, pos := ps, after := af, guard := gd } a w K Q else E :=
  st hw hrun (h _ _ ((Below.refl _ _).alloc (Nat.le_refl _) _) ⟨heap_alloc_new w _⟩ (Nat.le_refl _))
section
variable {α : Type} {enc : α → List Value} {sz : Nat} {e : TypeId} {base : Nat} {w : World} {v : Value} {l : List α}
/-- append(dst, src...): dst the call's own; src reads as l2 -/
theorem st_append {P : Program} {ops : Array Oper} {K : Act → World → Prop} {Q : Exit → Act → World → Prop} {E : Prop} {a : Act} (N : Tmp) {s x : Operand} {t ty : TypeId} {ps : String} {af : Array Edge} {gd : Option (Nat × Bool)}
    (hw : Region.wanted { dst := some N, op := .call { callee := .builtin .append, args := #[s, x], argTypes := #[t, t] }, type := ty, pos := ps, after := af, guard := gd } (yielded ops a.tmps) = true)
    (ht : P.underlying t = some (.slice e)) {z : Value} {bytes : Nat} (hi : (P.info? e).map (fun i => (i.zero, i.size, i.bytes)) = some (some z, sz, bytes)) (hz : z.cells.size = sz) (hsz : 0 < sz)
    (hs : a.eval s = v) (f : Ow enc sz e base w v l) {A : Option Addr} {n c : Nat} (hx : a.eval x = .slice A n c) {l2 : List α} (hn : l2.length = n) (r : Rd enc sz w A l2) (hen : ∀ x, (enc x).length = sz) (h1 : ∀ x, ∀ u ∈ enc x, u.oneCell' = true)
    (hA : A = none → c = 0) (hb : (l.length + n) * bytes ≤ 140737488355328) (hm : l.length + n ≤ maxLen) (hbase : base ≤ w.heap.size)
    (h : ∀ v' w1, Ow enc sz e base w1 v' (l ++ l2) → w.grownBy w1 v.ownBlock → K (a.put (some N) v') w1) :
    if Region.wanted { dst := some N, op := .call { callee := .builtin .append, args := #[s, x], argTypes := #[t, t] }, type := ty, pos := ps, after := af, guard := gd } (yielded ops a.tmps) = true then Oper.wp P { dst := some N, op := .call { callee := .builtin .append, args := #[s, x], argTypes := #[t, t] }, type := ty, pos := ps, after := af, guard := gd } a w K Q else E := by
  subst hn
  cases hq : P.info? e with
  | none => rw [hq] at hi; cases hi
  | some i =>
    rw [hq] at hi
    simp only [Option.map_some, Option.some.injEq, Prod.mk.injEq] at hi
    obtain ⟨hz0, hz1, hz2⟩ := hi
    cases A with
    | none =>
      have hl2 : l2 = [] := by
        rcases l2 with _ | ⟨y, l3⟩
        · rfl
        · obtain ⟨b, off, e, _⟩ := r.at_ (by simp)
          cases e
      subst hl2
      obtain rfl := hA rfl
      have hrun := run_append_owned_none (P := P) (w := w) base t ty e i sz ht hq v l.length _ f.own
      refine st (v := v) (w1 := w) hw ?_ (h v w ?_ ⟨rfl, rfl, rfl, Nat.le_refl _, fun _ _ _ => rfl⟩)
      · simp [execOp, resolve, invoke, builtin, hs, hx, hrun, Result.andThen]
      · rw [List.append_nil]; exact f
    | some ad =>
      obtain ⟨b, off, spot⟩ := ad
      have hcell : ∀ j u, (l2.flatMap enc)[j]? = some u → w.cell? ((⟨b, off, spot⟩ : Addr).add j) = some u := by
        intro j u hj
        have hlen : (l2.flatMap enc).length = l2.length * sz := by
          clear r hx hj h hb hm
          induction l2 with
          | nil => simp
          | cons y l3 ih => rw [List.flatMap_cons, List.length_append, hen, ih, List.length_cons, Nat.add_mul]; omega
        have hj' : j < l2.length * sz := by rw [← hlen]; exact (List.getElem?_eq_some_iff.1 hj).1
        have hn0 : l2 ≠ [] := by intro e; rw [e] at hj'; simp at hj'
        obtain ⟨b', off', e, hh⟩ := r.at_ hn0
        simp only [Option.some.injEq, Addr.mk.injEq] at e
        obtain ⟨rfl, rfl, rfl⟩ := e
        have hdiv : j / sz < l2.length := (Nat.div_lt_iff_lt_mul hsz).2 hj'
        have hmod : j % sz < (enc l2[j / sz]).length := by rw [hen]; exact Nat.mod_lt _ hsz
        have hj2 := flat_at enc sz hen l2 (j / sz) _ (List.getElem?_eq_getElem hdiv) (j % sz) _ (List.getElem?_eq_getElem hmod)
        have hdm : j / sz * sz + j % sz = j := by rw [Nat.mul_comm]; exact Nat.div_add_mod j sz
        rw [hdm, hj] at hj2
        have h3 := hh (j / sz) _ (List.getElem?_eq_getElem hdiv) (j % sz) _ (List.getElem?_eq_getElem hmod)
        rw [Nat.add_assoc, hdm] at h3
        rw [Addr.add_lit, h3]
        exact hj2.symm
      have hlen : (l2.flatMap enc).length = l2.length * sz := by
        clear r hx h hb hm hcell
        induction l2 with
        | nil => simp
        | cons y l3 ih => rw [List.flatMap_cons, List.length_append, hen, ih, List.length_cons, Nat.add_mul]; omega
      obtain ⟨v', w', hr, h2, h3, _⟩ := run_append_own (P := P) w base t ty e i z sz bytes ht hq hz0 hz1 hz2 hz hsz v l.length _ f.own ⟨b, off, spot⟩ l2.length c (l2.flatMap enc) hlen hcell
        (fun u hu => by obtain ⟨y, _, hy⟩ := List.mem_flatMap.1 hu; exact h1 y u hy) hm hb hbase
      refine st (v := v') (w1 := w') hw ?_ (h v' w' ⟨?_⟩ h3)
      · simp [execOp, resolve, invoke, builtin, hs, hx, hr, Result.andThen]
      · rw [List.length_append, List.flatMap_append]; exact h2
end
/-- a slice that is nil has no room -/
theorem Ow.none {α : Type} {enc : α → List Value} {sz : Nat} {e : TypeId} {base : Nat} {w : World} {l : List α} {A : Option Addr} {n c : Nat} (f : Ow enc sz e base w (.slice A n c) l) : A = none → c = 0 := by
  rintro rfl
  rcases f.own.2 with ⟨h, _⟩ | ⟨g, cap, cur, h, _⟩
  · simp only [Value.slice.injEq] at h
    exact h.2.2
  · simp only [Value.slice.injEq] at h
    cases h.1
/-- what grows is no other block than the list's own -/
theorem Ow.grown {α : Type} {enc : α → List Value} {sz : Nat} {e : TypeId} {base B : Nat} {w w0 w1 : World} {v : Value} {l : List α} (f : Ow enc sz e base w v l) (h : Below B w0 w) (hg : w.grownBy w1 v.ownBlock) (hB : B ≤ base) (hw : B ≤ w.heap.size) : Below B w0 w1 :=
  h.grown hg hw (fun k hk => Nat.le_trans hB (f.own.lt k hk).1)
/-- another list, younger than the one that grows, stays -/
theorem Ow.apart {α : Type} {enc : α → List Value} {sz : Nat} {e : TypeId} {base base2 : Nat} {w w1 : World} {v v2 : Value} {l : List α} (f : Ow enc sz e base2 w v l) (hg : w.grownBy w1 v2.ownBlock) (hlt : ∀ k, v2.ownBlock = some k → k < base2) (hb : base ≤ base2) : Ow enc sz e base w1 v l := by
  refine Ow.lower ⟨f.own.kept hg ?_⟩ hb
  cases h : v.ownBlock with
  | none => exact .inl rfl
  | some k =>
    refine .inr (fun e => ?_)
    have h1 := (f.own.lt k h).1
    have h2 := hlt k e.symm
    omega
/-- an own list, its block told whole -/
theorem Ow.blk {α : Type} {enc : α → List Value} {f : α → Value} {e : TypeId} {base : Nat} {w : World} {v : Value} {l : List α} (h : Ow enc 1 e base w v l) (hf : ∀ x, enc x = [f x]) (hn : l ≠ []) :
    ∃ g c tl, v = .slice (some ⟨g, 0, Option.none⟩) l.length c ∧ base ≤ g ∧ l.length ≤ c ∧ Blk w g (l.map f ++ tl) e := by
  rcases h.own.2 with ⟨rfl, h0⟩ | ⟨g, cap, cur, rfl, hg, hh, h1, h2, h3, h4⟩
  · exact absurd (List.eq_nil_of_length_eq_zero h0) hn
  · refine ⟨g, cap, cur.toList.drop (l.length * 1), rfl, hg, h1, ⟨?_⟩⟩
    have hfl : l.flatMap enc = l.map f := by
      clear h h1 h4 hn
      induction l with
      | nil => rfl
      | cons y m ih => rw [List.flatMap_cons, ih, hf]; rfl
    rw [← hfl, ← h4, List.take_append_drop]
    exact hh
/-- a slice's length -/
def vLen : Value → Nat
  | .slice _ n _ => n
  | _ => 0
end Go.Proofs.YtigoofeodbbbhaaDoorL
