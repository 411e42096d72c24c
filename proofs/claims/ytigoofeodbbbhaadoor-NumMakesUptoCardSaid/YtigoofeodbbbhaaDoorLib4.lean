/- Stores and new variables within a region that draws its order. -/
import Derived.Test.YtigoofeodbbbhaaDoorLib3
namespace Go.Proofs.YtigoofeodbbbhaaDoorL
open Go.RowKit
set_option linter.unusedVariables false
set_option linter.unusedSimpArgs false
theorem sts {P : Program} {ops : Array Oper} {K : Act → World → Prop} {Q : Exit → Act → World → Prop} {E : Prop} {a : Act} {w w1 : World} {o : Oper}
    (hw : Region.wanted o (yielded ops a.tmps) = true) (hrun : (execOp a.eval o).run P w = .ok .skip w1) (h : K (a.put o.dst undef) w1) :
    if Region.wanted o (yielded ops a.tmps) = true then Oper.wp P o a w K Q else E := by
  rw [if_pos hw]
  unfold Oper.wp
  rw [hrun]
  exact h
/-- is this the store through slot p? -/
theorem s_store {P : Program} {ops : Array Oper} {K : Act → World → Prop} {Q : Exit → Act → World → Prop} {E : Prop} {a : Act} {w : World} (p : Tmp) {t ty : TypeId} {y : Operand} {ps : String} {af : Array Edge} {gd : Option (Nat × Bool)}
    (h : if Region.wanted { dst := none, op := .store t (.tmp p) y, type := ty, pos := ps, after := af, guard := gd } (yielded ops a.tmps) = true then Oper.wp P { dst := none, op := .store t (.tmp p) y, type := ty, pos := ps, after := af, guard := gd } a w K Q else E) :
    if Region.wanted { dst := none, op := .store t (.tmp p) y, type := ty, pos := ps, after := af, guard := gd } (yielded ops a.tmps) = true then Oper.wp P { dst := none, op := .store t (.tmp p) y, type := ty, pos := ps, after := af, guard := gd } a w K Q else E := h
theorem st_store {P : Program} {ops : Array Oper} {K : Act → World → Prop} {Q : Exit → Act → World → Prop} {E : Prop} {a : Act} {w : World} {t ty : TypeId} {x y : Operand} {ps : String} {af : Array Edge} {gd : Option (Nat × Bool)}
    (hw : Region.wanted { dst := none, op := .store t x y, type := ty, pos := ps, after := af, guard := gd } (yielded ops a.tmps) = true) {g off : Nat} (hx : a.eval x = .pointer (some ⟨g, off, none⟩)) {cs : List Value} {t' : TypeId} (f : Blk w g cs t')
    {news : List Value} (hy : (a.eval y).cells = news.toArray) {z : Option Value} {b : Nat} (hi : (P.info? t).map (fun i => (i.zero, i.size, i.bytes)) = some (z, news.length, b)) (hfit : off + news.length ≤ cs.length) (h1 : ∀ v ∈ news, v.oneCell' = true)
    (h : ∀ w1, Only g w w1 → Blk w1 g (cs.take off ++ news ++ cs.drop (off + news.length)) t' → K a w1) :
    if Region.wanted { dst := none, op := .store t x y, type := ty, pos := ps, after := af, guard := gd } (yielded ops a.tmps) = true then Oper.wp P { dst := none, op := .store t x y, type := ty, pos := ps, after := af, guard := gd } a w K Q else E := by
  have hst := run_storeCells_at P g off t' news 0 cs.toArray w f.h (by simpa using hfit) h1
  simp only [Nat.add_zero] at hst
  refine sts (w1 := w.setRow g (cs.take off ++ news ++ cs.drop (off + news.length)).toArray) hw ?_ ?_
  · cases hq : P.info? t with
    | none => rw [hq] at hi; cases hi
    | some i =>
      rw [hq] at hi
      simp only [Option.map_some, Option.some.injEq, Prod.mk.injEq] at hi
      simp only [execOp, Instr.storeAt, hx, Instr.sureAddr, storeVar, hy, sizeOf, typeInfo]
      simp [hq, hi.2.1, hst, go_sem]
  · exact h _ (only_setRow w g _) ⟨setRow_heap w g cs.toArray _ t' _ f.h⟩
theorem st_alloc {P : Program} {ops : Array Oper} {K : Act → World → Prop} {Q : Exit → Act → World → Prop} {E : Prop} {a : Act} {w : World} (N : Tmp) {t ty : TypeId} {ps : String} {af : Array Edge} {gd : Option (Nat × Bool)}
    (hw : Region.wanted { dst := some N, op := .alloc t, type := ty, pos := ps, after := af, guard := gd } (yielded ops a.tmps) = true) {z : Value} {k b : Nat} (hi : (P.info? t).map (fun i => (i.zero, i.size, i.bytes)) = some (some z, k, b))
    {cs : List Value} (hz : z.cells = cs.toArray)
    (h : ∀ g w1, Below w.heap.size w w1 → Blk w1 g cs t → w.heap.size ≤ g → K (a.put (some N) (.pointer (some ⟨g, 0, none⟩))) w1) :
    if Region.wanted { dst := some N, op := .alloc t, type := ty, pos := ps, after := af, guard := gd } (yielded ops a.tmps) = true then Oper.wp P { dst := some N, op := .alloc t, type := ty, pos := ps, after := af, guard := gd } a w K Q else E := by
  refine st (v := .pointer (some ⟨w.heap.size, 0, none⟩)) (w1 := w.alloc (.cells cs.toArray t)) hw ?_ ?_
  · cases hq : P.info? t with
    | none => rw [hq] at hi; cases hi
    | some i =>
      rw [hq] at hi
      simp only [Option.map_some, Option.some.injEq, Prod.mk.injEq] at hi
      have hz' : (zeroValue t).run P w = .ok z w := by simp [zeroValue, typeInfo, hq, hi.1, go_sem]
      simp only [execOp, Instr.alloc, Sem.run_bind, hz', Result.andThen_ok, newVar, newRow, hz]
      rfl
  · exact h _ _ ((Below.refl _ _).alloc (Nat.le_refl _) _) ⟨heap_alloc_new w _⟩ (Nat.le_refl _)
/-- what follows, as a letter: so that a region's walk stops at its end -/
theorem wp_gen {P : Program} {c : Code} {Q : Exit → Act → World → Prop} {a : Act} {w : World} (h : ∀ Q', As (Q' = Q) → c.wp P Q' a w) : c.wp P Q a w := h Q ⟨rfl⟩
theorem wp_gen2 {P : Program} {c : Code} {Q : Exit → Act → World → Prop} {a : Act} {w : World} (h : ∀ R, As (R = Q) → c.wp P (NoPanic R) a w) : c.wp P Q a w := Code.wp_mono NoPanic.imp (h Q ⟨rfl⟩)
theorem only_setCell (w : World) (g i : Nat) (v : Value) : Only g w (w.setCell ⟨g, i, none⟩ v) := by
  refine ⟨?_, ?_, ?_, ?_, fun k hk => ?_⟩ <;> first | rfl | (simp [World.setCell]) | skip
  all_goals simp [World.setCell, Array.getElem?_modify, Ne.symm hk]
theorem Only.trans {g : Nat} {w w1 w2 : World} (h : Only g w w1) (k : Only g w1 w2) : Only g w w2 := ⟨k.os.trans h.os, k.tape.trans h.tape, k.output.trans h.output, k.size.trans h.size, fun j hj => (k.block j hj).trans (h.block j hj)⟩
/-- two cells stored: what the region's walk writes out -/
theorem set2_gen {w : World} {g : Nat} {a b : Value} {t : TypeId} (B : Blk w g [a, b] t) (v u : Value) : Only g w ((w.setCell ⟨g, 0, none⟩ v).setCell ⟨g, 1, none⟩ u) ∧ Blk ((w.setCell ⟨g, 0, none⟩ v).setCell ⟨g, 1, none⟩ u) g [v, u] t :=
  ⟨(only_setCell w g 0 v).trans (only_setCell _ g 1 u), (B.set 0 v).set 1 u⟩
theorem Only.to_below {g B : Nat} {w w1 : World} (h : Only g w w1) (hB : B ≤ g) : Below B w w1 := h.below hB
end Go.Proofs.YtigoofeodbbbhaaDoorL
