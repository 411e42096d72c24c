/- A part of the proof. -/
import Derived.WalkKit
import Derived.Below
import Derived.Deep.DeepMust
import Derived.Laws.AppendOwn
import Derived.Laws.MakeOwn
import Derived.Laws.AppendOwnNone
import Derived.OwnWalk
import Derived.Laws.OwnMore
import Derived.Test.YtdapbegadhcpcaaGreatDoorProg
import Derived.Outline
import Derived.RowKit2
import Derived.Deep.RegionHeld3
set_option linter.unusedVariables false
set_option linter.unusedSimpArgs false
namespace Go.Proofs.YtdapbegadhcpcaaGreatDoorL
open Go.RowKit
theorem zA {α : Type} (l : List α) : List.take 0 l = [] := List.take_zero
theorem zB {α : Type} (l : List α) : [] ++ l = l := List.nil_append l
theorem zC {α : Type} (x : α) (l : List α) : (x :: l).length = l.length + 1 := List.length_cons
theorem zD {α : Type} : ([] : List α).length = 0 := List.length_nil
theorem zE {α : Type} (x : α) (l : List α) (i : Nat) : (x :: l).drop (i + 1) = l.drop i := List.drop_succ_cons
theorem zF {α : Type} (l : List α) : l.drop 0 = l := List.drop_zero
theorem zG {α : Type} (l : List α) : l ++ [] = l := List.append_nil l
theorem zH {α : Type} (x : α) (l m : List α) : (x :: l) ++ m = x :: (l ++ m) := List.cons_append
theorem zI {α : Type} (x : α) (l : List α) (i : Nat) : (x :: l).take (i + 1) = x :: l.take i := List.take_succ_cons
structure As (p : Prop) : Prop where
 out : p
structure Blk (w : World) (g : Nat) (cs : List Value) (t : TypeId) : Prop where
 h : w.heap[g]? = some (.cells cs.toArray t (0, 0))
theorem Blk.lt {w : World} {g : Nat} {cs : List Value} {t : TypeId} (f : Blk w g cs t) : g < w.heap.size := (Array.getElem?_eq_some_iff.1 f.h).1
theorem Blk.below {w w1 : World} {g : Nat} {cs : List Value} {t : TypeId} (f : Blk w g cs t) (hb : Below w.heap.size w w1) : Blk w1 g cs t := ⟨(hb.block g f.lt).trans f.h⟩
theorem Blk.cells {w : World} {g : Nat} {cs : List Value} {t : TypeId} (f : Blk w g cs t) : ∀ i, w.cell? ⟨g, i, none⟩ = cs[i]? := fun i => by
 simp [World.cell?, f.h]
theorem Blk.free {w : World} {g : Nat} {cs : List Value} {t : TypeId} (f : Blk w g cs t) : ∀ i, w.frozen? ⟨g, i, none⟩ = false := fun i => by
 simp [World.frozen?, f.h]
theorem bthen {w W w1 : World} (h : Below w.heap.size w W) (k : Below W.heap.size W w1) : Below w.heap.size w w1 := h.trans (k.mono h.size)
theorem ev {P : Program} {ops : Array Oper} {Q : Exit → Act → World → Prop} {a : Act} {w w1 : World} {rest : List Oper} {o : Oper} {v : Value}
 (hw : Region.wanted o (yielded ops a.tmps) = true) (hrun : (execOp a.eval o).run P w = .ok (.value v) w1) (h : wpList P ops Q rest (a.put o.dst v) w1) :
 wpList P ops Q (o :: rest) a w := by
 unfold wpList
 rw [if_pos hw]
 refine .inl ?_
 unfold Oper.wp
 rw [hrun]
 exact h
theorem ev_box {P : Program} {ops : Array Oper} {Q : Exit → Act → World → Prop} {a : Act} {w : World} {rest : List Oper} (N : Tmp) {m : Operand} {t ty : TypeId} {ps : String} {af : Array Edge} {gd : Option (Nat × Bool)}
 (hw : Region.wanted { dst := some N, op := .box t m, type := ty, pos := ps, after := af, guard := gd } (yielded ops a.tmps) = true) {cs : List Value} (hx : (a.eval m).cells = cs.toArray)
 (h : ∀ g w1, Below w.heap.size w w1 → Blk w1 g cs t → w.heap.size ≤ g → wpList P ops Q rest (a.put (some N) (.pointer (some ⟨g, 0, none⟩))) w1) :
 wpList P ops Q ({ dst := some N, op := .box t m, type := ty, pos := ps, after := af, guard := gd } :: rest) a w := by
 refine ev (v := .pointer (some ⟨w.heap.size, 0, none⟩)) (w1 := w.alloc (.cells cs.toArray t)) hw ?_ ?_
 · simp only [execOp, Instr.box, newVar, newRow, hx]
   rfl
 · exact h _ _ ((Below.refl _ _).alloc (Nat.le_refl _) _) ⟨heap_alloc_new w _⟩ (Nat.le_refl _)
theorem evs {P : Program} {ops : Array Oper} {Q : Exit → Act → World → Prop} {a : Act} {w w1 : World} {rest : List Oper} {o : Oper}
 (hw : Region.wanted o (yielded ops a.tmps) = true) (hrun : (execOp a.eval o).run P w = .ok .skip w1) (h : wpList P ops Q rest (a.put o.dst undef) w1) :
 wpList P ops Q (o :: rest) a w := by
 unfold wpList
 rw [if_pos hw]
 refine .inl ?_
 unfold Oper.wp
 rw [hrun]
 exact h
structure Only (g : Nat) (w w1 : World) : Prop where
 os : w1.os = w.os
 tape : w1.tape = w.tape
 output : w1.output = w.output
 size : w1.heap.size = w.heap.size
 block : ∀ k, k ≠ g → w1.heap[k]? = w.heap[k]?
theorem Only.below {g B : Nat} {w w1 : World} (h : Only g w w1) (hB : B ≤ g) : Below B w w1 :=
 ⟨h.os, h.tape, h.output, Nat.le_of_eq h.size.symm, fun k hk => h.block k (by omega)⟩
theorem Blk.only {w w1 : World} {g k : Nat} {cs : List Value} {t : TypeId} (f : Blk w k cs t) (h : Only g w w1) (hne : k ≠ g) : Blk w1 k cs t := ⟨(h.block k hne).trans f.h⟩
theorem only_setRow (w : World) (g : Nat) (cs : Array Value) : Only g w (w.setRow g cs) :=
 ⟨rfl, rfl, rfl, by simp [World.setRow], fun k hk => setRow_other w g k _ hk⟩
theorem ev_alloc {P : Program} {ops : Array Oper} {Q : Exit → Act → World → Prop} {a : Act} {w : World} {rest : List Oper} (N : Tmp) {t ty : TypeId} {ps : String} {af : Array Edge} {gd : Option (Nat × Bool)}
 (hw : Region.wanted { dst := some N, op := .alloc t, type := ty, pos := ps, after := af, guard := gd } (yielded ops a.tmps) = true) {z : Value} {k b : Nat} (hi : (P.info? t).map (fun i => (i.zero, i.size, i.bytes)) = some (some z, k, b))
 {cs : List Value} (hz : z.cells = cs.toArray)
 (h : ∀ g w1, Below w.heap.size w w1 → Blk w1 g cs t → w.heap.size ≤ g → wpList P ops Q rest (a.put (some N) (.pointer (some ⟨g, 0, none⟩))) w1) :
 wpList P ops Q ({ dst := some N, op := .alloc t, type := ty, pos := ps, after := af, guard := gd } :: rest) a w := by
 refine ev (v := .pointer (some ⟨w.heap.size, 0, none⟩)) (w1 := w.alloc (.cells cs.toArray t)) hw ?_ ?_
 · cases hq : P.info? t with
   | none => rw [hq] at hi; cases hi
   | some i =>
     rw [hq] at hi
     simp only [Option.map_some, Option.some.injEq, Prod.mk.injEq] at hi
     have hz' : (zeroValue t).run P w = .ok z w := by simp [zeroValue, typeInfo, hq, hi.1, go_sem]
     simp only [execOp, Instr.alloc, Sem.run_bind, hz', Result.andThen_ok, newVar, newRow, hz]
     rfl
 · exact h _ _ ((Below.refl _ _).alloc (Nat.le_refl _) _) ⟨heap_alloc_new w _⟩ (Nat.le_refl _)
theorem ev_store {P : Program} {ops : Array Oper} {Q : Exit → Act → World → Prop} {a : Act} {w : World} {rest : List Oper} {t ty : TypeId} {x y : Operand} {ps : String} {af : Array Edge} {gd : Option (Nat × Bool)}
 (hw : Region.wanted { dst := none, op := .store t x y, type := ty, pos := ps, after := af, guard := gd } (yielded ops a.tmps) = true) {g off : Nat} (hx : a.eval x = .pointer (some ⟨g, off, none⟩)) {cs : List Value} {t' : TypeId} (f : Blk w g cs t')
 {news : List Value} (hy : (a.eval y).cells = news.toArray) {z : Option Value} {b : Nat} (hi : (P.info? t).map (fun i => (i.zero, i.size, i.bytes)) = some (z, news.length, b)) (hfit : off + news.length ≤ cs.length) (h1 : ∀ v ∈ news, v.oneCell' = true)
 (h : ∀ w1, Only g w w1 → Blk w1 g (cs.take off ++ news ++ cs.drop (off + news.length)) t' → wpList P ops Q rest a w1) :
 wpList P ops Q ({ dst := none, op := .store t x y, type := ty, pos := ps, after := af, guard := gd } :: rest) a w := by
 have hst := run_storeCells_at P g off t' news 0 cs.toArray w f.h (by simpa using hfit) h1
 simp only [Nat.add_zero] at hst
 refine evs (w1 := w.setRow g (cs.take off ++ news ++ cs.drop (off + news.length)).toArray) hw ?_ ?_
 · cases hq : P.info? t with
   | none => rw [hq] at hi; cases hi
   | some i =>
     rw [hq] at hi
     simp only [Option.map_some, Option.some.injEq, Prod.mk.injEq] at hi
     simp only [execOp, Instr.storeAt, hx, Instr.sureAddr, storeVar, hy, sizeOf, typeInfo]
     simp [hq, hi.2.1, hst, go_sem]
 · exact h _ (only_setRow w g _) ⟨setRow_heap w g cs.toArray _ t' _ f.h⟩
theorem g_store {P : Program} {ops : Array Oper} {Q : Exit → Act → World → Prop} {a : Act} {w : World} {rest : List Oper} (p : Tmp) {t ty : TypeId} {y : Operand} {ps : String} {af : Array Edge} {gd : Option (Nat × Bool)}
 (h : wpList P ops Q ({ dst := none, op := .store t (.tmp p) y, type := ty, pos := ps, after := af, guard := gd } :: rest) a w) :
 wpList P ops Q ({ dst := none, op := .store t (.tmp p) y, type := ty, pos := ps, after := af, guard := gd } :: rest) a w := h
structure Rd {α : Type} (enc : α → List Value) (sz : Nat) (w : World) (A : Option Addr) (l : List α) : Prop where
 at_ : l ≠ [] → ∃ b off, A = some ⟨b, off, none⟩ ∧ ∀ i x, l[i]? = some x → ∀ j v, (enc x)[j]? = some v → w.cell? ⟨b, off + i * sz + j, none⟩ = some v
theorem Rd.below {α : Type} {enc : α → List Value} {sz : Nat} {w w1 : World} {A : Option Addr} {l : List α} (f : Rd enc sz w A l) (hb : Below w.heap.size w w1) : Rd enc sz w1 A l :=
 ⟨fun hn => let ⟨b, off, e, h⟩ := f.at_ hn; ⟨b, off, e, fun i x hx j v hv => (hb.cell (World.block_lt_of_cell? w _ (h i x hx j v hv))).trans (h i x hx j v hv)⟩⟩
theorem Rd.get {α : Type} {enc : α → List Value} {sz : Nat} {w : World} {A : Option Addr} {l : List α} (f : Rd enc sz w A l) : l ≠ [] → ∃ b off, A = some ⟨b, off, none⟩ := fun hn =>
 let ⟨b, off, e, _⟩ := f.at_ hn; ⟨b, off, e⟩
theorem Rd.cell {α : Type} {enc : α → List Value} {sz : Nat} {w : World} {b off : Nat} {l : List α} (f : Rd enc sz w (some ⟨b, off, none⟩) l) (i : Nat) (hi : i < l.length) : ∀ j v, (enc l[i])[j]? = some v → w.cell? ⟨b, off + i * sz + j, none⟩ = some v := by
 obtain ⟨b', off', e, h⟩ := f.at_ (by intro hn; rw [hn] at hi; simp at hi)
 simp only [Option.some.injEq, Addr.mk.injEq, and_true] at e
 obtain ⟨rfl, rfl⟩ := e
 exact h i _ (List.getElem?_eq_getElem hi)
theorem flat_at {α : Type} (enc : α → List Value) (sz : Nat) (hs : ∀ x, (enc x).length = sz) : ∀ (l : List α) (i : Nat) (x : α), l[i]? = some x → ∀ j v, (enc x)[j]? = some v → (l.flatMap enc)[i * sz + j]? = some v
 | [], i, x, h, _, _, _ => by simp at h
 | y :: l, 0, x, h, j, v, hv => by
   simp only [List.getElem?_cons_zero, Option.some.injEq] at h
   subst h
   have hj : j < (enc y).length := (List.getElem?_eq_some_iff.1 hv).1
   rw [Nat.zero_mul, Nat.zero_add, List.flatMap_cons, List.getElem?_append_left hj]
   exact hv
 | y :: l, i + 1, x, h, j, v, hv => by
   rw [List.getElem?_cons_succ] at h
   have e : (i + 1) * sz + j - (enc y).length = i * sz + j := by rw [hs, Nat.add_mul]; omega
   rw [List.flatMap_cons, List.getElem?_append_right (by rw [hs, Nat.add_mul]; omega), e]
   exact flat_at enc sz hs l i x h j v hv
theorem Blk.rd {α : Type} {enc : α → List Value} {sz : Nat} {w : World} {g : Nat} {cs : List Value} {t : TypeId} {l : List α} (f : Blk w g cs t) (hs : ∀ x, (enc x).length = sz) (h : cs = l.flatMap enc) : Rd enc sz w (some ⟨g, 0, none⟩) l :=
 ⟨fun _ => ⟨g, 0, rfl, fun i x hx j v hv => by
   rw [f.cells, h, Nat.zero_add]
   exact flat_at enc sz hs l i x hx j v hv⟩⟩
theorem Rd.nil {α : Type} (enc : α → List Value) (sz : Nat) (w : World) (A : Option Addr) : Rd enc sz w A [] := ⟨fun h => absurd rfl h⟩
theorem ev_lit {P : Program} {ops : Array Oper} {Q : Exit → Act → World → Prop} {a : Act} {w : World} {rest : List Oper} (N : Tmp) {op : Op} {ty : TypeId} {ps : String} {af : Array Edge} {gd : Option (Nat × Bool)}
 (hw : Region.wanted { dst := some N, op, type := ty, pos := ps, after := af, guard := gd } (yielded ops a.tmps) = true) {cs : List Value} {t : TypeId} {v : Nat → Value}
 (hrun : (execOp a.eval { dst := some N, op, type := ty, pos := ps, after := af, guard := gd }).run P w = .ok (.value (v w.heap.size)) (w.alloc (.cells cs.toArray t)))
 (h : ∀ g w1, Below w.heap.size w w1 → Blk w1 g cs t → w.heap.size ≤ g → wpList P ops Q rest (a.put (some N) (v g)) w1) :
 wpList P ops Q ({ dst := some N, op, type := ty, pos := ps, after := af, guard := gd } :: rest) a w :=
 ev hw hrun (h _ _ ((Below.refl _ _).alloc (Nat.le_refl _) _) ⟨heap_alloc_new w _⟩ (Nat.le_refl _))
theorem g_dst {P : Program} {ops : Array Oper} {Q : Exit → Act → World → Prop} {a : Act} {w : World} {rest : List Oper} (N : Tmp) {op : Op} {ty : TypeId} {ps : String} {af : Array Edge} {gd : Option (Nat × Bool)}
 (h : wpList P ops Q ({ dst := some N, op, type := ty, pos := ps, after := af, guard := gd } :: rest) a w) : wpList P ops Q ({ dst := some N, op, type := ty, pos := ps, after := af, guard := gd } :: rest) a w := h
structure Ow {α : Type} (enc : α → List Value) (sz : Nat) (e : TypeId) (base : Nat) (w : World) (v : Value) (l : List α) : Prop where
 own : w.ownsRow base e sz v l.length (l.flatMap enc)
section
variable {α : Type} {enc : α → List Value} {sz : Nat} {e : TypeId} {base : Nat} {w w1 : World} {v : Value} {l : List α}
theorem Ow.nil (enc : α → List Value) (sz : Nat) (e : TypeId) (base : Nat) (w : World) : Ow enc sz e base w (.slice none 0 0) [] := ⟨World.ownsRow_nil w base e sz⟩
theorem Ow.below (f : Ow enc sz e base w v l) (hb : Below w.heap.size w w1) : Ow enc sz e base w1 v l := by
 obtain ⟨h1, h2⟩ := f.own
 refine ⟨h1, ?_⟩
 rcases h2 with h2 | ⟨g, cap, cur, hv, hg, hh, r⟩
 · exact .inl h2
 · exact .inr ⟨g, cap, cur, hv, hg, (hb.block g (Array.getElem?_eq_some_iff.1 hh).1).trans hh, r⟩
theorem Ow.lower {base' : Nat} (f : Ow enc sz e base w v l) (hb : base' ≤ base) : Ow enc sz e base' w v l := by
 obtain ⟨h1, h2⟩ := f.own
 refine ⟨h1, ?_⟩
 rcases h2 with h2 | ⟨g, cap, cur, hv, hg, r⟩
 · exact .inl h2
 · exact .inr ⟨g, cap, cur, hv, Nat.le_trans hb hg, r⟩
theorem Ow.form (f : Ow enc sz e base w v l) : ∃ A c, v = .slice A l.length c ∧ l.length ≤ c ∧ c ≤ maxLen := by
 rcases f.own.2 with ⟨rfl, h0⟩ | ⟨g, cap, cur, rfl, _, _, hc, hm, _⟩
 · exact ⟨none, 0, by rw [h0], by omega, by simp [maxLen]⟩
 · exact ⟨_, cap, rfl, hc, hm⟩
theorem Ow.rd {A : Option Addr} {n c : Nat} (f : Ow enc sz e base w (.slice A n c) l) (hs : ∀ x, (enc x).length = sz) : Rd enc sz w A l := by
 refine ⟨fun hn => ?_⟩
 rcases f.own.2 with ⟨h, h0⟩ | ⟨g, cap, cur, h, hg, _⟩
 · exact absurd (List.eq_nil_of_length_eq_zero h0) hn
 · simp only [Value.slice.injEq] at h
   obtain ⟨rfl, _, _⟩ := h
   refine ⟨g, 0, rfl, fun i x hx j v hv => ?_⟩
   have := f.own.cells (g := g) rfl (i * sz + j) v (flat_at enc sz hs l i x hx j v hv)
   rw [Addr.add_lit] at this
   simpa [Nat.add_assoc] using this
theorem Ow.len_eq {A : Option Addr} {n c : Nat} (f : Ow enc sz e base w (.slice A n c) l) : n = l.length := by
 obtain ⟨A', c', h, _⟩ := f.form
 simp only [Value.slice.injEq] at h
 exact h.2.1
theorem below_grown {row : Option Nat} {B : Nat} (hg : w.grownBy w1 row) (hB : B ≤ w.heap.size) (hr : ∀ k, row = some k → B ≤ k) : Below B w w1 := (Below.refl B w).grown hg hB hr
theorem ev_append {P : Program} {ops : Array Oper} {Q : Exit → Act → World → Prop} {a : Act} {rest : List Oper} (N : Tmp) {s x : Operand} {t ty : TypeId} {ps : String} {af : Array Edge} {gd : Option (Nat × Bool)}
 (hw : Region.wanted { dst := some N, op := .call { callee := .builtin .append, args := #[s, x], argTypes := #[t, t] }, type := ty, pos := ps, after := af, guard := gd } (yielded ops a.tmps) = true)
 (ht : P.underlying t = some (.slice e)) {z : Value} {bytes : Nat} (hi : (P.info? e).map (fun i => (i.zero, i.size, i.bytes)) = some (some z, sz, bytes)) (hz : z.cells.size = sz) (hsz : 0 < sz)
 (hs : a.eval s = v) (f : Ow enc sz e base w v l) {A : Option Addr} {n c : Nat} (hx : a.eval x = .slice A n c) {l2 : List α} (hn : l2.length = n) (r : Rd enc sz w A l2) (hen : ∀ x, (enc x).length = sz) (h1 : ∀ x, ∀ u ∈ enc x, u.oneCell' = true)
 (hA : A = none → c = 0) (hb : (l.length + n) * bytes ≤ 140737488355328) (hm : l.length + n ≤ maxLen) (hbase : base ≤ w.heap.size)
 (h : ∀ v' w1, Ow enc sz e base w1 v' (l ++ l2) → w.grownBy w1 v.ownBlock → wpList P ops Q rest (a.put (some N) v') w1) :
 wpList P ops Q ({ dst := some N, op := .call { callee := .builtin .append, args := #[s, x], argTypes := #[t, t] }, type := ty, pos := ps, after := af, guard := gd } :: rest) a w := by
 subst hn
 cases hq : P.info? e with
 | none => rw [hq] at hi; cases hi
 | some i =>
   rw [hq] at hi
   simp only [Option.map_some, Option.some.injEq, Prod.mk.injEq] at hi
   obtain ⟨hz0, hz1, hz2⟩ := hi
   cases A with
   | none =>
     have hl2 : l2 = [] := by
      rcases l2 with _ | ⟨y, l3⟩
      · rfl
      · obtain ⟨b, off, e, _⟩ := r.at_ (by simp)
        cases e
     subst hl2
     obtain rfl := hA rfl
     have hrun := run_append_owned_none (P := P) (w := w) base t ty e i sz ht hq v l.length _ f.own
     refine ev (v := v) (w1 := w) hw ?_ (h v w ?_ ⟨rfl, rfl, rfl, Nat.le_refl _, fun _ _ _ => rfl⟩)
     · simp [execOp, resolve, invoke, builtin, hs, hx, hrun, Result.andThen]
     · rw [List.append_nil]; exact f
   | some ad =>
     obtain ⟨b, off, spot⟩ := ad
     have hcell : ∀ j u, (l2.flatMap enc)[j]? = some u → w.cell? ((⟨b, off, spot⟩ : Addr).add j) = some u := by
      intro j u hj
      have hlen : (l2.flatMap enc).length = l2.length * sz := by
       clear r hx hj h hb hm
       induction l2 with
       | nil => simp
       | cons y l3 ih => rw [List.flatMap_cons, List.length_append, hen, ih, List.length_cons, Nat.add_mul]; omega
      have hj' : j < l2.length * sz := by rw [← hlen]; exact (List.getElem?_eq_some_iff.1 hj).1
      have hn0 : l2 ≠ [] := by intro e; rw [e] at hj'; simp at hj'
      obtain ⟨b', off', e, hh⟩ := r.at_ hn0
      simp only [Option.some.injEq, Addr.mk.injEq] at e
      obtain ⟨rfl, rfl, rfl⟩ := e
      have hdiv : j / sz < l2.length := (Nat.div_lt_iff_lt_mul hsz).2 hj'
      have hmod : j % sz < (enc l2[j / sz]).length := by rw [hen]; exact Nat.mod_lt _ hsz
      have hj2 := flat_at enc sz hen l2 (j / sz) _ (List.getElem?_eq_getElem hdiv) (j % sz) _ (List.getElem?_eq_getElem hmod)
      have hdm : j / sz * sz + j % sz = j := by rw [Nat.mul_comm]; exact Nat.div_add_mod j sz
      rw [hdm, hj] at hj2
      have h3 := hh (j / sz) _ (List.getElem?_eq_getElem hdiv) (j % sz) _ (List.getElem?_eq_getElem hmod)
      rw [Nat.add_assoc, hdm] at h3
      rw [Addr.add_lit, h3]
      exact hj2.symm
     have hlen : (l2.flatMap enc).length = l2.length * sz := by
      clear r hx h hb hm hcell
      induction l2 with
      | nil => simp
      | cons y l3 ih => rw [List.flatMap_cons, List.length_append, hen, ih, List.length_cons, Nat.add_mul]; omega
     obtain ⟨v', w', hr, h2, h3, _⟩ := run_append_own (P := P) w base t ty e i z sz bytes ht hq hz0 hz1 hz2 hz hsz v l.length _ f.own ⟨b, off, spot⟩ l2.length c (l2.flatMap enc) hlen hcell
      (fun u hu => by obtain ⟨y, _, hy⟩ := List.mem_flatMap.1 hu; exact h1 y u hy) hm hb hbase
     refine ev (v := v') (w1 := w') hw ?_ (h v' w' ⟨?_⟩ h3)
     · simp [execOp, resolve, invoke, builtin, hs, hx, hr, Result.andThen]
     · rw [List.length_append, List.flatMap_append]; exact h2
end
def Gives (w : World) (Q : Value → World → Prop) (e : Ending) (w' : World) : Prop := ∃ v, e = .returned v ∧ Q v w' ∧ Below w.heap.size w w'
theorem Rd.take {α : Type} {enc : α → List Value} {sz : Nat} {w : World} {A : Option Addr} {l : List α} (f : Rd enc sz w A l) (k : Nat) : Rd enc sz w A (l.take k) := by
 refine ⟨fun hn => ?_⟩
 obtain ⟨b, off, e, h⟩ := f.at_ (fun h => hn (by rw [h]; simp))
 refine ⟨b, off, e, fun i x hx => h i x ?_⟩
 rw [List.getElem?_take] at hx
 split at hx
 · exact hx
 · cases hx
theorem Blk.new (w : World) (cs : List Value) (t : TypeId) : Blk (w.alloc (.cells cs.toArray t)) w.heap.size cs t := ⟨heap_alloc_new w _⟩
theorem Blk.set {w : World} {g : Nat} {cs : List Value} {t : TypeId} (f : Blk w g cs t) (i : Nat) (v : Value) : Blk (w.setCell ⟨g, i, none⟩ v) g (cs.set i v) t := by
 refine ⟨?_⟩
 rw [setCell_eq_setRow w g i _ _ _ v f.h, setRow_heap w g _ _ t _ f.h]
 simp
theorem Blk.drew {w : World} {g : Nat} {cs : List Value} {t : TypeId} (f : Blk w g cs t) : Blk w.drew g cs t := ⟨f.h⟩
theorem madeCells_one (z : Value) (n : Nat) : madeCells #[z] n = (List.replicate n z).toArray := by
 apply Array.ext
 · simp [madeCells]
 · intro i h1 h2
   simp [madeCells, Nat.mod_one]
theorem ev_make {P : Program} {ops : Array Oper} {Q : Exit → Act → World → Prop} {a : Act} {w : World} {rest : List Oper} (N : Tmp) {t e ty : TypeId} {x y : Operand} {ps : String} {af : Array Edge} {gd : Option (Nat × Bool)}
 (hw : Region.wanted { dst := some N, op := .makeSlice t x y, type := ty, pos := ps, after := af, guard := gd } (yielded ops a.tmps) = true) (ht : P.underlying t = some (.slice e)) {z : Value} {bytes : Nat}
 (hi : (P.info? e).map (fun i => (i.zero, i.size, i.bytes)) = some (some z, 1, bytes)) (hz : z.cells = #[z]) {kl kc : IntKind} {n : Nat} (hl : a.eval x = .int kl (n : Int)) (hc : a.eval y = .int kc (n : Int))
 (hb : n * bytes ≤ 281474976710656) (hm : n ≤ 9223372036854775807)
 (h : ∀ g w1, Below w.heap.size w w1 → Blk w1 g (List.replicate n z) e → w.heap.size ≤ g → wpList P ops Q rest (a.put (some N) (.slice (some ⟨g, 0, none⟩) n n)) w1) :
 wpList P ops Q ({ dst := some N, op := .makeSlice t x y, type := ty, pos := ps, after := af, guard := gd } :: rest) a w := by
 cases hq : P.info? e with
 | none => rw [hq] at hi; cases hi
 | some i =>
   rw [hq] at hi
   simp only [Option.map_some, Option.some.injEq, Prod.mk.injEq] at hi
   obtain ⟨hz0, hz1, hz2⟩ := hi
   have hb' : (i.bytes : Int) * (n : Int) ≤ 281474976710656 := by
    rw [hz2]
    have h2 : ((n * bytes : Nat) : Int) ≤ ((281474976710656 : Nat) : Int) := Int.ofNat_le.2 hb
    rw [Int.natCast_mul] at h2
    rw [Int.mul_comm]; exact h2
   have hr := run_make (P := P) w t e i z ht hq hz0 kl kc n n (by omega) (by omega) hb' (by omega)
   rw [hz, hz1, Nat.mul_one, Int.toNat_natCast, madeCells_one] at hr
   exact ev_lit (v := fun g => .slice (some ⟨g, 0, none⟩) n n) N hw (by simp only [execOp, hl, hc, hr, Sem.run_bind, Result.andThen_ok]; rfl) h
theorem ev_set {α : Type} {P : Program} {ops : Array Oper} {Q : Exit → Act → World → Prop} {a : Act} {w : World} {rest : List Oper} {t ty : TypeId} {x y : Operand} {ps : String} {af : Array Edge} {gd : Option (Nat × Bool)}
 (hw : Region.wanted { dst := none, op := .store t x y, type := ty, pos := ps, after := af, guard := gd } (yielded ops a.tmps) = true) {g i : Nat} (hx : a.eval x = .pointer (some ⟨g, i, none⟩)) {f : α → Value} {l : List α} {t' : TypeId} (B : Blk w g (l.map f) t')
 {u : α} (hy : (a.eval y).cells = #[f u]) {z : Option Value} {b : Nat} (hi : (P.info? t).map (fun i => (i.zero, i.size, i.bytes)) = some (z, 1, b)) (hlt : i < l.length) (h1 : (f u).oneCell' = true)
 (h : ∀ w1, Only g w w1 → Blk w1 g ((l.set i u).map f) t' → wpList P ops Q rest a w1) :
 wpList P ops Q ({ dst := none, op := .store t x y, type := ty, pos := ps, after := af, guard := gd } :: rest) a w := by
 refine ev_store hw hx B (news := [f u]) (by rw [hy]) hi (by simp; omega) (by simpa using h1) ?_
 intro w1 ho hB
 refine h w1 ho ?_
 have e : (l.map f).take i ++ [f u] ++ (l.map f).drop (i + [f u].length) = (l.set i u).map f := by
  rw [List.map_set, List.set_eq_take_append_cons_drop]
  simp [hlt]
 rwa [e] at hB
theorem Blk.ow {α : Type} {enc : α → List Value} {f : α → Value} {w : World} {g base : Nat} {l : List α} {e : TypeId} (B : Blk w g (l.map f) e) (hf : ∀ x, enc x = [f x]) (hg : base ≤ g) (hm : l.length ≤ maxLen) (k : Nat) (hk : k ≤ l.length) :
 Ow enc 1 e base w (.slice (some ⟨g, 0, none⟩) k l.length) (l.take k) := by
 have hfl : ∀ m : List α, m.flatMap enc = m.map f := fun m => by
  induction m with
  | nil => rfl
  | cons y m ih => rw [List.flatMap_cons, ih, hf]; rfl
 have hlen : (l.take k).length = k := by rw [List.length_take]; omega
 refine ⟨⟨by rw [hfl]; simp, .inr ⟨g, l.length, (l.map f).toArray, ?_, hg, B.h, by omega, hm, by simp, ?_⟩⟩⟩
 · rw [hlen]
 · rw [hfl, hlen]; simp [List.map_take]
theorem Blk.rdm {α : Type} {enc : α → List Value} {f : α → Value} {w : World} {g : Nat} {l : List α} {e : TypeId} (B : Blk w g (l.map f) e) (hf : ∀ x, enc x = [f x]) : Rd enc 1 w (some ⟨g, 0, none⟩) l :=
 B.rd (fun x => by rw [hf]; rfl) (by
  clear B
  induction l with
  | nil => rfl
  | cons y m ih => rw [List.flatMap_cons, ← ih, hf]; rfl)
end Go.Proofs.YtdapbegadhcpcaaGreatDoorL
namespace Go.Proofs.YtdapbegadhcpcaaGreatDoorM
def valB (B : Nat) : List Nat → Nat
 | [] => 0
 | x :: l => x + B * valB B l
theorem valB_nil (B : Nat) : valB B [] = 0 := rfl
theorem valB_cons (B x : Nat) (l : List Nat) : valB B (x :: l) = x + B * valB B l := rfl
theorem valB_append (B : Nat) : ∀ l m : List Nat, valB B (l ++ m) = valB B l + B ^ l.length * valB B m
 | [], m => by simp [valB]
 | x :: l, m => by
   simp only [List.cons_append, valB, valB_append B l m, List.length_cons, Nat.pow_succ]
   rw [Nat.mul_add, Nat.add_assoc, ← Nat.mul_assoc, Nat.mul_comm (B ^ l.length) B]
theorem valB_snoc (B : Nat) (l : List Nat) (x : Nat) : valB B (l ++ [x]) = valB B l + B ^ l.length * x := by
 rw [valB_append]; simp [valB]
theorem valB_lt (B : Nat) (hB : 0 < B) : ∀ l : List Nat, (∀ x ∈ l, x < B) → valB B l < B ^ l.length
 | [], _ => by simp [valB]
 | x :: l, h => by
   have h1 := valB_lt B hB l (fun y hy => h y (List.mem_cons_of_mem _ hy))
   have h2 := h x (List.mem_cons_self ..)
   have h3 : B * valB B l + B ≤ B * B ^ l.length := by
    have : B * (valB B l + 1) ≤ B * B ^ l.length := Nat.mul_le_mul_left B h1
    rwa [Nat.mul_add, Nat.mul_one] at this
   simp only [valB, List.length_cons, Nat.pow_succ, Nat.mul_comm (B ^ l.length) B]
   omega
theorem valB_zeros (B n : Nat) : valB B (List.replicate n 0) = 0 := by
 induction n with
 | zero => rfl
 | succ n ih => simp [List.replicate_succ, valB, ih]
def Canon (l : List Nat) : Prop := ∀ x, l.getLast? = some x → x ≠ 0
theorem Canon.nil : Canon [] := fun x h => by simp at h
theorem Canon.tail {x : Nat} {l : List Nat} (h : Canon (x :: l)) : Canon l := by
 intro y hy
 cases l with
 | nil => simp at hy
 | cons z l => exact h y (by rw [List.getLast?_cons_cons]; exact hy)
theorem canon_zero (B : Nat) (hB : 0 < B) : ∀ l : List Nat, Canon l → valB B l = 0 → l = []
 | [], _, _ => rfl
 | x :: l, h, e => by
   simp only [valB] at e
   have e1 : x = 0 := by omega
   have e2 : valB B l = 0 := by
    have : B * valB B l = 0 := by omega
    rcases Nat.mul_eq_zero.1 this with h0 | h0
    · omega
    · exact h0
   have e3 := canon_zero B hB l h.tail e2
   subst e3
   exact absurd e1 (h x (by simp))
theorem canon_inj (B : Nat) (hB : 0 < B) : ∀ l m : List Nat, (∀ x ∈ l, x < B) → (∀ x ∈ m, x < B) → Canon l → Canon m → valB B l = valB B m → l = m
 | [], m, _, _, _, hm, e => (canon_zero B hB m hm (by rw [← e]; rfl)).symm
 | x :: l, [], _, _, hl, _, e => canon_zero B hB _ hl (by rw [e]; rfl)
 | x :: l, y :: m, h1, h2, hl, hm, e => by
   simp only [valB] at e
   have hx := h1 x (List.mem_cons_self ..)
   have hy := h2 y (List.mem_cons_self ..)
   have exy : x = y := by
    have a1 : (x + B * valB B l) % B = x := by rw [Nat.add_mul_mod_self_left]; exact Nat.mod_eq_of_lt hx
    have a2 : (y + B * valB B m) % B = y := by rw [Nat.add_mul_mod_self_left]; exact Nat.mod_eq_of_lt hy
    rw [← a1, ← a2, e]
   subst exy
   have e2 : valB B l = valB B m := Nat.eq_of_mul_eq_mul_left hB (by omega)
   rw [canon_inj B hB l m (fun z hz => h1 z (List.mem_cons_of_mem _ hz)) (fun z hz => h2 z (List.mem_cons_of_mem _ hz)) hl.tail hm.tail e2]
def trimL : List Nat → List Nat
 | [] => []
 | x :: l => if x = 0 ∧ trimL l = [] then [] else x :: trimL l
theorem trimL_canon : ∀ l : List Nat, Canon (trimL l)
 | [] => Canon.nil
 | x :: l => by
   unfold trimL
   split
   · exact Canon.nil
   · rename_i h
     intro y hy
     cases ht : trimL l with
     | nil =>
       rw [ht] at hy h
       simp at hy h
       omega
     | cons z m =>
       rw [ht, List.getLast?_cons_cons] at hy
       exact trimL_canon l y (by rw [ht]; exact hy)
theorem trimL_val (B : Nat) : ∀ l : List Nat, valB B (trimL l) = valB B l
 | [] => rfl
 | x :: l => by
   unfold trimL
   split
   · rename_i h
     rw [valB_cons, ← trimL_val B l, h.1, h.2]; simp [valB]
   · rw [valB_cons, valB_cons, trimL_val B l]
theorem trimL_of_canon : ∀ l : List Nat, Canon l → trimL l = l
 | [], _ => rfl
 | x :: l, h => by
   unfold trimL
   rw [trimL_of_canon l h.tail]
   split
   · rename_i h0
     obtain ⟨rfl, rfl⟩ := h0
     exact absurd rfl (h 0 (by simp))
   · rfl
theorem trimL_mem : ∀ (l : List Nat) (x : Nat), x ∈ trimL l → x ∈ l
 | [], x, h => h
 | y :: l, x, h => by
   unfold trimL at h
   split at h
   · simp at h
   · rcases List.mem_cons.1 h with e | e
     · exact e ▸ List.mem_cons_self ..
     · exact List.mem_cons_of_mem _ (trimL_mem l x e)
theorem trimL_take : ∀ l : List Nat, trimL l = l.take (trimL l).length
 | [] => rfl
 | x :: l => by
   unfold trimL
   split
   · rfl
   · rw [List.length_cons, List.take_succ_cons, ← trimL_take l]
theorem trimL_le (l : List Nat) : (trimL l).length ≤ l.length := by
 have := congrArg List.length (trimL_take l)
 rw [List.length_take] at this
 omega
theorem trimL_snoc_zero (l : List Nat) : trimL (l ++ [0]) = trimL l := by
 induction l with
 | nil => simp [trimL]
 | cons x l ih => simp only [List.cons_append, trimL, ih]
theorem trimL_snoc (l : List Nat) (x : Nat) (h : x ≠ 0) : trimL (l ++ [x]) = l ++ [x] := by
 apply trimL_of_canon
 intro y hy
 simp at hy
 omega
def digB (B n : Nat) : List Nat :=
 if h : 1 < B ∧ 0 < n then n % B :: digB B (n / B) else []
termination_by n
decreasing_by exact Nat.div_lt_self h.2 h.1
theorem digB_zero (B : Nat) : digB B 0 = [] := by unfold digB; simp
theorem digB_pos (B n : Nat) (hB : 1 < B) (hn : 0 < n) : digB B n = n % B :: digB B (n / B) := by
 rw [digB, dif_pos ⟨hB, hn⟩]
theorem digB_val (B : Nat) (hB : 1 < B) (n : Nat) : valB B (digB B n) = n := by
 induction n using Nat.strongRecOn with
 | ind n ih =>
   rcases Nat.eq_zero_or_pos n with rfl | hn
   · rw [digB_zero]; rfl
   · rw [digB_pos B n hB hn, valB_cons, ih (n / B) (Nat.div_lt_self hn hB)]
     exact Nat.mod_add_div n B
theorem digB_lt (B : Nat) (hB : 1 < B) (n : Nat) : ∀ x ∈ digB B n, x < B := by
 induction n using Nat.strongRecOn with
 | ind n ih =>
   rcases Nat.eq_zero_or_pos n with rfl | hn
   · rw [digB_zero]; intro x h; simp at h
   · rw [digB_pos B n hB hn]
     intro x h
     rcases List.mem_cons.1 h with e | e
     · rw [e]; exact Nat.mod_lt _ (by omega)
     · exact ih (n / B) (Nat.div_lt_self hn hB) x e
theorem digB_canon (B : Nat) (hB : 1 < B) (n : Nat) : Canon (digB B n) := by
 induction n using Nat.strongRecOn with
 | ind n ih =>
   rcases Nat.eq_zero_or_pos n with rfl | hn
   · rw [digB_zero]; exact Canon.nil
   · rw [digB_pos B n hB hn]
     intro x h
     rcases Nat.eq_zero_or_pos (n / B) with h0 | h0
     · rw [h0, digB_zero] at h
       simp at h
       have := Nat.mod_add_div n B
       rw [h0] at this
       omega
     · rw [digB_pos B _ hB h0, List.getLast?_cons_cons] at h
       exact ih (n / B) (Nat.div_lt_self hn hB) x (by rw [digB_pos B _ hB h0]; exact h)
theorem trimL_dig (B : Nat) (hB : 1 < B) (l : List Nat) (h : ∀ x ∈ l, x < B) : trimL l = digB B (valB B l) :=
 canon_inj B (by omega) _ _ (fun x hx => h x (trimL_mem l x hx)) (digB_lt B hB _) (trimL_canon l) (digB_canon B hB _) (by rw [trimL_val, digB_val B hB])
theorem dig_of_canon (B : Nat) (hB : 1 < B) (l : List Nat) (h : ∀ x ∈ l, x < B) (hc : Canon l) : l = digB B (valB B l) := by
 rw [← trimL_dig B hB l h, trimL_of_canon l hc]
theorem digB_eq_nil (B n : Nat) (hB : 1 < B) : digB B n = [] ↔ n = 0 := by
 constructor
 · intro h
   have := digB_val B hB n
   rw [h] at this
   exact this.symm
 · rintro rfl; exact digB_zero B
theorem digB_len_lt (B : Nat) (hB : 1 < B) : ∀ (k n : Nat), n < B ^ k → (digB B n).length ≤ k
 | 0, n, h => by
   have : n = 0 := by simpa using h
   rw [this, digB_zero]; exact Nat.le_refl _
 | k + 1, n, h => by
   rcases Nat.eq_zero_or_pos n with rfl | hn
   · rw [digB_zero]; exact Nat.zero_le _
   · rw [digB_pos B n hB hn, List.length_cons]
     exact Nat.succ_le_succ (digB_len_lt B hB k (n / B) (Nat.div_lt_of_lt_mul (by rw [Nat.pow_succ, Nat.mul_comm] at h; exact h)))
theorem digB_len_ge (B : Nat) (hB : 1 < B) : ∀ (k n : Nat), B ^ k ≤ n → k < (digB B n).length
 | 0, n, h => by
   have hn : 0 < n := Nat.lt_of_lt_of_le (by simp) h
   rw [digB_pos B n hB hn, List.length_cons]; omega
 | k + 1, n, h => by
   have hp : 0 < B ^ (k + 1) := Nat.pow_pos (by omega)
   rw [digB_pos B n hB (by omega), List.length_cons]
   refine Nat.succ_lt_succ (digB_len_ge B hB k (n / B) ?_)
   rw [Nat.le_div_iff_mul_le (by omega)]
   rwa [Nat.pow_succ] at h
theorem drop_cons_of_lt {α : Type} (l : List α) (m : Nat) (hm : m < l.length) : l.drop m = l[m] :: l.drop (m + 1) := (List.getElem_cons_drop hm).symm
def halves : List Nat → List Nat
 | [] => []
 | x :: l => x % 65536 :: x / 65536 :: halves l
theorem halves_len : ∀ l, (halves l).length = 2 * l.length
 | [] => rfl
 | x :: l => by simp [halves, halves_len l]; omega
theorem halves_val : ∀ l, valB 65536 (halves l) = valB 4294967296 l
 | [] => rfl
 | x :: l => by
   simp only [halves, valB_cons, halves_val l]
   have := Nat.mod_add_div x 65536
   omega
theorem halves_lt : ∀ l, (∀ x ∈ l, x < 4294967296) → ∀ y ∈ halves l, y < 65536
 | [], _, y, h => by simp [halves] at h
 | x :: l, hl, y, h => by
   have hx := hl x (List.mem_cons_self ..)
   rcases List.mem_cons.1 h with e | h
   · omega
   · rcases List.mem_cons.1 h with e | h
     · omega
     · exact halves_lt l (fun z hz => hl z (List.mem_cons_of_mem _ hz)) y h
theorem halves_append : ∀ l m, halves (l ++ m) = halves l ++ halves m
 | [], m => rfl
 | x :: l, m => by simp [halves, halves_append l m]
theorem halves_take_succ (l : List Nat) (k : Nat) (hk : k < l.length) : halves (l.take k) ++ [l[k] % 65536, l[k] / 65536] = halves (l.take (k + 1)) := by
 rw [List.take_succ_eq_append_getElem hk, halves_append]; rfl
theorem trim_halves (l : List Nat) (hl : ∀ x ∈ l, x < 4294967296) : trimL (halves l) = digB 65536 (valB 4294967296 l) := by
 rw [trimL_dig 65536 (by omega) _ (halves_lt l hl), halves_val]
def pairs : List Nat → List Nat
 | [] => []
 | [x] => [x]
 | x :: y :: l => (x + y * 65536) :: pairs l
theorem pairs_val : ∀ l, valB 4294967296 (pairs l) = valB 65536 l
 | [] => rfl
 | [x] => by simp [pairs, valB]
 | x :: y :: l => by simp only [pairs, valB_cons, pairs_val l]; omega
theorem pairs_lt : ∀ l, (∀ x ∈ l, x < 65536) → ∀ y ∈ pairs l, y < 4294967296
 | [], _, y, h => by simp [pairs] at h
 | [x], hl, y, h => by
   have := hl x (by simp)
   simp [pairs] at h; omega
 | x :: z :: l, hl, y, h => by
   have h1 := hl x (by simp)
   have h2 := hl z (by simp)
   rcases List.mem_cons.1 h with e | h
   · omega
   · exact pairs_lt l (fun u hu => hl u (by simp [hu])) y h
theorem pairs_eq_nil : ∀ l, pairs l = [] → l = []
 | [], _ => rfl
 | [x], h => by simp [pairs] at h
 | x :: y :: l, h => by simp [pairs] at h
theorem pairs_canon : ∀ l, Canon l → Canon (pairs l)
 | [], h => h
 | [x], h => h
 | x :: y :: l, h => by
   intro z hz
   rw [pairs] at hz
   cases hp : pairs l with
   | nil =>
     have := pairs_eq_nil l hp
     subst this
     have hy := h y (by simp)
     rw [hp] at hz
     simp at hz
     omega
   | cons u m =>
     rw [hp, List.getLast?_cons_cons] at hz
     exact pairs_canon l h.tail.tail z (by rw [hp]; exact hz)
theorem pairs_dig (v : Nat) : pairs (digB 65536 v) = digB 4294967296 v := by
 have h := dig_of_canon 4294967296 (by omega) (pairs (digB 65536 v)) (pairs_lt _ (digB_lt 65536 (by omega) v)) (pairs_canon _ (digB_canon 65536 (by omega) v))
 rw [pairs_val, digB_val 65536 (by omega)] at h
 exact h
theorem pairs_len : ∀ l : List Nat, (pairs l).length = (l.length + 1) / 2
 | [] => rfl
 | [x] => by simp [pairs]
 | x :: y :: l => by simp only [pairs, List.length_cons, pairs_len l]; omega
theorem pairs_take_two (l : List Nat) (k : Nat) (hk : 2 * k + 1 < l.length) : (pairs l).take k ++ [l[2 * k] + l[2 * k + 1] * 65536] = (pairs l).take (k + 1) := by
 match l, k, hk with
 | x :: y :: l, 0, hk => rfl
 | x :: y :: l, k + 1, hk =>
   have := pairs_take_two l k (by simp at hk; omega)
   simp only [pairs, List.take_succ_cons, List.cons_append]
   exact congrArg _ this
theorem pairs_take_one (l : List Nat) (k : Nat) (hk : 2 * k + 1 = l.length) : (pairs l).take k ++ [l[2 * k]] = (pairs l).take (k + 1) := by
 match l, k, hk with
 | [x], 0, hk => rfl
 | [x], k + 1, hk => simp at hk
 | x :: y :: l, 0, hk => simp at hk
 | x :: y :: l, k + 1, hk =>
   have := pairs_take_one l k (by simp at hk; omega)
   simp only [pairs, List.take_succ_cons, List.cons_append]
   exact congrArg _ this
theorem valB_take_succ (B : Nat) (l : List Nat) (k : Nat) : valB B (l.take (k + 1)) = valB B (l.take k) + B ^ k * l.getD k 0 := by
 by_cases h : k < l.length
 · rw [List.take_succ_eq_append_getElem h, valB_snoc, List.length_take, Nat.min_eq_left (by omega)]
   simp [List.getD, List.getElem?_eq_getElem h]
 · rw [List.take_of_length_le (i := k + 1) (by omega), List.take_of_length_le (i := k) (by omega)]
   simp [List.getD, List.getElem?_eq_none (Nat.le_of_not_lt h)]
theorem getD_lt (B : Nat) (hB : 0 < B) (l : List Nat) (hl : ∀ x ∈ l, x < B) (k : Nat) : l.getD k 0 < B := by
 by_cases h : k < l.length
 · rw [show l.getD k 0 = l[k] by simp [List.getD, List.getElem?_eq_getElem h]]
   exact hl _ (List.getElem_mem h)
 · simpa [List.getD, List.getElem?_eq_none (Nat.le_of_not_lt h)] using hB
theorem add_step (B : Nat) (hB : 0 < B) (a b S : List Nat) (k c : Nat) (hS : S.length = k) (h : valB B S + B ^ k * c = valB B (a.take k) + valB B (b.take k)) :
 valB B (S ++ [(a.getD k 0 + b.getD k 0 + c) % B]) + B ^ (k + 1) * ((a.getD k 0 + b.getD k 0 + c) / B) = valB B (a.take (k + 1)) + valB B (b.take (k + 1)) := by
 rw [valB_take_succ, valB_take_succ, valB_snoc, hS, Nat.pow_succ, Nat.mul_assoc, Nat.add_assoc, ← Nat.mul_add, Nat.mod_add_div]
 rw [Nat.mul_add, Nat.mul_add]
 omega
end Go.Proofs.YtdapbegadhcpcaaGreatDoorM
namespace Go.Proofs.YtdapbegadhcpcaaGreatDoor
open Go.RowKit Go.Proofs.YtdapbegadhcpcaaGreatDoorL Go.Proofs.YtdapbegadhcpcaaGreatDoorM
theorem infoU : (Tryz.prog.info? 77).map (fun i => (i.zero, i.size, i.bytes)) = some (some (.int .u32 0), 1, 4) := by kernel_rfl
def encU (x : Nat) : List Value := [.int .u32 x]
theorem lenU : ∀ x, (encU x).length = 1 := fun _ => rfl
theorem oneU : ∀ x, ∀ u ∈ encU x, u.oneCell' = true := fun x => by simp [encU, Value.oneCell']
theorem Rd.u {w : World} {b off : Nat} {l : List Nat} (f : Rd encU 1 w (some ⟨b, off, none⟩) l) (i : Nat) (hi : i < l.length) : w.cell? ⟨b, off + i, none⟩ = some (.int .u32 (l[i] : Nat)) := by
 have := f.cell i hi 0 _ rfl
 simpa using this
theorem ne_nil_of_lt {α : Type} {l : List α} {i : Nat} (h : i < l.length) : l ≠ [] := fun e => by rw [e] at h; simp at h
theorem trimL_step_zero (l : List Nat) (m : Nat) (hm : m < l.length) (h0 : l[m] = 0) : trimL (l.take (m + 1)) = trimL (l.take m) := by
 rw [List.take_succ_eq_append_getElem hm, h0, trimL_snoc_zero]
theorem trimL_step_end (l : List Nat) (m : Nat) (hm : m < l.length) (h0 : l[m] ≠ 0) : (trimL (l.take (m + 1))).length = m + 1 := by
 rw [List.take_succ_eq_append_getElem hm, trimL_snoc _ _ h0]
 simp; omega
set_option maxHeartbeats 1000000 in
theorem trim_any (l : List Nat) (A : Option Addr) (c : Nat) (w : World) (hr : Rd encU 1 w A l) (hc : l.length ≤ c) (hm : l.length ≤ 9223372036854775807) :
 Calls Tryz.prog 69 #[.slice A l.length c] w fun e w' => e = .returned (.slice A (trimL l).length c) ∧ w = w' := by
 go_enter Tryz.func69, Tryz.ntmps69
 go_wp2
 go_loop [3] (fun v => ∃ n : Nat, n ≤ l.length ∧ v = .int .i64 n ∧ As (trimL (l.take n) = trimL l)) (fun v => (intOf v).toNat)
 case atStart => exact ⟨l.length, Nat.le_refl _, rfl, ⟨by rw [List.take_length]⟩⟩
 case round =>
  obtain ⟨n, hn, rfl, ht⟩ := hrel
  cases n with
  | zero =>
    go_wp2
    go_ret
    refine ⟨?_, rfl⟩
    rw [← ht.out]; simp [trimL]
  | succ m =>
    obtain ⟨b, off, rfl⟩ := hr.get (ne_nil_of_lt (i := m) (by omega))
    have hcell := Rd.u hr m (by omega)
    have hp : (0 : Int) < (m : Int) + 1 := by omega
    by_cases h0 : l[m] = 0
    · rw [h0] at hcell
      go_wp2
      go_round
      case rel => exact ⟨m, by omega, by go_num, ⟨by rw [← ht.out, trimL_step_zero l m (by omega) h0]⟩⟩
      case measure => simp [intOf]
    · have hb : ((l[m] : Int) == 0) = false := by simp; omega
      have hk := As.mk (trimL_step_end l m (by omega) h0)
      clear h0
      go_wp2
      go_ret
      refine ⟨?_, rfl⟩
      rw [← ht.out, hk.out]; rfl
theorem Rd.trim {w : World} {A : Option Addr} {l : List Nat} (f : Rd encU 1 w A l) : Rd encU 1 w A (trimL l) := by
 rw [trimL_take]; exact f.take _
def valU (x : Nat) : Value := .int .u32 x
theorem encU_one : ∀ x, encU x = [valU x] := fun _ => rfl
theorem trim_n (l : List Nat) (n : Nat) (hn : l.length = n) (A : Option Addr) (c : Nat) (w : World) (hr : Rd encU 1 w A l) (hc : n ≤ c) (hm : n ≤ 9223372036854775807) :
 Calls Tryz.prog 69 #[.slice A n c] w fun e w' => e = .returned (.slice A (trimL l).length c) ∧ w = w' := by
 subst hn; exact trim_any l A c w hr hc hm
end Go.Proofs.YtdapbegadhcpcaaGreatDoor
namespace Go.Proofs.YtdapbegadhcpcaaGreatDoorL
open Go.RowKit
theorem st {P : Program} {ops : Array Oper} {K : Act → World → Prop} {Q : Exit → Act → World → Prop} {E : Prop} {a : Act} {w w1 : World} {o : Oper} {v : Value}
 (hw : Region.wanted o (yielded ops a.tmps) = true) (hrun : (execOp a.eval o).run P w = .ok (.value v) w1) (h : K (a.put o.dst v) w1) :
 if Region.wanted o (yielded ops a.tmps) = true then Oper.wp P o a w K Q else E := by
 rw [if_pos hw]
 unfold Oper.wp
 rw [hrun]
 exact h
theorem s_dst {P : Program} {ops : Array Oper} {K : Act → World → Prop} {Q : Exit → Act → World → Prop} {E : Prop} {a : Act} {w : World} (N : Tmp) {op : Op} {ty : TypeId} {ps : String} {af : Array Edge} {gd : Option (Nat × Bool)}
 (h : if Region.wanted { dst := some N, op, type := ty, pos := ps, after := af, guard := gd } (yielded ops a.tmps) = true then Oper.wp P { dst := some N, op, type := ty, pos := ps, after := af, guard := gd } a w K Q else E) :
 if Region.wanted { dst := some N, op, type := ty, pos := ps, after := af, guard := gd } (yielded ops a.tmps) = true then Oper.wp P { dst := some N, op, type := ty, pos := ps, after := af, guard := gd } a w K Q else E := h
theorem st_lit {P : Program} {ops : Array Oper} {K : Act → World → Prop} {Q : Exit → Act → World → Prop} {E : Prop} {a : Act} {w : World} (N : Tmp) {op : Op} {ty : TypeId} {ps : String} {af : Array Edge} {gd : Option (Nat × Bool)}
 (hw : Region.wanted { dst := some N, op, type := ty, pos := ps, after := af, guard := gd } (yielded ops a.tmps) = true) {cs : List Value} {t : TypeId} {v : Nat → Value}
 (hrun : (execOp a.eval { dst := some N, op, type := ty, pos := ps, after := af, guard := gd }).run P w = .ok (.value (v w.heap.size)) (w.alloc (.cells cs.toArray t)))
 (h : ∀ g w1, Below w.heap.size w w1 → Blk w1 g cs t → w.heap.size ≤ g → K (a.put (some N) (v g)) w1) :
 if Region.wanted { dst := some N, op, type := ty, pos := ps, after := af, guard := gd } (yielded ops a.tmps) = true then Oper.wp P { dst := some N, op, type := ty, pos := ps, after := af, guard := gd } a w K Q else E :=
 st hw hrun (h _ _ ((Below.refl _ _).alloc (Nat.le_refl _) _) ⟨heap_alloc_new w _⟩ (Nat.le_refl _))
section
variable {α : Type} {enc : α → List Value} {sz : Nat} {e : TypeId} {base : Nat} {w : World} {v : Value} {l : List α}
theorem st_append {P : Program} {ops : Array Oper} {K : Act → World → Prop} {Q : Exit → Act → World → Prop} {E : Prop} {a : Act} (N : Tmp) {s x : Operand} {t ty : TypeId} {ps : String} {af : Array Edge} {gd : Option (Nat × Bool)}
 (hw : Region.wanted { dst := some N, op := .call { callee := .builtin .append, args := #[s, x], argTypes := #[t, t] }, type := ty, pos := ps, after := af, guard := gd } (yielded ops a.tmps) = true)
 (ht : P.underlying t = some (.slice e)) {z : Value} {bytes : Nat} (hi : (P.info? e).map (fun i => (i.zero, i.size, i.bytes)) = some (some z, sz, bytes)) (hz : z.cells.size = sz) (hsz : 0 < sz)
 (hs : a.eval s = v) (f : Ow enc sz e base w v l) {A : Option Addr} {n c : Nat} (hx : a.eval x = .slice A n c) {l2 : List α} (hn : l2.length = n) (r : Rd enc sz w A l2) (hen : ∀ x, (enc x).length = sz) (h1 : ∀ x, ∀ u ∈ enc x, u.oneCell' = true)
 (hA : A = none → c = 0) (hb : (l.length + n) * bytes ≤ 140737488355328) (hm : l.length + n ≤ maxLen) (hbase : base ≤ w.heap.size)
 (h : ∀ v' w1, Ow enc sz e base w1 v' (l ++ l2) → w.grownBy w1 v.ownBlock → K (a.put (some N) v') w1) :
 if Region.wanted { dst := some N, op := .call { callee := .builtin .append, args := #[s, x], argTypes := #[t, t] }, type := ty, pos := ps, after := af, guard := gd } (yielded ops a.tmps) = true then Oper.wp P { dst := some N, op := .call { callee := .builtin .append, args := #[s, x], argTypes := #[t, t] }, type := ty, pos := ps, after := af, guard := gd } a w K Q else E := by
 subst hn
 cases hq : P.info? e with
 | none => rw [hq] at hi; cases hi
 | some i =>
   rw [hq] at hi
   simp only [Option.map_some, Option.some.injEq, Prod.mk.injEq] at hi
   obtain ⟨hz0, hz1, hz2⟩ := hi
   cases A with
   | none =>
     have hl2 : l2 = [] := by
      rcases l2 with _ | ⟨y, l3⟩
      · rfl
      · obtain ⟨b, off, e, _⟩ := r.at_ (by simp)
        cases e
     subst hl2
     obtain rfl := hA rfl
     have hrun := run_append_owned_none (P := P) (w := w) base t ty e i sz ht hq v l.length _ f.own
     refine st (v := v) (w1 := w) hw ?_ (h v w ?_ ⟨rfl, rfl, rfl, Nat.le_refl _, fun _ _ _ => rfl⟩)
     · simp [execOp, resolve, invoke, builtin, hs, hx, hrun, Result.andThen]
     · rw [List.append_nil]; exact f
   | some ad =>
     obtain ⟨b, off, spot⟩ := ad
     have hcell : ∀ j u, (l2.flatMap enc)[j]? = some u → w.cell? ((⟨b, off, spot⟩ : Addr).add j) = some u := by
      intro j u hj
      have hlen : (l2.flatMap enc).length = l2.length * sz := by
       clear r hx hj h hb hm
       induction l2 with
       | nil => simp
       | cons y l3 ih => rw [List.flatMap_cons, List.length_append, hen, ih, List.length_cons, Nat.add_mul]; omega
      have hj' : j < l2.length * sz := by rw [← hlen]; exact (List.getElem?_eq_some_iff.1 hj).1
      have hn0 : l2 ≠ [] := by intro e; rw [e] at hj'; simp at hj'
      obtain ⟨b', off', e, hh⟩ := r.at_ hn0
      simp only [Option.some.injEq, Addr.mk.injEq] at e
      obtain ⟨rfl, rfl, rfl⟩ := e
      have hdiv : j / sz < l2.length := (Nat.div_lt_iff_lt_mul hsz).2 hj'
      have hmod : j % sz < (enc l2[j / sz]).length := by rw [hen]; exact Nat.mod_lt _ hsz
      have hj2 := flat_at enc sz hen l2 (j / sz) _ (List.getElem?_eq_getElem hdiv) (j % sz) _ (List.getElem?_eq_getElem hmod)
      have hdm : j / sz * sz + j % sz = j := by rw [Nat.mul_comm]; exact Nat.div_add_mod j sz
      rw [hdm, hj] at hj2
      have h3 := hh (j / sz) _ (List.getElem?_eq_getElem hdiv) (j % sz) _ (List.getElem?_eq_getElem hmod)
      rw [Nat.add_assoc, hdm] at h3
      rw [Addr.add_lit, h3]
      exact hj2.symm
     have hlen : (l2.flatMap enc).length = l2.length * sz := by
      clear r hx h hb hm hcell
      induction l2 with
      | nil => simp
      | cons y l3 ih => rw [List.flatMap_cons, List.length_append, hen, ih, List.length_cons, Nat.add_mul]; omega
     obtain ⟨v', w', hr, h2, h3, _⟩ := run_append_own (P := P) w base t ty e i z sz bytes ht hq hz0 hz1 hz2 hz hsz v l.length _ f.own ⟨b, off, spot⟩ l2.length c (l2.flatMap enc) hlen hcell
      (fun u hu => by obtain ⟨y, _, hy⟩ := List.mem_flatMap.1 hu; exact h1 y u hy) hm hb hbase
     refine st (v := v') (w1 := w') hw ?_ (h v' w' ⟨?_⟩ h3)
     · simp [execOp, resolve, invoke, builtin, hs, hx, hr, Result.andThen]
     · rw [List.length_append, List.flatMap_append]; exact h2
end
theorem Ow.none {α : Type} {enc : α → List Value} {sz : Nat} {e : TypeId} {base : Nat} {w : World} {l : List α} {A : Option Addr} {n c : Nat} (f : Ow enc sz e base w (.slice A n c) l) : A = none → c = 0 := by
 rintro rfl
 rcases f.own.2 with ⟨h, _⟩ | ⟨g, cap, cur, h, _⟩
 · simp only [Value.slice.injEq] at h
   exact h.2.2
 · simp only [Value.slice.injEq] at h
   cases h.1
theorem Ow.grown {α : Type} {enc : α → List Value} {sz : Nat} {e : TypeId} {base B : Nat} {w w0 w1 : World} {v : Value} {l : List α} (f : Ow enc sz e base w v l) (h : Below B w0 w) (hg : w.grownBy w1 v.ownBlock) (hB : B ≤ base) (hw : B ≤ w.heap.size) : Below B w0 w1 :=
 h.grown hg hw (fun k hk => Nat.le_trans hB (f.own.lt k hk).1)
theorem Ow.blk {α : Type} {enc : α → List Value} {f : α → Value} {e : TypeId} {base : Nat} {w : World} {v : Value} {l : List α} (h : Ow enc 1 e base w v l) (hf : ∀ x, enc x = [f x]) (hn : l ≠ []) :
 ∃ g c tl, v = .slice (some ⟨g, 0, Option.none⟩) l.length c ∧ base ≤ g ∧ l.length ≤ c ∧ Blk w g (l.map f ++ tl) e := by
 rcases h.own.2 with ⟨rfl, h0⟩ | ⟨g, cap, cur, rfl, hg, hh, h1, h2, h3, h4⟩
 · exact absurd (List.eq_nil_of_length_eq_zero h0) hn
 · refine ⟨g, cap, cur.toList.drop (l.length * 1), rfl, hg, h1, ⟨?_⟩⟩
   have hfl : l.flatMap enc = l.map f := by
    clear h h1 h4 hn
    induction l with
    | nil => rfl
    | cons y m ih => rw [List.flatMap_cons, ih, hf]; rfl
   rw [← hfl, ← h4, List.take_append_drop]
   exact hh
end Go.Proofs.YtdapbegadhcpcaaGreatDoorL
