/- Facts on blocks of memory, and rules for operations that make memory, for walks whose worlds are variables. -/
import Derived.WalkKit
import Derived.Below
import Derived.Deep.DeepMust
import Derived.Laws.AppendOwn
import Derived.Laws.MakeOwn
import Derived.Laws.AppendOwnNone
import Derived.OwnWalk
namespace Go.Proofs.YtigoofeodbbbhaaDoorL
open Go.RowKit
set_option linter.unusedVariables false
set_option linter.unusedSimpArgs false
/-- a fact kept from the walk -/
structure As (p : Prop) : Prop where
  out : p
/-- block g holds just the cells cs -/
structure Blk (w : World) (g : Nat) (cs : List Value) (t : TypeId) : Prop where
  h : w.heap[g]? = some (.cells cs.toArray t (0, 0))
theorem Blk.lt {w : World} {g : Nat} {cs : List Value} {t : TypeId} (f : Blk w g cs t) : g < w.heap.size := (Array.getElem?_eq_some_iff.1 f.h).1
theorem Blk.below {w w1 : World} {g : Nat} {cs : List Value} {t : TypeId} (f : Blk w g cs t) (hb : Below w.heap.size w w1) : Blk w1 g cs t := ⟨(hb.block g f.lt).trans f.h⟩
theorem Blk.cells {w : World} {g : Nat} {cs : List Value} {t : TypeId} (f : Blk w g cs t) : ∀ i, w.cell? ⟨g, i, none⟩ = cs[i]? := fun i => by
  simp [World.cell?, f.h]
theorem Blk.free {w : World} {g : Nat} {cs : List Value} {t : TypeId} (f : Blk w g cs t) : ∀ i, w.frozen? ⟨g, i, none⟩ = false := fun i => by
  simp [World.frozen?, f.h]
/-- two steps -/
theorem bthen {w W w1 : World} (h : Below w.heap.size w W) (k : Below W.heap.size W w1) : Below w.heap.size w w1 := h.trans (k.mono h.size)
theorem ev {P : Program} {ops : Array Oper} {Q : Exit → Act → World → Prop} {a : Act} {w w1 : World} {rest : List Oper} {o : Oper} {v : Value}
    (hw : Region.wanted o (yielded ops a.tmps) = true) (hrun : (execOp a.eval o).run P w = .ok (.value v) w1) (h : wpList P ops Q rest (a.put o.dst v) w1) :
    wpList P ops Q (o :: rest) a w := by
  unfold wpList
  rw [if_pos hw]
  refine .inl ?_
  unfold Oper.wp
  rw [hrun]
  exact h
theorem ev_box {P : Program} {ops : Array Oper} {Q : Exit → Act → World → Prop} {a : Act} {w : World} {rest : List Oper} (N : Tmp) {m : Operand} {t ty : TypeId} {ps : String} {af : Array Edge} {gd : Option (Nat × Bool)}
    (hw : Region.wanted { dst := some N, op := .box t m, type := ty, pos := ps, after := af, guard := gd } (yielded ops a.tmps) = true) {cs : List Value} (hx : (a.eval m).cells = cs.toArray)
    (h : ∀ g w1, Below w.heap.size w w1 → Blk w1 g cs t → w.heap.size ≤ g → wpList P ops Q rest (a.put (some N) (.pointer (some ⟨g, 0, none⟩))) w1) :
    wpList P ops Q ({ dst := some N, op := .box t m, type := ty, pos := ps, after := af, guard := gd } :: rest) a w := by
  refine ev (v := .pointer (some ⟨w.heap.size, 0, none⟩)) (w1 := w.alloc (.cells cs.toArray t)) hw ?_ ?_
  · simp only [execOp, Instr.box, newVar, newRow, hx]
    rfl
  · exact h _ _ ((Below.refl _ _).alloc (Nat.le_refl _) _) ⟨heap_alloc_new w _⟩ (Nat.le_refl _)
theorem evs {P : Program} {ops : Array Oper} {Q : Exit → Act → World → Prop} {a : Act} {w w1 : World} {rest : List Oper} {o : Oper}
    (hw : Region.wanted o (yielded ops a.tmps) = true) (hrun : (execOp a.eval o).run P w = .ok .skip w1) (h : wpList P ops Q rest (a.put o.dst undef) w1) :
    wpList P ops Q (o :: rest) a w := by
  unfold wpList
  rw [if_pos hw]
  refine .inl ?_
  unfold Oper.wp
  rw [hrun]
  exact h
/-- only block g may have changed -/
structure Only (g : Nat) (w w1 : World) : Prop where
  os : w1.os = w.os
  tape : w1.tape = w.tape
  output : w1.output = w.output
  size : w1.heap.size = w.heap.size
  block : ∀ k, k ≠ g → w1.heap[k]? = w.heap[k]?
theorem Only.below {g B : Nat} {w w1 : World} (h : Only g w w1) (hB : B ≤ g) : Below B w w1 :=
  ⟨h.os, h.tape, h.output, Nat.le_of_eq h.size.symm, fun k hk => h.block k (by omega)⟩
theorem Blk.only {w w1 : World} {g k : Nat} {cs : List Value} {t : TypeId} (f : Blk w k cs t) (h : Only g w w1) (hne : k ≠ g) : Blk w1 k cs t := ⟨(h.block k hne).trans f.h⟩
theorem only_setRow (w : World) (g : Nat) (cs : Array Value) : Only g w (w.setRow g cs) :=
  ⟨rfl, rfl, rfl, by simp [World.setRow], fun k hk => setRow_other w g k _ hk⟩
theorem ev_alloc {P : Program} {ops : Array Oper} {Q : Exit → Act → World → Prop} {a : Act} {w : World} {rest : List Oper} (N : Tmp) {t ty : TypeId} {ps : String} {af : Array Edge} {gd : Option (Nat × Bool)}
    (hw : Region.wanted { dst := some N, op := .alloc t, type := ty, pos := ps, after := af, guard := gd } (yielded ops a.tmps) = true) {z : Value} {k b : Nat} (hi : (P.info? t).map (fun i => (i.zero, i.size, i.bytes)) = some (some z, k, b))
    {cs : List Value} (hz : z.cells = cs.toArray)
    (h : ∀ g w1, Below w.heap.size w w1 → Blk w1 g cs t → w.heap.size ≤ g → wpList P ops Q rest (a.put (some N) (.pointer (some ⟨g, 0, none⟩))) w1) :
    wpList P ops Q ({ dst := some N, op := .alloc t, type := ty, pos := ps, after := af, guard := gd } :: rest) a w := by
  refine ev (v := .pointer (some ⟨w.heap.size, 0, none⟩)) (w1 := w.alloc (.cells cs.toArray t)) hw ?_ ?_
  · cases hq : P.info? t with
    | none => rw [hq] at hi; cases hi
    | some i =>
      rw [hq] at hi
      simp only [Option.map_some, Option.some.injEq, Prod.mk.injEq] at hi
      have hz' : (zeroValue t).run P w = .ok z w := by simp [zeroValue, typeInfo, hq, hi.1, go_sem]
      simp only [execOp, Instr.alloc, Sem.run_bind, hz', Result.andThen_ok, newVar, newRow, hz]
      rfl
  · exact h _ _ ((Below.refl _ _).alloc (Nat.le_refl _) _) ⟨heap_alloc_new w _⟩ (Nat.le_refl _)
theorem ev_store {P : Program} {ops : Array Oper} {Q : Exit → Act → World → Prop} {a : Act} {w : World} {rest : List Oper} {t ty : TypeId} {x y : Operand} {ps : String} {af : Array Edge} {gd : Option (Nat × Bool)}
    (hw : Region.wanted { dst := none, op := .store t x y, type := ty, pos := ps, after := af, guard := gd } (yielded ops a.tmps) = true) {g off : Nat} (hx : a.eval x = .pointer (some ⟨g, off, none⟩)) {cs : List Value} {t' : TypeId} (f : Blk w g cs t')
    {news : List Value} (hy : (a.eval y).cells = news.toArray) {z : Option Value} {b : Nat} (hi : (P.info? t).map (fun i => (i.zero, i.size, i.bytes)) = some (z, news.length, b)) (hfit : off + news.length ≤ cs.length) (h1 : ∀ v ∈ news, v.oneCell' = true)
    (h : ∀ w1, Only g w w1 → Blk w1 g (cs.take off ++ news ++ cs.drop (off + news.length)) t' → wpList P ops Q rest a w1) :
    wpList P ops Q ({ dst := none, op := .store t x y, type := ty, pos := ps, after := af, guard := gd } :: rest) a w := by
  have hst := run_storeCells_at P g off t' news 0 cs.toArray w f.h (by simpa using hfit) h1
  simp only [Nat.add_zero] at hst
  refine evs (w1 := w.setRow g (cs.take off ++ news ++ cs.drop (off + news.length)).toArray) hw ?_ ?_
  · cases hq : P.info? t with
    | none => rw [hq] at hi; cases hi
    | some i =>
      rw [hq] at hi
      simp only [Option.map_some, Option.some.injEq, Prod.mk.injEq] at hi
      simp only [execOp, Instr.storeAt, hx, Instr.sureAddr, storeVar, hy, sizeOf, typeInfo]
      simp [hq, hi.2.1, hst, go_sem]
  · exact h _ (only_setRow w g _) ⟨setRow_heap w g cs.toArray _ t' _ f.h⟩
/-- is this the store through slot p? -/
theorem g_store {P : Program} {ops : Array Oper} {Q : Exit → Act → World → Prop} {a : Act} {w : World} {rest : List Oper} (p : Tmp) {t ty : TypeId} {y : Operand} {ps : String} {af : Array Edge} {gd : Option (Nat × Bool)}
    (h : wpList P ops Q ({ dst := none, op := .store t (.tmp p) y, type := ty, pos := ps, after := af, guard := gd } :: rest) a w) :
    wpList P ops Q ({ dst := none, op := .store t (.tmp p) y, type := ty, pos := ps, after := af, guard := gd } :: rest) a w := h
/-- a slice that reads as the values l, each told in sz cells -/
structure Rd {α : Type} (enc : α → List Value) (sz : Nat) (w : World) (A : Option Addr) (l : List α) : Prop where
  at_ : l ≠ [] → ∃ b off, A = some ⟨b, off, none⟩ ∧ ∀ i x, l[i]? = some x → ∀ j v, (enc x)[j]? = some v → w.cell? ⟨b, off + i * sz + j, none⟩ = some v
theorem Rd.below {α : Type} {enc : α → List Value} {sz : Nat} {w w1 : World} {A : Option Addr} {l : List α} (f : Rd enc sz w A l) (hb : Below w.heap.size w w1) : Rd enc sz w1 A l :=
  ⟨fun hn => let ⟨b, off, e, h⟩ := f.at_ hn; ⟨b, off, e, fun i x hx j v hv => (hb.cell (World.block_lt_of_cell? w _ (h i x hx j v hv))).trans (h i x hx j v hv)⟩⟩
theorem Rd.get {α : Type} {enc : α → List Value} {sz : Nat} {w : World} {A : Option Addr} {l : List α} (f : Rd enc sz w A l) : l ≠ [] → ∃ b off, A = some ⟨b, off, none⟩ := fun hn =>
  let ⟨b, off, e, _⟩ := f.at_ hn; ⟨b, off, e⟩
theorem Rd.cell {α : Type} {enc : α → List Value} {sz : Nat} {w : World} {b off : Nat} {l : List α} (f : Rd enc sz w (some ⟨b, off, none⟩) l) (i : Nat) (hi : i < l.length) : ∀ j v, (enc l[i])[j]? = some v → w.cell? ⟨b, off + i * sz + j, none⟩ = some v := by
  obtain ⟨b', off', e, h⟩ := f.at_ (by intro hn; rw [hn] at hi; simp at hi)
  simp only [Option.some.injEq, Addr.mk.injEq, and_true] at e
  obtain ⟨rfl, rfl⟩ := e
  exact h i _ (List.getElem?_eq_getElem hi)
theorem flat_at {α : Type} (enc : α → List Value) (sz : Nat) (hs : ∀ x, (enc x).length = sz) : ∀ (l : List α) (i : Nat) (x : α), l[i]? = some x → ∀ j v, (enc x)[j]? = some v → (l.flatMap enc)[i * sz + j]? = some v
  | [], i, x, h, _, _, _ => by simp at h
  | y :: l, 0, x, h, j, v, hv => by
    simp only [List.getElem?_cons_zero, Option.some.injEq] at h
    subst h
    have hj : j < (enc y).length := (List.getElem?_eq_some_iff.1 hv).1
    rw [Nat.zero_mul, Nat.zero_add, List.flatMap_cons, List.getElem?_append_left hj]
    exact hv
  | y :: l, i + 1, x, h, j, v, hv => by
    rw [List.getElem?_cons_succ] at h
    have e : (i + 1) * sz + j - (enc y).length = i * sz + j := by rw [hs, Nat.add_mul]; omega
    rw [List.flatMap_cons, List.getElem?_append_right (by rw [hs, Nat.add_mul]; omega), e]
    exact flat_at enc sz hs l i x h j v hv
theorem Blk.rd {α : Type} {enc : α → List Value} {sz : Nat} {w : World} {g : Nat} {cs : List Value} {t : TypeId} {l : List α} (f : Blk w g cs t) (hs : ∀ x, (enc x).length = sz) (h : cs = l.flatMap enc) : Rd enc sz w (some ⟨g, 0, none⟩) l :=
  ⟨fun _ => ⟨g, 0, rfl, fun i x hx j v hv => by
    rw [f.cells, h, Nat.zero_add]
    exact flat_at enc sz hs l i x hx j v hv⟩⟩
theorem Rd.nil {α : Type} (enc : α → List Value) (sz : Nat) (w : World) (A : Option Addr) : Rd enc sz w A [] := ⟨fun h => absurd rfl h⟩
/-- a literal slice, or what else makes one block -/
theorem ev_lit {P : Program} {ops : Array Oper} {Q : Exit → Act → World → Prop} {a : Act} {w : World} {rest : List Oper} (N : Tmp) {op : Op} {ty : TypeId} {ps : String} {af : Array Edge} {gd : Option (Nat × Bool)}
    (hw : Region.wanted { dst := some N, op, type := ty, pos := ps, after := af, guard := gd } (yielded ops a.tmps) = true) {cs : List Value} {t : TypeId} {v : Nat → Value}
    (hrun : (execOp a.eval { dst := some N, op, type := ty, pos := ps, after := af, guard := gd }).run P w = .ok (.value (v w.heap.size)) (w.alloc (.cells cs.toArray t)))
    (h : ∀ g w1, Below w.heap.size w w1 → Blk w1 g cs t → w.heap.size ≤ g → wpList P ops Q rest (a.put (some N) (v g)) w1) :
    wpList P ops Q ({ dst := some N, op, type := ty, pos := ps, after := af, guard := gd } :: rest) a w :=
  ev hw hrun (h _ _ ((Below.refl _ _).alloc (Nat.le_refl _) _) ⟨heap_alloc_new w _⟩ (Nat.le_refl _))
/-- is this the operation whose result goes to slot N? -/
theorem g_dst {P : Program} {ops : Array Oper} {Q : Exit → Act → World → Prop} {a : Act} {w : World} {rest : List Oper} (N : Tmp) {op : Op} {ty : TypeId} {ps : String} {af : Array Edge} {gd : Option (Nat × Bool)}
    (h : wpList P ops Q ({ dst := some N, op, type := ty, pos := ps, after := af, guard := gd } :: rest) a w) : wpList P ops Q ({ dst := some N, op, type := ty, pos := ps, after := af, guard := gd } :: rest) a w := h
/-- a slice that the call made itself (from block base on), its elements told in cells -/
structure Ow {α : Type} (enc : α → List Value) (sz : Nat) (e : TypeId) (base : Nat) (w : World) (v : Value) (l : List α) : Prop where
  own : w.ownsRow base e sz v l.length (l.flatMap enc)
section
variable {α : Type} {enc : α → List Value} {sz : Nat} {e : TypeId} {base : Nat} {w w1 : World} {v : Value} {l : List α}
theorem Ow.nil (enc : α → List Value) (sz : Nat) (e : TypeId) (base : Nat) (w : World) : Ow enc sz e base w (.slice none 0 0) [] := ⟨World.ownsRow_nil w base e sz⟩
theorem Ow.below (f : Ow enc sz e base w v l) (hb : Below w.heap.size w w1) : Ow enc sz e base w1 v l := by
  obtain ⟨h1, h2⟩ := f.own
  refine ⟨h1, ?_⟩
  rcases h2 with h2 | ⟨g, cap, cur, hv, hg, hh, r⟩
  · exact .inl h2
  · exact .inr ⟨g, cap, cur, hv, hg, (hb.block g (Array.getElem?_eq_some_iff.1 hh).1).trans hh, r⟩
theorem Ow.lower {base' : Nat} (f : Ow enc sz e base w v l) (hb : base' ≤ base) : Ow enc sz e base' w v l := by
  obtain ⟨h1, h2⟩ := f.own
  refine ⟨h1, ?_⟩
  rcases h2 with h2 | ⟨g, cap, cur, hv, hg, r⟩
  · exact .inl h2
  · exact .inr ⟨g, cap, cur, hv, Nat.le_trans hb hg, r⟩
theorem Ow.form (f : Ow enc sz e base w v l) : ∃ A c, v = .slice A l.length c ∧ l.length ≤ c ∧ c ≤ maxLen := by
  rcases f.own.2 with ⟨rfl, h0⟩ | ⟨g, cap, cur, rfl, _, _, hc, hm, _⟩
  · exact ⟨none, 0, by rw [h0], by omega, by simp [maxLen]⟩
  · exact ⟨_, cap, rfl, hc, hm⟩
theorem Ow.rd {A : Option Addr} {n c : Nat} (f : Ow enc sz e base w (.slice A n c) l) (hs : ∀ x, (enc x).length = sz) : Rd enc sz w A l := by
  refine ⟨fun hn => ?_⟩
  rcases f.own.2 with ⟨h, h0⟩ | ⟨g, cap, cur, h, hg, _⟩
  · exact absurd (List.eq_nil_of_length_eq_zero h0) hn
  · simp only [Value.slice.injEq] at h
    obtain ⟨rfl, _, _⟩ := h
    refine ⟨g, 0, rfl, fun i x hx j v hv => ?_⟩
    have := f.own.cells (g := g) rfl (i * sz + j) v (flat_at enc sz hs l i x hx j v hv)
    rw [Addr.add_lit] at this
    simpa [Nat.add_assoc] using this
theorem Ow.len_eq {A : Option Addr} {n c : Nat} (f : Ow enc sz e base w (.slice A n c) l) : n = l.length := by
  obtain ⟨A', c', h, _⟩ := f.form
  simp only [Value.slice.injEq] at h
  exact h.2.1
theorem below_grown {row : Option Nat} {B : Nat} (hg : w.grownBy w1 row) (hB : B ≤ w.heap.size) (hr : ∀ k, row = some k → B ≤ k) : Below B w w1 := (Below.refl B w).grown hg hB hr
/-- append(dst, src...): dst the call's own; src reads as l2 -/
theorem ev_append {P : Program} {ops : Array Oper} {Q : Exit → Act → World → Prop} {a : Act} {rest : List Oper} (N : Tmp) {s x : Operand} {t ty : TypeId} {ps : String} {af : Array Edge} {gd : Option (Nat × Bool)}
    (hw : Region.wanted { dst := some N, op := .call { callee := .builtin .append, args := #[s, x], argTypes := #[t, t] }, type := ty, pos := ps, after := af, guard := gd } (yielded ops a.tmps) = true)
    (ht : P.underlying t = some (.slice e)) {z : Value} {bytes : Nat} (hi : (P.info? e).map (fun i => (i.zero, i.size, i.bytes)) = some (some z, sz, bytes)) (hz : z.cells.size = sz) (hsz : 0 < sz)
    (hs : a.eval s = v) (f : Ow enc sz e base w v l) {A : Option Addr} {n c : Nat} (hx : a.eval x = .slice A n c) {l2 : List α} (hn : l2.length = n) (r : Rd enc sz w A l2) (hen : ∀ x, (enc x).length = sz) (h1 : ∀ x, ∀ u ∈ enc x, u.oneCell' = true)
    (hA : A = none → c = 0) (hb : (l.length + n) * bytes ≤ 140737488355328) (hm : l.length + n ≤ maxLen) (hbase : base ≤ w.heap.size)
    (h : ∀ v' w1, Ow enc sz e base w1 v' (l ++ l2) → w.grownBy w1 v.ownBlock → wpList P ops Q rest (a.put (some N) v') w1) :
    wpList P ops Q ({ dst := some N, op := .call { callee := .builtin .append, args := #[s, x], argTypes := #[t, t] }, type := ty, pos := ps, after := af, guard := gd } :: rest) a w := by
  subst hn
  cases hq : P.info? e with
  | none => rw [hq] at hi; cases hi
  | some i =>
    rw [hq] at hi
    simp only [Option.map_some, Option.some.injEq, Prod.mk.injEq] at hi
    obtain ⟨hz0, hz1, hz2⟩ := hi
    cases A with
    | none =>
      have hl2 : l2 = [] := by
        rcases l2 with _ | ⟨y, l3⟩
        · rfl
        · obtain ⟨b, off, e, _⟩ := r.at_ (by simp)
          cases e
      subst hl2
      obtain rfl := hA rfl
      have hrun := run_append_owned_none (P := P) (w := w) base t ty e i sz ht hq v l.length _ f.own
      refine ev (v := v) (w1 := w) hw ?_ (h v w ?_ ⟨rfl, rfl, rfl, Nat.le_refl _, fun _ _ _ => rfl⟩)
      · simp [execOp, resolve, invoke, builtin, hs, hx, hrun, Result.andThen]
      · rw [List.append_nil]; exact f
    | some ad =>
      obtain ⟨b, off, spot⟩ := ad
      have hcell : ∀ j u, (l2.flatMap enc)[j]? = some u → w.cell? ((⟨b, off, spot⟩ : Addr).add j) = some u := by
        intro j u hj
        have hlen : (l2.flatMap enc).length = l2.length * sz := by
          clear r hx hj h hb hm
          induction l2 with
          | nil => simp
          | cons y l3 ih => rw [List.flatMap_cons, List.length_append, hen, ih, List.length_cons, Nat.add_mul]; omega
        have hj' : j < l2.length * sz := by rw [← hlen]; exact (List.getElem?_eq_some_iff.1 hj).1
        have hn0 : l2 ≠ [] := by intro e; rw [e] at hj'; simp at hj'
        obtain ⟨b', off', e, hh⟩ := r.at_ hn0
        simp only [Option.some.injEq, Addr.mk.injEq] at e
        obtain ⟨rfl, rfl, rfl⟩ := e
        have hdiv : j / sz < l2.length := (Nat.div_lt_iff_lt_mul hsz).2 hj'
        have hmod : j % sz < (enc l2[j / sz]).length := by rw [hen]; exact Nat.mod_lt _ hsz
        have hj2 := flat_at enc sz hen l2 (j / sz) _ (List.getElem?_eq_getElem hdiv) (j % sz) _ (List.getElem?_eq_getElem hmod)
        have hdm : j / sz * sz + j % sz = j := by rw [Nat.mul_comm]; exact Nat.div_add_mod j sz
        rw [hdm, hj] at hj2
        have h3 := hh (j / sz) _ (List.getElem?_eq_getElem hdiv) (j % sz) _ (List.getElem?_eq_getElem hmod)
        rw [Nat.add_assoc, hdm] at h3
        rw [Addr.add_lit, h3]
        exact hj2.symm
      have hlen : (l2.flatMap enc).length = l2.length * sz := by
        clear r hx h hb hm hcell
        induction l2 with
        | nil => simp
        | cons y l3 ih => rw [List.flatMap_cons, List.length_append, hen, ih, List.length_cons, Nat.add_mul]; omega
      obtain ⟨v', w', hr, h2, h3, _⟩ := run_append_own (P := P) w base t ty e i z sz bytes ht hq hz0 hz1 hz2 hz hsz v l.length _ f.own ⟨b, off, spot⟩ l2.length c (l2.flatMap enc) hlen hcell
        (fun u hu => by obtain ⟨y, _, hy⟩ := List.mem_flatMap.1 hu; exact h1 y u hy) hm hb hbase
      refine ev (v := v') (w1 := w') hw ?_ (h v' w' ⟨?_⟩ h3)
      · simp [execOp, resolve, invoke, builtin, hs, hx, hr, Result.andThen]
      · rw [List.length_append, List.flatMap_append]; exact h2
end
/-- the call answers a value of which Q holds; nothing that was there has changed -/
def Gives (w : World) (Q : Value → World → Prop) (e : Ending) (w' : World) : Prop := ∃ v, e = .returned v ∧ Q v w' ∧ Below w.heap.size w w'
theorem Rd.take {α : Type} {enc : α → List Value} {sz : Nat} {w : World} {A : Option Addr} {l : List α} (f : Rd enc sz w A l) (k : Nat) : Rd enc sz w A (l.take k) := by
  refine ⟨fun hn => ?_⟩
  obtain ⟨b, off, e, h⟩ := f.at_ (fun h => hn (by rw [h]; simp))
  refine ⟨b, off, e, fun i x hx => h i x ?_⟩
  rw [List.getElem?_take] at hx
  split at hx
  · exact hx
  · cases hx
/-! worlds that are written out, given a name again -/
theorem Blk.new (w : World) (cs : List Value) (t : TypeId) : Blk (w.alloc (.cells cs.toArray t)) w.heap.size cs t := ⟨heap_alloc_new w _⟩
theorem Blk.set {w : World} {g : Nat} {cs : List Value} {t : TypeId} (f : Blk w g cs t) (i : Nat) (v : Value) : Blk (w.setCell ⟨g, i, none⟩ v) g (cs.set i v) t := by
  refine ⟨?_⟩
  rw [setCell_eq_setRow w g i _ _ _ v f.h, setRow_heap w g _ _ t _ f.h]
  simp
theorem Blk.drew {w : World} {g : Nat} {cs : List Value} {t : TypeId} (f : Blk w g cs t) : Blk w.drew g cs t := ⟨f.h⟩
theorem gen_exit {w W : World} {B : Nat} {g : Nat} {cs : List Value} {t : TypeId} {K : Act → World → Prop} {Q : Exit → Act → World → Prop} {a : Act} (h1 : Below B w W) (h2 : Blk W g cs t)
    (h : ∀ w1, Below B w w1 → Blk w1 g cs t → Exit.then K Q .normal a w1) : Exit.then K Q .normal a W := h W h1 h2
end Go.Proofs.YtigoofeodbbbhaaDoorL
