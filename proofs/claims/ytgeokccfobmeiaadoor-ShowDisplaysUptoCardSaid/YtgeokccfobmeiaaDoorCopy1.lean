/- tandemlaw00.CopyAll: data in new memory. -/
import Derived.Test.YtgeokccfobmeiaaDoorShow9
import Derived.Deep.AppendLies
namespace Go.Proofs.YtgeokccfobmeiaaDoor
open Go.RowKit Go.Proofs.YtgeokccfobmeiaaDoorL Go.Proofs.YtgeokccfobmeiaaDoorM
set_option linter.unusedVariables false
set_option linter.unusedSimpArgs false
/-- append of one element: besides, where the row then lies -/
theorem ev_append1 {α : Type} {enc : α → List Value} {sz : Nat} {e : TypeId} {base : Nat} {v : Value} {l : List α} {P : Program} {ops : Array Oper} {Q : Exit → Act → World → Prop} {a : Act} {w : World} {rest : List Oper} (N : Tmp) {s y : Operand} {t ty : TypeId} {ps : String} {af : Array Edge}
    (ht : P.underlying t = some (.slice e)) {z : Value} {bytes : Nat} (hi : (P.info? e).map (fun i => (i.zero, i.size, i.bytes)) = some (some z, sz, bytes)) (hz : z.cells.size = sz) (hsz : 0 < sz)
    (hs : a.eval s = v) (f : Ow enc sz e base w v l) (x : α) {g c : Nat} (hy : a.eval y = .slice (some ⟨g, 0, none⟩) 1 c) (B : Blk w g (enc x) e) (hen : (enc x).length = sz) (h1 : ∀ u ∈ enc x, u.oneCell' = true)
    (hb : (l.length + 1) * bytes ≤ 140737488355328) (hm : l.length + 1 ≤ maxLen) (hbase : base ≤ w.heap.size)
    (h : ∀ v' w1, Ow enc sz e base w1 v' (l ++ [x]) → w.grownBy w1 v.ownBlock → (∀ k, v'.ownBlock = some k → v.ownBlock = some k ∨ k = w.heap.size) → wpList P ops Q rest (a.put (some N) v') w1) :
    wpList P ops Q ({ dst := some N, op := .call { callee := .builtin .append, args := #[s, y], argTypes := #[t, t] }, type := ty, pos := ps, after := af, guard := none } :: rest) a w := by
  obtain ⟨i0, hi0, hz0, hz1, hz2⟩ := info_parts hi
  refine wpList_append_lies (P := P) w rfl s y t rfl base e i0 z sz bytes ht hi0 hz0 hz1 hz2 hz hsz v l.length (l.flatMap enc) hs f.own ⟨g, 0, none⟩ 1 c (enc x) hy (by rw [hen]; omega) (fun j u hu => ?_) h1 (by omega) hm hb hbase w.heap.size rfl ?_
  · rw [Addr.add_lit, B.cells]
    simpa using hu
  · intro g' cap w' hown hg hor hlt
    refine h _ w' ⟨?_⟩ hg ?_
    · rw [List.length_append, List.length_singleton, List.flatMap_append]
      simpa using hown
    · intro k hk
      simp only [Value.ownBlock, Option.some.injEq] at hk
      subst hk
      exact hor
def addrBlock : Option Addr → List Nat
  | none => []
  | some a => [a.block]
mutual
/-- the blocks where a datum's lists lie -/
def footD : LD → List Nat
  | .mk _ _ _ A _ mag _ Ai _ items Ar _ rest => (if mag.length = 0 then [] else addrBlock A) ++ ((if items.length = 0 then [] else addrBlock Ai) ++ ((if rest.length = 0 then [] else addrBlock Ar) ++ (footAll items ++ footAll rest)))
def footAll : List LD → List Nat
  | [] => []
  | x :: l => footD x ++ footAll l
end
theorem foot_mem {x : LD} {b : Nat} (hb : b ∈ footD x) : ∀ {l : List LD}, x ∈ l → b ∈ footAll l
  | y :: l, h => by
    rw [footAll]
    rcases List.mem_cons.1 h with rfl | h
    · exact List.mem_append_left _ hb
    · exact List.mem_append_right _ (foot_mem hb h)
theorem mem_foot {b : Nat} : ∀ {l : List LD}, b ∈ footAll l → ∃ x ∈ l, b ∈ footD x
  | [], h => by simp [footAll] at h
  | y :: l, h => by
    rw [footAll] at h
    rcases List.mem_append.1 h with h | h
    · exact ⟨y, List.mem_cons_self .., h⟩
    · obtain ⟨x, hx, hb⟩ := mem_foot h
      exact ⟨x, List.mem_cons_of_mem _ hx, hb⟩
theorem Rd.keep {α : Type} {enc : α → List Value} {sz : Nat} {w w1 : World} {A : Option Addr} {l : List α} (f : Rd enc sz w A l) (h : l.length ≠ 0 → ∀ b ∈ addrBlock A, w1.heap[b]? = w.heap[b]?) : Rd enc sz w1 A l :=
  ⟨fun hn => by
    obtain ⟨b, off, rfl, hh⟩ := f.at_ hn
    have hk := h (fun e => hn (List.eq_nil_of_length_eq_zero e)) b (by simp [addrBlock])
    exact ⟨b, off, rfl, fun i x hx j v hv => (World.cell?_of_block (w := w) hk).trans (hh i x hx j v hv)⟩⟩
theorem Good.keep {w w1 : World} {x : LD} (h : Good w x) : (∀ b ∈ footD x, w1.heap[b]? = w.heap[b]?) → Good w1 x := by
  induction h with
  | mk hn1 hn2 lim ri li ni rr lr nr gi gr ihi ihr =>
    intro hk
    refine .mk hn1 hn2 ⟨Rd.keep lim.rd (fun hl b hb => hk b ?_), lim.lt, lim.cap, lim.none, lim.max⟩ (Rd.keep ri (fun hl b hb => hk b ?_)) li ni (Rd.keep rr (fun hl b hb => hk b ?_)) lr nr (fun x hx => ihi x hx (fun b hb => hk b ?_)) (fun x hx => ihr x hx (fun b hb => hk b ?_))
    · rw [footD, if_neg hl]; exact List.mem_append_left _ hb
    · rw [footD, if_neg hl]; exact List.mem_append_right _ (List.mem_append_left _ hb)
    · rw [footD, if_neg hl]; exact List.mem_append_right _ (List.mem_append_right _ (List.mem_append_left _ hb))
    · rw [footD]; exact List.mem_append_right _ (List.mem_append_right _ (List.mem_append_right _ (List.mem_append_left _ (foot_mem hb hx))))
    · rw [footD]; exact List.mem_append_right _ (List.mem_append_right _ (List.mem_append_right _ (List.mem_append_right _ (foot_mem hb hx))))
/-- y is as x, but for the places -/
structure SameD (y x : LD) : Prop where
  text : ∀ q, showL q y = showL q x
  wt : wtD y = wtD x
structure SameAll (m l : List LD) : Prop where
  text : ∀ q, showAll q m = showAll q l
  wt : wtAll m = wtAll l
  len : m.length = l.length
/-- what the copy of a list of data is -/
structure CopyOf (base : Nat) (w : World) (m l : List LD) : Prop where
  good : ∀ y ∈ m, Good w y
  foot : ∀ b ∈ footAll m, base ≤ b
  same : SameAll m l
def CopyOK (w : World) (x : LD) : Prop := ∀ w', Below w.heap.size w w' → Calls Tryd.prog 7 #[.agg (encD x).toArray] w' (Gives w' fun v w2 => ∃ y, v = .agg (encD y).toArray ∧ Good w2 y ∧ (∀ b ∈ footD y, w'.heap.size ≤ b) ∧ SameD y x)
end Go.Proofs.YtgeokccfobmeiaaDoor
