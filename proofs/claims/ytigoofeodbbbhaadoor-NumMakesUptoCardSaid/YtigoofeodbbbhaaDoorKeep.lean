/- Appending one element: where the row then lies; what another block's change leaves. -/
import Derived.Test.YtigoofeodbbbhaaDoorLib3
import Derived.Deep.AppendLies
namespace Go.Proofs.YtigoofeodbbbhaaDoor
open Go.RowKit Go.Proofs.YtigoofeodbbbhaaDoorL
set_option linter.unusedVariables false
set_option linter.unusedSimpArgs false
/-- append of one element: besides, where the row then lies -/
theorem ev_append1 {α : Type} {enc : α → List Value} {sz : Nat} {e : TypeId} {base : Nat} {v : Value} {l : List α} {P : Program} {ops : Array Oper} {Q : Exit → Act → World → Prop} {a : Act} {w : World} {rest : List Oper} (N : Tmp) {s y : Operand} {t ty : TypeId} {ps : String} {af : Array Edge}
    (ht : P.underlying t = some (.slice e)) {z : Value} {bytes : Nat} (hi : (P.info? e).map (fun i => (i.zero, i.size, i.bytes)) = some (some z, sz, bytes)) (hz : z.cells.size = sz) (hsz : 0 < sz)
    (hs : a.eval s = v) (f : Ow enc sz e base w v l) (x : α) {g c : Nat} (hy : a.eval y = .slice (some ⟨g, 0, none⟩) 1 c) (B : Blk w g (enc x) e) (hen : (enc x).length = sz) (h1 : ∀ u ∈ enc x, u.oneCell' = true)
    (hb : (l.length + 1) * bytes ≤ 140737488355328) (hm : l.length + 1 ≤ maxLen) (hbase : base ≤ w.heap.size)
    (h : ∀ v' w1, Ow enc sz e base w1 v' (l ++ [x]) → w.grownBy w1 v.ownBlock → (∀ k, v'.ownBlock = some k → v.ownBlock = some k ∨ k = w.heap.size) → wpList P ops Q rest (a.put (some N) v') w1) :
    wpList P ops Q ({ dst := some N, op := .call { callee := .builtin .append, args := #[s, y], argTypes := #[t, t] }, type := ty, pos := ps, after := af, guard := none } :: rest) a w := by
  obtain ⟨i0, hi0, hz0, hz1, hz2⟩ := info_parts hi
  refine wpList_append_lies (P := P) w rfl s y t rfl base e i0 z sz bytes ht hi0 hz0 hz1 hz2 hz hsz v l.length (l.flatMap enc) hs f.own ⟨g, 0, none⟩ 1 c (enc x) hy (by rw [hen]; omega) (fun j u hu => ?_) h1 (by omega) hm hb hbase w.heap.size rfl ?_
  · rw [Addr.add_lit, B.cells]
    simpa using hu
  · intro g' cap w' hown hg hor hlt
    refine h _ w' ⟨?_⟩ hg ?_
    · rw [List.length_append, List.length_singleton, List.flatMap_append]
      simpa using hown
    · intro k hk
      simp only [Value.ownBlock, Option.some.injEq] at hk
      subst hk
      exact hor
def addrBlock : Option Addr → List Nat
  | none => []
  | some a => [a.block]
theorem Rd.keep {α : Type} {enc : α → List Value} {sz : Nat} {w w1 : World} {A : Option Addr} {l : List α} (f : Rd enc sz w A l) (h : l.length ≠ 0 → ∀ b ∈ addrBlock A, w1.heap[b]? = w.heap[b]?) : Rd enc sz w1 A l :=
  ⟨fun hn => by
    obtain ⟨b, off, rfl, hh⟩ := f.at_ hn
    have hk := h (fun e => hn (List.eq_nil_of_length_eq_zero e)) b (by simp [addrBlock])
    exact ⟨b, off, rfl, fun i x hx j v hv => (World.cell?_of_block (w := w) hk).trans (hh i x hx j v hv)⟩⟩
theorem own_block_ge {α : Type} {enc : α → List Value} {sz : Nat} {e : TypeId} {base n c : Nat} {w : World} {A : Option Addr} {l : List α} (f : Ow enc sz e base w (.slice A n c) l) : ∀ b ∈ addrBlock A, base ≤ b := by
  intro b hb
  rcases f.own.2 with ⟨h, _⟩ | ⟨g, cap, cur, h, hg, _⟩
  · simp only [Value.slice.injEq] at h
    rw [h.1] at hb; cases hb
  · simp only [Value.slice.injEq] at h
    rw [h.1] at hb
    simp only [addrBlock, List.mem_singleton] at hb
    omega
end Go.Proofs.YtigoofeodbbbhaaDoor
