/- Lists that are made at their full length and set place by place: rules for make and for stores into them. -/
import Derived.Laws.OwnMore
import Derived.Test.YtigoofeodbbbhaaDoorLib
namespace Go.Proofs.YtigoofeodbbbhaaDoorL
open Go.RowKit
set_option linter.unusedVariables false
set_option linter.unusedSimpArgs false
theorem madeCells_one (z : Value) (n : Nat) : madeCells #[z] n = (List.replicate n z).toArray := by
  apply Array.ext
  · simp [madeCells]
  · intro i h1 h2
    simp [madeCells, Nat.mod_one]
/-- make(t, n), its elements of one cell -/
theorem ev_make {P : Program} {ops : Array Oper} {Q : Exit → Act → World → Prop} {a : Act} {w : World} {rest : List Oper} (N : Tmp) {t e ty : TypeId} {x y : Operand} {ps : String} {af : Array Edge} {gd : Option (Nat × Bool)}
    (hw : Region.wanted { dst := some N, op := .makeSlice t x y, type := ty, pos := ps, after := af, guard := gd } (yielded ops a.tmps) = true) (ht : P.underlying t = some (.slice e)) {z : Value} {bytes : Nat}
    (hi : (P.info? e).map (fun i => (i.zero, i.size, i.bytes)) = some (some z, 1, bytes)) (hz : z.cells = #[z]) {kl kc : IntKind} {n : Nat} (hl : a.eval x = .int kl (n : Int)) (hc : a.eval y = .int kc (n : Int))
    (hb : n * bytes ≤ 281474976710656) (hm : n ≤ 9223372036854775807)
    (h : ∀ g w1, Below w.heap.size w w1 → Blk w1 g (List.replicate n z) e → w.heap.size ≤ g → wpList P ops Q rest (a.put (some N) (.slice (some ⟨g, 0, none⟩) n n)) w1) :
    wpList P ops Q ({ dst := some N, op := .makeSlice t x y, type := ty, pos := ps, after := af, guard := gd } :: rest) a w := by
  cases hq : P.info? e with
  | none => rw [hq] at hi; cases hi
  | some i =>
    rw [hq] at hi
    simp only [Option.map_some, Option.some.injEq, Prod.mk.injEq] at hi
    obtain ⟨hz0, hz1, hz2⟩ := hi
    have hb' : (i.bytes : Int) * (n : Int) ≤ 281474976710656 := by
      rw [hz2]
      have h2 : ((n * bytes : Nat) : Int) ≤ ((281474976710656 : Nat) : Int) := Int.ofNat_le.2 hb
      rw [Int.natCast_mul] at h2
      rw [Int.mul_comm]; exact h2
    have hr := run_make (P := P) w t e i z ht hq hz0 kl kc n n (by omega) (by omega) hb' (by omega)
    rw [hz, hz1, Nat.mul_one, Int.toNat_natCast, madeCells_one] at hr
    exact ev_lit (v := fun g => .slice (some ⟨g, 0, none⟩) n n) N hw (by simp only [execOp, hl, hc, hr, Sem.run_bind, Result.andThen_ok]; rfl) h
/-- a store of one cell into a list of one-celled elements -/
theorem ev_set {α : Type} {P : Program} {ops : Array Oper} {Q : Exit → Act → World → Prop} {a : Act} {w : World} {rest : List Oper} {t ty : TypeId} {x y : Operand} {ps : String} {af : Array Edge} {gd : Option (Nat × Bool)}
    (hw : Region.wanted { dst := none, op := .store t x y, type := ty, pos := ps, after := af, guard := gd } (yielded ops a.tmps) = true) {g i : Nat} (hx : a.eval x = .pointer (some ⟨g, i, none⟩)) {f : α → Value} {l : List α} {t' : TypeId} (B : Blk w g (l.map f) t')
    {u : α} (hy : (a.eval y).cells = #[f u]) {z : Option Value} {b : Nat} (hi : (P.info? t).map (fun i => (i.zero, i.size, i.bytes)) = some (z, 1, b)) (hlt : i < l.length) (h1 : (f u).oneCell' = true)
    (h : ∀ w1, Only g w w1 → Blk w1 g ((l.set i u).map f) t' → wpList P ops Q rest a w1) :
    wpList P ops Q ({ dst := none, op := .store t x y, type := ty, pos := ps, after := af, guard := gd } :: rest) a w := by
  refine ev_store hw hx B (news := [f u]) (by rw [hy]) hi (by simp; omega) (by simpa using h1) ?_
  intro w1 ho hB
  refine h w1 ho ?_
  have e : (l.map f).take i ++ [f u] ++ (l.map f).drop (i + [f u].length) = (l.set i u).map f := by
    rw [List.map_set, List.set_eq_take_append_cons_drop]
    simp [hlt]
  rwa [e] at hB
/-- such a list, or its beginning, is the call's own -/
theorem Blk.ow {α : Type} {enc : α → List Value} {f : α → Value} {w : World} {g base : Nat} {l : List α} {e : TypeId} (B : Blk w g (l.map f) e) (hf : ∀ x, enc x = [f x]) (hg : base ≤ g) (hm : l.length ≤ maxLen) (k : Nat) (hk : k ≤ l.length) :
    Ow enc 1 e base w (.slice (some ⟨g, 0, none⟩) k l.length) (l.take k) := by
  have hfl : ∀ m : List α, m.flatMap enc = m.map f := fun m => by
    induction m with
    | nil => rfl
    | cons y m ih => rw [List.flatMap_cons, ih, hf]; rfl
  have hlen : (l.take k).length = k := by rw [List.length_take]; omega
  refine ⟨⟨by rw [hfl]; simp, .inr ⟨g, l.length, (l.map f).toArray, ?_, hg, B.h, by omega, hm, by simp, ?_⟩⟩⟩
  · rw [hlen]
  · rw [hfl, hlen]; simp [List.map_take]
theorem Blk.rdm {α : Type} {enc : α → List Value} {f : α → Value} {w : World} {g : Nat} {l : List α} {e : TypeId} (B : Blk w g (l.map f) e) (hf : ∀ x, enc x = [f x]) : Rd enc 1 w (some ⟨g, 0, none⟩) l :=
  B.rd (fun x => by rw [hf]; rfl) (by
    clear B
    induction l with
    | nil => rfl
    | cons y m ih => rw [List.flatMap_cons, ← ih, hf]; rfl)
end Go.Proofs.YtigoofeodbbbhaaDoorL
