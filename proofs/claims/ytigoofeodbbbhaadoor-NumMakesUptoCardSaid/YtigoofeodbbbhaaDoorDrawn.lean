/- Short names for the walk of a region that draws its order. -/
import Derived.Test.YtigoofeodbbbhaaDoorNumK
namespace Go.Proofs.YtigoofeodbbbhaaDoor
open Go.RowKit Go.Proofs.YtigoofeodbbbhaaDoorL Go.Proofs.YtigoofeodbbbhaaDoorM
set_option linter.unusedVariables false
set_option linter.unusedSimpArgs false
theorem pA {α : Type} (l : List α) (i : Nat) (a : α) : l.toArray.setIfInBounds i a = (l.set i a).toArray := List.setIfInBounds_toArray ..
theorem pB {α : Type} (x a : α) (xs : List α) : (x :: xs).set 0 a = a :: xs := List.set_cons_zero
theorem pC {α : Type} (x a : α) (xs : List α) (i : Nat) : (x :: xs).set (i + 1) a = x :: xs.set i a := List.set_cons_succ
theorem pD {α : Type} (l : List α) (i : Nat) (h : i < l.toArray.size) : l.toArray[i] = l[i]'(by simpa using h) := List.getElem_toArray ..
theorem pE {α : Type} (x : α) (xs : List α) (h : 0 < (x :: xs).length) : (x :: xs)[0] = x := List.getElem_cons_zero ..
theorem pF {α : Type} (x : α) (xs : List α) (i : Nat) (h : i + 1 < (x :: xs).length) : (x :: xs)[i + 1] = xs[i]'(by simpa using h) := List.getElem_cons_succ ..
theorem gI {P : Program} {ops : Array Oper} {K : Act → World → Prop} {Q : Exit → Act → World → Prop} {E : Prop} {a : Act} {w : World} {o : Oper} (h : if Region.wanted o (yielded ops a.tmps) = true then Oper.wp P o a w K Q else E) : if Region.wanted o (yielded ops a.tmps) = true then Oper.wp P o a w K Q else E := h
theorem gA {P : Program} {md : Region.Mode} {ops : Array Oper} {Q : Exit → Act → World → Prop} {S : World → Prop} {fuel : Nat} {listed : Array Bool} {a : Act} {w : World} {rs : List Nat} (h : AllReadyH P md ops Q S fuel listed a w rs) : AllReadyH P md ops Q S fuel listed a w rs := h
theorem gW {P : Program} {md : Region.Mode} {ops : Array Oper} {Q : Exit → Act → World → Prop} {S : World → Prop} {fuel : Nat} {listed : Array Bool} {a : Act} {w : World} (h : wpAnyH P md ops Q S fuel listed a w) : wpAnyH P md ops Q S fuel listed a w := h
theorem m0 {α : Type} {a : α} {l : List α} : a ∈ a :: l := List.mem_cons_self ..
theorem m1 {α : Type} {a b : α} {l : List α} (h : a ∈ l) : a ∈ b :: l := List.mem_cons_of_mem _ h
theorem tk {P : Program} {ops : Array Oper} {Q : Exit → Act → World → Prop} {md : Region.Mode} {S : World → Prop} {i : Nat} {oi : Oper} {v : Value} {fuel : Nat} {listed : Array Bool} {a : Act} {w : World} (hi : ops[i]? = some oi)
    (h3 : (Region.noSelect ops && (Region.free md ops listed i && (Region.ready md ops listed).contains i)) = true) (hw : Region.wanted oi (yielded ops a.tmps) = true) (hy : ∀ w, S w → (execOp a.eval oi).run P w = .ok (.value v) w) (hS : S w)
    (h : wpAnyH P md ops (NoPanic Q) S fuel (listed.setIfInBounds i true) (a.put oi.dst v) w) : wpAnyH P md ops (NoPanic Q) S (fuel + 1) listed a w := by
  simp only [Bool.and_eq_true] at h3
  exact wpAnyH_take hi h3.1 h3.2.1 h3.2.2 (fun _ _ _ h => h) (.inl ⟨hw, hy⟩) hS h
theorem tn {P : Program} {ops : Array Oper} {Q : Exit → Act → World → Prop} {md : Region.Mode} {S : World → Prop} {i : Nat} {oi : Oper} {fuel : Nat} {listed : Array Bool} {a : Act} {w : World} (hi : ops[i]? = some oi)
    (h3 : (Region.noSelect ops && (Region.free md ops listed i && (Region.ready md ops listed).contains i)) = true) (hw : Region.wanted oi (yielded ops a.tmps) = false) (hS : S w)
    (h : wpAnyH P md ops (NoPanic Q) S fuel (listed.setIfInBounds i true) (a.put oi.dst undef) w) : wpAnyH P md ops (NoPanic Q) S (fuel + 1) listed a w := by
  simp only [Bool.and_eq_true] at h3
  exact wpAnyH_take hi h3.1 h3.2.1 h3.2.2 (fun _ _ _ h => h) (.inr ⟨hw, rfl⟩) hS h
theorem ner {w w' : World} {A : Option Addr} {g : Nat} {cs : List Value} {t : TypeId} (hf : ∀ k ∈ addrBlock A, w.heap.size ≤ k ∧ k < w'.heap.size) (B : Blk w g cs t) : ∀ k ∈ addrBlock A, k ≠ g := fun k hk e => by
  have h1 := (hf k hk).1
  have h2 := B.lt
  omega
theorem nal {w : World} {A : Option Addr} {g : Nat} (hf : ∀ k ∈ addrBlock A, k < w.heap.size) (hg : w.heap.size ≤ g) : ∀ k ∈ addrBlock A, k ≠ g := fun k hk e => by
  have h1 := hf k hk
  omega
theorem nbx {w : World} {g k : Nat} {cs : List Value} {t : TypeId} (B : Blk w k cs t) (hg : w.heap.size ≤ g) : g ≠ k := fun e => by
  have h1 := B.lt
  omega
theorem ltf {w w' : World} {A : Option Addr} (hf : ∀ k ∈ addrBlock A, w.heap.size ≤ k ∧ k < w'.heap.size) : ∀ k ∈ addrBlock A, k < w'.heap.size := fun k hk => (hf k hk).2
theorem lte {w w1 : World} {A : Option Addr} (hf : ∀ k ∈ addrBlock A, k < w.heap.size) (hb : Below w.heap.size w w1) : ∀ k ∈ addrBlock A, k < w1.heap.size := fun k hk => Nat.lt_of_lt_of_le (hf k hk) hb.size
theorem lto {w w1 : World} {A : Option Addr} {g : Nat} (hf : ∀ k ∈ addrBlock A, k < w.heap.size) (ho : Only g w w1) : ∀ k ∈ addrBlock A, k < w1.heap.size := fun k hk => Nat.lt_of_lt_of_eq (hf k hk) ho.size.symm
theorem st2 {w : World} {g : Nat} {a b c d : Value} {t : TypeId} (B : Blk w g ([a, b].take 0 ++ [c, d] ++ [a, b].drop (0 + [c, d].length)) t) : Blk w g [c, d] t := B
end Go.Proofs.YtigoofeodbbbhaaDoor
