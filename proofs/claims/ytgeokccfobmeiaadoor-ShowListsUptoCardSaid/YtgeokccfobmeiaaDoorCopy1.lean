/- tandemlaw00.CopyAll: data in new memory. -/
import Derived.Test.YtgeokccfobmeiaaDoorShow9
import Derived.Test.YtgeokccfobmeiaaDoorKeep
namespace Go.Proofs.YtgeokccfobmeiaaDoor
open Go.RowKit Go.Proofs.YtgeokccfobmeiaaDoorL Go.Proofs.YtgeokccfobmeiaaDoorM
set_option linter.unusedVariables false
set_option linter.unusedSimpArgs false
mutual
/-- the blocks where a datum's lists lie -/
def footD : LD → List Nat
  | .mk _ _ _ A _ mag _ Ai _ items Ar _ rest => (if mag.length = 0 then [] else addrBlock A) ++ ((if items.length = 0 then [] else addrBlock Ai) ++ ((if rest.length = 0 then [] else addrBlock Ar) ++ (footAll items ++ footAll rest)))
def footAll : List LD → List Nat
  | [] => []
  | x :: l => footD x ++ footAll l
end
theorem foot_mem {x : LD} {b : Nat} (hb : b ∈ footD x) : ∀ {l : List LD}, x ∈ l → b ∈ footAll l
  | y :: l, h => by
    rw [footAll]
    rcases List.mem_cons.1 h with rfl | h
    · exact List.mem_append_left _ hb
    · exact List.mem_append_right _ (foot_mem hb h)
theorem mem_foot {b : Nat} : ∀ {l : List LD}, b ∈ footAll l → ∃ x ∈ l, b ∈ footD x
  | [], h => by simp [footAll] at h
  | y :: l, h => by
    rw [footAll] at h
    rcases List.mem_append.1 h with h | h
    · exact ⟨y, List.mem_cons_self .., h⟩
    · obtain ⟨x, hx, hb⟩ := mem_foot h
      exact ⟨x, List.mem_cons_of_mem _ hx, hb⟩
theorem Good.keep {w w1 : World} {x : LD} (h : Good w x) : (∀ b ∈ footD x, w1.heap[b]? = w.heap[b]?) → Good w1 x := by
  induction h with
  | mk hn1 hn2 lim ri li ni rr lr nr gi gr ihi ihr =>
    intro hk
    refine .mk hn1 hn2 ⟨Rd.keep lim.rd (fun hl b hb => hk b ?_), lim.lt, lim.cap, lim.none, lim.max⟩ (Rd.keep ri (fun hl b hb => hk b ?_)) li ni (Rd.keep rr (fun hl b hb => hk b ?_)) lr nr (fun x hx => ihi x hx (fun b hb => hk b ?_)) (fun x hx => ihr x hx (fun b hb => hk b ?_))
    · rw [footD, if_neg hl]; exact List.mem_append_left _ hb
    · rw [footD, if_neg hl]; exact List.mem_append_right _ (List.mem_append_left _ hb)
    · rw [footD, if_neg hl]; exact List.mem_append_right _ (List.mem_append_right _ (List.mem_append_left _ hb))
    · rw [footD]; exact List.mem_append_right _ (List.mem_append_right _ (List.mem_append_right _ (List.mem_append_left _ (foot_mem hb hx))))
    · rw [footD]; exact List.mem_append_right _ (List.mem_append_right _ (List.mem_append_right _ (List.mem_append_right _ (foot_mem hb hx))))
/-- y is as x, but for the places -/
structure SameD (y x : LD) : Prop where
  text : ∀ q, showL q y = showL q x
  wt : wtD y = wtD x
structure SameAll (m l : List LD) : Prop where
  text : ∀ q, showAll q m = showAll q l
  wt : wtAll m = wtAll l
  len : m.length = l.length
/-- what the copy of a list of data is -/
structure CopyOf (base : Nat) (w : World) (m l : List LD) : Prop where
  good : ∀ y ∈ m, Good w y
  foot : ∀ b ∈ footAll m, base ≤ b
  same : SameAll m l
def CopyOK (w : World) (x : LD) : Prop := ∀ w', Below w.heap.size w w' → Calls Tryd.prog 7 #[.agg (encD x).toArray] w' (Gives w' fun v w2 => ∃ y, v = .agg (encD y).toArray ∧ Good w2 y ∧ (∀ b ∈ footD y, w'.heap.size ≤ b) ∧ SameD y x)
end Go.Proofs.YtgeokccfobmeiaaDoor
