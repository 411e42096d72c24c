/- Copies of lists of lists of limbs. -/
import Derived.Test.YtbdcjlikjpdhfaaDoorAwake1
import Derived.Test.YtbdcjlikjpdhfaaDoorKeep
namespace Go.Proofs.YtbdcjlikjpdhfaaDoor
open Go.RowKit Go.Proofs.YtbdcjlikjpdhfaaDoorL Go.Proofs.YtbdcjlikjpdhfaaDoorM
set_option linter.unusedVariables false
set_option linter.unusedSimpArgs false
theorem infoLL : (Tryd.prog.info? 22).map (fun i => (i.zero, i.size, i.bytes)) = some (some (.slice none 0 0), 1, 24) := by kernel_rfl
/-- what the copy of a list of lists is -/
structure CopyS (base : Nat) (w : World) (m l : List Sl) : Prop where
  len : m.length = l.length
  same : ∀ i (h : i < m.length) (h2 : i < l.length), m[i].l = l[i].l
  good : ∀ y ∈ m, y.Good w
  foot : ∀ y ∈ m, ∀ b ∈ addrBlock y.A, base ≤ b ∧ b < w.heap.size
theorem CopyS.ls {base : Nat} {w : World} {m l : List Sl} (h : CopyS base w m l) : m.map Sl.l = l.map Sl.l := by
  apply List.ext_getElem
  · simp [h.len]
  · intro i h1 h2
    simp only [List.length_map] at h1 h2
    simp only [List.getElem_map, h.same i h1 h2]
theorem own_lt7 {α : Type} {enc : α → List Value} {sz : Nat} {e : TypeId} {base n c : Nat} {w : World} {A : Option Addr} {l : List α} (f : Ow enc sz e base w (.slice A n c) l) : ∀ b ∈ addrBlock A, b < w.heap.size := by
  intro b hb
  cases A with
  | none => cases hb
  | some a =>
    simp only [addrBlock, List.mem_singleton] at hb
    subst hb
    exact (f.own.lt a.block rfl).2
theorem copyC_any (l : List Nat) (A : Option Addr) (c : Nat) (w : World) (h : Sl.Good ⟨A, c, l⟩ w) :
    Calls Tryd.prog 14 #[.slice A l.length c] w (Gives w fun v w' => ∃ A2 c2, v = .slice A2 l.length c2 ∧ Sl.Good ⟨A2, c2, l⟩ w' ∧ (∀ b ∈ addrBlock A2, w.heap.size ≤ b ∧ b < w'.heap.size)) := by
  have hm := h.max
  have hm' : l.length ≤ 274877906944 := hm
  have HC := As.mk (copy_any l A c w h.rd h.none (by omega))
  have H := As.mk h
  obtain ⟨n, hn⟩ : ∃ n, n = l.length := ⟨_, rfl⟩
  have Hn := As.mk hn
  rw [← hn] at HC ⊢
  clear hn hm h hm'
  go_enter Tryd.func14, Tryd.ntmps14
  go_wp2_with (go_at_call 36; (with_reducible refine HC.out.mono ?_); rintro e w1 ⟨v1, rfl, ho, hb⟩)
  go_ret
  obtain ⟨A2, c2, rfl, h1, h2⟩ := ho.form
  exact ⟨_, rfl, ⟨A2, c2, by rw [Hn.out]; rfl, ⟨ho.rd lenU, H.out.lt, h1, H.out.max, ho.none⟩, fun b hb => ⟨own_block_ge ho b hb, own_lt7 ho b hb⟩⟩, hb⟩
/-- one more copy -/
theorem CopyS.snoc {base : Nat} {w w4 w6 w7 : World} {m l : List Sl} {v : Value} {A4 : Option Addr} {c4 k : Nat} {x : Sl} (hk : k < l.length) (hx : x = l[k]) (hcp : CopyS base w m (l.take k)) (hft : ∀ y ∈ m, ∀ b ∈ addrBlock y.A, v.ownBlock ≠ some b) (hvlt : ∀ b, v.ownBlock = some b → b < w.heap.size)
    (hb4 : Below w.heap.size w w4) (hb6 : Below w4.heap.size w4 w6) (hg : Sl.Good ⟨A4, c4, x.l⟩ w4) (hf : ∀ b ∈ addrBlock A4, w.heap.size ≤ b ∧ b < w4.heap.size) (hbase : base ≤ w.heap.size) (h7 : w6.grownBy w7 v.ownBlock) :
    CopyS base w7 (m ++ [⟨A4, c4, x.l⟩]) (l.take (k + 1)) := by
  have hml2 : m.length = k := by rw [hcp.len, List.length_take]; omega
  have htk := List.take_succ_eq_append_getElem hk
  have s4 := hb4.size
  have s6 := hb6.size
  have s7 := h7.size
  refine ⟨?_, ?_, ?_, ?_⟩
  · rw [List.length_append, List.length_singleton, List.length_take, hml2]; omega
  · intro i h1 h2
    by_cases hi : i < m.length
    · have := hcp.same i hi (by rw [← hcp.len]; exact hi)
      rw [List.getElem_append_left hi]
      simp only [htk]
      rw [List.getElem_append_left (by rw [← hcp.len]; exact hi)]
      exact this
    · have hi2 : i = m.length := by rw [List.length_append, List.length_singleton] at h1; omega
      subst hi2
      simp only [htk]
      rw [List.getElem_append_right (Nat.le_refl _), List.getElem_append_right (by rw [hcp.len]; exact Nat.le_refl _)]
      simp [hx]
  · intro y hy
    rcases List.mem_append.1 hy with hy | hy
    · have hl := hcp.good y hy
      refine ⟨Rd.keep hl.rd (fun _ b hbb => ?_), hl.lt, hl.cap, hl.max, hl.none⟩
      have h1 := (hcp.foot y hy b hbb).2
      rw [h7.block b (by omega) (fun e => hft y hy b hbb e.symm), hb6.block b (by omega), hb4.block b h1]
    · simp only [List.mem_singleton] at hy
      subst hy
      refine ⟨Rd.keep hg.rd (fun hne b hbb => ?_), hg.lt, hg.cap, hg.max, hg.none⟩
      have h1 := hf b hbb
      rw [h7.block b (by omega) (fun e => by have := hvlt b e.symm; omega), hb6.block b h1.2]
  · intro y hy b hbb
    rcases List.mem_append.1 hy with hy | hy
    · have := hcp.foot y hy b hbb
      exact ⟨this.1, by omega⟩
    · simp only [List.mem_singleton] at hy
      subst hy
      have h1 := hf b hbb
      exact ⟨by omega, by omega⟩
theorem foot_snoc {base : Nat} {w w4 w6 : World} {m l : List Sl} {v v7 : Value} {A4 : Option Addr} {c4 : Nat} {x : List Nat} (hcp : CopyS base w m l) (hft : ∀ y ∈ m, ∀ b ∈ addrBlock y.A, v.ownBlock ≠ some b) (hvlt : ∀ b, v.ownBlock = some b → b < w.heap.size)
    (s4 : w.heap.size ≤ w4.heap.size) (s6 : w4.heap.size < w6.heap.size) (hf : ∀ b ∈ addrBlock A4, w.heap.size ≤ b ∧ b < w4.heap.size) (hor : ∀ k, v7.ownBlock = some k → v.ownBlock = some k ∨ k = w6.heap.size) :
    ∀ y ∈ m ++ [(⟨A4, c4, x⟩ : Sl)], ∀ b ∈ addrBlock y.A, v7.ownBlock ≠ some b := by
  intro y hy b hbb e
  rcases List.mem_append.1 hy with hy | hy
  · have h1 := (hcp.foot y hy b hbb).2
    rcases hor b e with h | h
    · exact hft y hy b hbb h
    · omega
  · simp only [List.mem_singleton] at hy
    subst hy
    have h1 := hf b hbb
    rcases hor b e with h | h
    · have := hvlt b h; omega
    · omega
end Go.Proofs.YtbdcjlikjpdhfaaDoor
