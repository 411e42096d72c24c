/- tandemref01.Add: the sum of many. -/
import Derived.Test.YtigoofeodbbbhaaDoorRef2
import Derived.Test.YtigoofeodbbbhaaDoorMath4
namespace Go.Proofs.YtigoofeodbbbhaaDoor
open Go.RowKit Go.Proofs.YtigoofeodbbbhaaDoorL Go.Proofs.YtigoofeodbbbhaaDoorM
set_option linter.unusedVariables false
set_option linter.unusedSimpArgs false
/-- a list of limbs in memory -/
structure Sl where
  A : Option Addr
  c : Nat
  l : List Nat
def encS (s : Sl) : List Value := [.slice s.A s.l.length s.c]
def valS (s : Sl) : Value := .slice s.A s.l.length s.c
theorem encS_one : ∀ s, encS s = [valS s] := fun _ => rfl
theorem lenS : ∀ s, (encS s).length = 1 := fun _ => rfl
theorem oneS : ∀ x, ∀ u ∈ encS x, u.oneCell' = true := fun x => by simp [encS, Value.oneCell']
theorem Rd.s {w : World} {b off : Nat} {l : List Sl} (f : Rd encS 1 w (some ⟨b, off, none⟩) l) (i : Nat) (hi : i < l.length) : w.cell? ⟨b, off + i, none⟩ = some (.slice l[i].A l[i].l.length l[i].c) := by
  have := f.cell i hi 0 _ rfl
  simpa using this
/-- it reads as that list, and its numbers are limbs -/
structure Sl.Good (s : Sl) (w : World) : Prop where
  rd : Rd encU 1 w s.A s.l
  lt : ∀ x ∈ s.l, x < 4294967296
  cap : s.l.length ≤ s.c
  max : s.l.length ≤ 274877906944
  none : s.A = none → s.c = 0
theorem Sl.Good.below {s : Sl} {w w1 : World} (h : s.Good w) (hb : Below w.heap.size w w1) : s.Good w1 := ⟨h.rd.below hb, h.lt, h.cap, h.max, h.none⟩
theorem sums_len {L : List Sl} {w : World} (h : ∀ s ∈ L, s.Good w) (hL : L.length < 281474976710656) (k : Nat) : (digB 65536 (sumV 4294967296 ((L.map Sl.l).take k))).length ≤ 2 * 274877906944 + 3 := by
  refine sumV_len 274877906944 _ (fun l hl => ?_) (by rw [List.length_take, List.length_map]; omega)
  have := List.mem_of_mem_take hl
  obtain ⟨s, hs, rfl⟩ := List.mem_map.1 this
  exact ⟨(h s hs).lt, (h s hs).max⟩
theorem half_len (l : List Nat) (h : ∀ x ∈ l, x < 4294967296) (hl : l.length ≤ 274877906944) : (digB 65536 (valB 4294967296 l)).length ≤ 4398046511104 := by
  rw [← trim_halves l h]
  refine Nat.le_trans (trimL_le _) ?_
  rw [halves_len]; omega
set_option maxHeartbeats 400000 in
theorem rAdd_any (L : List Sl) (n : Nat) (hn : L.length = n) (A : Option Addr) (c : Nat) (w : World) (hr : Rd encS 1 w A L) (hg : ∀ s ∈ L, s.Good w) (hc : n ≤ c) (hm : n ≤ 1099511627776) :
    Calls Tryd.prog 71 #[.slice A n c] w (Gives w fun v w' => Ow encU 1 62 w.heap.size w' v (digB 4294967296 (sumV 4294967296 (L.map Sl.l)))) := by
  subst hn
  have HG := As.mk hg
  have hlen := As.mk (sums_len hg (by omega))
  clear hg
  go_enter Tryd.func71, Tryd.ntmps71
  go_wp2
  go_loopw [3, 4] (fun v u wr => ∃ k : Nat, ∃ S : List Nat, k ≤ L.length ∧ u = .int .i64 (k : Int) ∧ As (S = digB 65536 (sumV 4294967296 ((L.map Sl.l).take k))) ∧ Below w.heap.size w wr ∧ Ow encI 1 3 w.heap.size wr v S) (fun v u _ => L.length - (intOf u).toNat)
  case atStart => exact ⟨0, [], by omega, rfl, ⟨by simp [sumV, digB_zero]⟩, Below.refl _ _, Ow.nil _ _ _ _ _⟩
  case round =>
    obtain ⟨k, S, hk, rfl, hS, hb, ho⟩ := hrel
    have hSl : As (∀ x ∈ S, x < 65536) := ⟨by rw [hS.out]; exact digB_lt 65536 (by omega) _⟩
    have hSn : S.length ≤ 549755813891 := by rw [hS.out]; exact hlen.out k
    obtain ⟨A1, c1, rfl, h1, h2⟩ := ho.form
    by_cases h : k < L.length
    · obtain ⟨b, off, rfl⟩ := (hr.below hb).get (ne_nil_of_lt h)
      have hcell := Rd.s (hr.below hb) k h
      have hsg := (HG.out _ (List.getElem_mem h)).below hb
      have hsum := sumV_take_succ 4294967296 (L.map Sl.l) k (by simpa using h)
      rw [List.getElem_map] at hsum
      obtain ⟨s, hs⟩ : ∃ s, s = L[k] := ⟨_, rfl⟩
      rw [← hs] at hcell hsg hsum
      obtain ⟨sA, sc, sl⟩ := s
      have Hsum := As.mk hsum
      clear hsum hs
      have hq := As.mk (half_len sl hsg.lt hsg.max)
      go_wp2_with (first
        | (go_at_call 81; (with_reducible refine (half_any sl _ rfl _ _ _ hsg.rd hsg.lt hsg.cap (Nat.le_trans hsg.max (by omega))).mono ?_); rintro e w2 ⟨v2, rfl, ho2, hb2⟩; obtain ⟨A2, c2, rfl, h21, h22⟩ := ho2.form)
        | (go_at_call 91; (with_reducible refine (radd_any S _ _ _ rfl rfl _ _ _ _ _ ((ho.below hb2).rd lenI) (ho2.rd lenI) hSl.out (digB_lt 65536 (by omega) _) h1 h21 (by omega) hq.out).mono ?_); rintro e w3 ⟨v3, rfl, ho3, hb3⟩))
      go_roundw
      case rel => exact ⟨k + 1, _, by omega, by go_num, ⟨by rw [Hsum.out, hS.out, digB_val 65536 (by omega), digB_val 65536 (by omega)]⟩, bthen (bthen hb hb2) hb3, ho3.lower (bthen hb hb2).size⟩
      case measure => simp [intOf]; omega
    · have ht : (L.map Sl.l).take k = L.map Sl.l := List.take_of_length_le (by simp; omega)
      have HS := As.mk (ht ▸ hS.out)
      clear ht
      go_wp2_with (go_at_call 86; (with_reducible refine (full_any S _ rfl _ _ _ (ho.rd lenI) hSl.out h1 ho.none (by omega)).mono ?_); rintro e w2 ⟨v2, rfl, ho2, hb2⟩)
      go_ret
      exact ⟨_, rfl, by have := ho2.lower hb.size; rw [HS.out, digB_val 65536 (by omega)] at this; exact this, bthen hb hb2⟩
end Go.Proofs.YtigoofeodbbbhaaDoor
