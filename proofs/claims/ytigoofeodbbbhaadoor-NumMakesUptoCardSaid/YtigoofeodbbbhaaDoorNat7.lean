/- nat.Add, nat.Mul: of two and of more. -/
import Derived.Test.YtigoofeodbbbhaaDoorNat6
import Derived.Test.YtigoofeodbbbhaaDoorMath11
import Derived.Test.YtigoofeodbbbhaaDoorNum1
namespace Go.Proofs.YtigoofeodbbbhaaDoor
open Go.RowKit Go.Proofs.YtigoofeodbbbhaaDoorL Go.Proofs.YtigoofeodbbbhaaDoorM
set_option linter.unusedVariables false
set_option linter.unusedSimpArgs false
theorem Ow.lim {base n c : Nat} {w : World} {A : Option Addr} {V : Nat} (f : Ow encU 1 62 base w (.slice A n c) (digB 4294967296 V)) (hc : (digB 4294967296 V).length ≤ c) (hm : (digB 4294967296 V).length ≤ 274877906944) : Lim w A c (digB 4294967296 V) :=
  ⟨f.rd lenU, digB_lt _ (by omega) _, hc, f.none, hm⟩
theorem mulN_any (l m : List Nat) (n n2 : Nat) (hn : l.length = n) (hn2 : m.length = n2) (A A2 : Option Addr) (c c2 : Nat) (w : World) (hr : Rd encU 1 w A l) (hr2 : Rd encU 1 w A2 m) (hl : (∀ x ∈ l, x < 4294967296) ∧ (∀ x ∈ m, x < 4294967296)) (hc : n ≤ c) (hc2 : n2 ≤ c2) (hm : n ≤ 4398046511104) (hm2 : n2 ≤ 4398046511104) :
    Calls Tryd.prog 100 #[.slice A n c, .slice A2 n2 c2] w (Gives w fun v w' => Ow encU 1 62 w.heap.size w' v (digB 4294967296 (valB 4294967296 l * valB 4294967296 m))) := by
  subst hn hn2; exact mul_any l m A A2 c c2 w hr hr2 hl hc hc2 hm hm2
theorem addN_any (l m : List Nat) (n n2 : Nat) (hn : l.length = n) (hn2 : m.length = n2) (A A2 : Option Addr) (c c2 : Nat) (w : World) (hr : Rd encU 1 w A l) (hr2 : Rd encU 1 w A2 m) (hl : (∀ x ∈ l, x < 4294967296) ∧ (∀ x ∈ m, x < 4294967296)) (hc : n ≤ c) (hc2 : n2 ≤ c2) (hm : n ≤ 4398046511104) (hm2 : n2 ≤ 4398046511104) :
    Calls Tryd.prog 97 #[.slice A n c, .slice A2 n2 c2] w (Gives w fun v w' => Ow encU 1 62 w.heap.size w' v (digB 4294967296 (valB 4294967296 l + valB 4294967296 m))) := by
  subst hn hn2; exact add_any l m A A2 c c2 w hr hr2 hl hc hc2 (by omega) (by omega)
set_option maxHeartbeats 400000 in
theorem natAdd_any (l m : List Nat) (n n2 n3 : Nat) (hn : l.length = n) (hn2 : m.length = n2) (L : List Sl) (hn3 : L.length = n3) (A A2 A3 : Option Addr) (c c2 c3 : Nat) (w : World) (h1 : Lim w A c l) (h2 : Lim w A2 c2 m) (hr : Rd encS 1 w A3 L) (hg : ∀ s ∈ L, s.Good w) (hc : n3 ≤ c3) (hm : n3 ≤ 1073741824) :
    Calls Tryd.prog 68 #[.slice A n c, .slice A2 n2 c2, .slice A3 n3 c3] w (Gives w fun v w' => Ow encU 1 62 w.heap.size w' v (digB 4294967296 (valB 4294967296 l + valB 4294967296 m + sumV 4294967296 (L.map Sl.l)))) := by
  subst hn3
  have hlen := As.mk (fun k => sumV_len32 274877906944 (l :: m :: (L.map Sl.l).take k) (fun x hx => by
    simp only [List.mem_cons] at hx
    rcases hx with rfl | rfl | hx
    · exact ⟨h1.lt, h1.max⟩
    · exact ⟨h2.lt, h2.max⟩
    · obtain ⟨s, hs, rfl⟩ := List.mem_map.1 (List.mem_of_mem_take hx)
      exact ⟨(hg s hs).lt, (hg s hs).max⟩) (by simp only [List.length_cons, List.length_take, List.length_map]; omega))
  simp only [sumV, ← Nat.add_assoc] at hlen
  have HA := As.mk (addN_any l m n n2 hn hn2 A A2 c c2 w h1.rd h2.rd ⟨h1.lt, h2.lt⟩ (hn ▸ h1.cap) (hn2 ▸ h2.cap) (by have := h1.max; omega) (by have := h2.max; omega))
  obtain ⟨V, hV⟩ : ∃ V, V = valB 4294967296 l + valB 4294967296 m := ⟨_, rfl⟩
  rw [← hV] at HA ⊢
  simp only [← hV] at hlen
  have HG := As.mk hg
  clear hV hg h1 h2 hn hn2
  go_enter Tryd.func68, Tryd.ntmps68
  go_wp2_with (go_at_call 97; (with_reducible refine HA.out.mono ?_); rintro e w1 ⟨v1, rfl, ho1, hb1⟩)
  go_loopw [7, 9, 15] (fun v _ u wr => ∃ k S : Nat, k ≤ L.length ∧ u = .int .i64 (k : Int) ∧ As (S = V + sumV 4294967296 ((L.map Sl.l).take k)) ∧ Below w.heap.size w wr ∧ Ow encU 1 62 w.heap.size wr v (digB 4294967296 S)) (fun _ _ u _ => L.length - (intOf u).toNat)
  case atStart => exact ⟨0, V, by omega, rfl, ⟨by simp [sumV]⟩, hb1, ho1⟩
  case round =>
    obtain ⟨k, S, hk, rfl, hS, hb, ho⟩ := hrel
    obtain ⟨A1, c1, rfl, h1, h2⟩ := ho.form
    have hSn := hlen.out k
    rw [← hS.out] at hSn
    by_cases h : k < L.length
    · obtain ⟨b, off, rfl⟩ := (hr.below hb).get (ne_nil_of_lt h)
      have hcell := Rd.s (hr.below hb) k h
      have hsg := (HG.out _ (List.getElem_mem h)).below hb
      have hsum := sumV_take_succ 4294967296 (L.map Sl.l) k (by simpa using h)
      rw [List.getElem_map] at hsum
      obtain ⟨s, hs⟩ : ∃ s, s = L[k] := ⟨_, rfl⟩
      rw [← hs] at hcell hsg hsum
      obtain ⟨sA, sc, sl⟩ := s
      have hval := digB_val 4294967296 (by omega) S
      obtain ⟨D, hD⟩ : ∃ D, D = digB 4294967296 S := ⟨_, rfl⟩
      have hDl : ∀ x ∈ D, x < 4294967296 := by rw [hD]; exact digB_lt _ (by omega) _
      rw [← hD] at ho h1 hSn hval ⊢
      have Hadd := As.mk (addN_any D sl _ _ rfl rfl A1 sA c1 sc wr (ho.rd lenU) hsg.rd ⟨hDl, hsg.lt⟩ h1 hsg.cap (by omega) (Nat.le_trans hsg.max (by omega)))
      rw [hval] at Hadd
      have Hsum := As.mk hsum
      clear hsum hs hval hDl hD
      go_wp2_with (go_at_call 97; (with_reducible refine Hadd.out.mono ?_); rintro e w2 ⟨v2, rfl, ho2, hb2⟩)
      go_roundw
      case rel => exact ⟨k + 1, _, by omega, by go_num, ⟨by rw [Hsum.out, hS.out, Nat.add_assoc]⟩, bthen hb hb2, ho2.lower hb.size⟩
      case measure => simp [intOf]; omega
    · have ht : (L.map Sl.l).take k = L.map Sl.l := List.take_of_length_le (by simp; omega)
      have HS := As.mk (ht ▸ hS.out)
      clear ht
      go_wp2
      go_ret
      exact ⟨_, rfl, by rw [← HS.out]; exact ho, hb⟩
set_option maxHeartbeats 400000 in
theorem natMul_any (l m : List Nat) (n n2 n3 : Nat) (hn : l.length = n) (hn2 : m.length = n2) (L : List Sl) (hn3 : L.length = n3) (A A2 A3 : Option Addr) (c c2 c3 : Nat) (w : World) (h1 : Lim w A c l) (h2 : Lim w A2 c2 m) (hr : Rd encS 1 w A3 L) (hg : ∀ s ∈ L, s.Good w) (hc : n3 ≤ c3) (hm : n3 ≤ 1073741824) (hlens : l.length + (m.length + lens (L.map Sl.l)) ≤ 274877906944) :
    Calls Tryd.prog 87 #[.slice A n c, .slice A2 n2 c2, .slice A3 n3 c3] w (Gives w fun v w' => Ow encU 1 62 w.heap.size w' v (digB 4294967296 (valB 4294967296 l * valB 4294967296 m * prodV 4294967296 (L.map Sl.l)))) := by
  subst hn3
  have hlen := As.mk (fun k => Nat.le_trans (prodV_len32 (l :: m :: (L.map Sl.l)) (fun x hx => by
    simp only [List.mem_cons] at hx
    rcases hx with rfl | rfl | hx
    · exact h1.lt
    · exact h2.lt
    · obtain ⟨s, hs, rfl⟩ := List.mem_map.1 hx
      exact (hg s hs).lt) (k + 2)) (show lens (l :: m :: (L.map Sl.l)) + 1 ≤ 274877906945 by rw [lens, lens]; omega))
  simp only [List.take_succ_cons, prodV, ← Nat.mul_assoc] at hlen
  have HA := As.mk (mulN_any l m n n2 hn hn2 A A2 c c2 w h1.rd h2.rd ⟨h1.lt, h2.lt⟩ (hn ▸ h1.cap) (hn2 ▸ h2.cap) (by have := h1.max; omega) (by have := h2.max; omega))
  obtain ⟨V, hV⟩ : ∃ V, V = valB 4294967296 l * valB 4294967296 m := ⟨_, rfl⟩
  rw [← hV] at HA ⊢
  simp only [← hV] at hlen
  have HG := As.mk hg
  clear hV hg h1 h2 hn hn2 hlens
  go_enter Tryd.func87, Tryd.ntmps87
  go_wp2_with (go_at_call 100; (with_reducible refine HA.out.mono ?_); rintro e w1 ⟨v1, rfl, ho1, hb1⟩)
  go_loopw [7, 9, 15] (fun v _ u wr => ∃ k S : Nat, k ≤ L.length ∧ u = .int .i64 (k : Int) ∧ As (S = V * prodV 4294967296 ((L.map Sl.l).take k)) ∧ Below w.heap.size w wr ∧ Ow encU 1 62 w.heap.size wr v (digB 4294967296 S)) (fun _ _ u _ => L.length - (intOf u).toNat)
  case atStart => exact ⟨0, V, by omega, rfl, ⟨by simp [prodV]⟩, hb1, ho1⟩
  case round =>
    obtain ⟨k, S, hk, rfl, hS, hb, ho⟩ := hrel
    obtain ⟨A1, c1, rfl, h1, h2⟩ := ho.form
    have hSn := hlen.out k
    rw [← hS.out] at hSn
    by_cases h : k < L.length
    · obtain ⟨b, off, rfl⟩ := (hr.below hb).get (ne_nil_of_lt h)
      have hcell := Rd.s (hr.below hb) k h
      have hsg := (HG.out _ (List.getElem_mem h)).below hb
      have hsum := prodV_take_succ 4294967296 (L.map Sl.l) k (by simpa using h)
      rw [List.getElem_map] at hsum
      obtain ⟨s, hs⟩ : ∃ s, s = L[k] := ⟨_, rfl⟩
      rw [← hs] at hcell hsg hsum
      obtain ⟨sA, sc, sl⟩ := s
      have hval := digB_val 4294967296 (by omega) S
      obtain ⟨D, hD⟩ : ∃ D, D = digB 4294967296 S := ⟨_, rfl⟩
      have hDl : ∀ x ∈ D, x < 4294967296 := by rw [hD]; exact digB_lt _ (by omega) _
      rw [← hD] at ho h1 hSn hval ⊢
      have Hadd := As.mk (mulN_any D sl _ _ rfl rfl A1 sA c1 sc wr (ho.rd lenU) hsg.rd ⟨hDl, hsg.lt⟩ h1 hsg.cap (by omega) (Nat.le_trans hsg.max (by omega)))
      rw [hval] at Hadd
      have Hsum := As.mk hsum
      clear hsum hs hval hDl hD
      go_wp2_with (go_at_call 100; (with_reducible refine Hadd.out.mono ?_); rintro e w2 ⟨v2, rfl, ho2, hb2⟩)
      go_roundw
      case rel => exact ⟨k + 1, _, by omega, by go_num, ⟨by rw [Hsum.out, hS.out, Nat.mul_assoc]⟩, bthen hb hb2, ho2.lower hb.size⟩
      case measure => simp [intOf]; omega
    · have ht : (L.map Sl.l).take k = L.map Sl.l := List.take_of_length_le (by simp; omega)
      have HS := As.mk (ht ▸ hS.out)
      clear ht
      go_wp2
      go_ret
      exact ⟨_, rfl, by rw [← HS.out]; exact ho, hb⟩
end Go.Proofs.YtigoofeodbbbhaaDoor
