/- Copies of numbers; equality of numbers. -/
import Derived.Test.YtigoofeodbbbhaaDoorNum6
namespace Go.Proofs.YtigoofeodbbbhaaDoor
open Go.RowKit Go.Proofs.YtigoofeodbbbhaaDoorL Go.Proofs.YtigoofeodbbbhaaDoorM
set_option linter.unusedVariables false
set_option linter.unusedSimpArgs false
set_option maxHeartbeats 1000000 in
/-- the lists are the same -/
theorem sameLimbs_any (l : List Nat) (n n2 : Nat) (hn : l.length = n) (hn2 : n = n2) (A A2 : Option Addr) (c c2 : Nat) (w : World) (hr : Rd encU 1 w A l) (hr2 : Rd encU 1 w A2 l) (hc : n ≤ c) (hc2 : n ≤ c2) (hm : n ≤ 4398046511104) :
    Calls Tryd.prog 67 #[.slice A n c, .slice A2 n2 c2] w (Gives w fun v w' => v = .bool true) := by
  subst hn hn2
  have z0 : ((l.length : Int) != (l.length : Int)) = false := by simp
  go_enter Tryd.func67, Tryd.ntmps67
  go_wp2
  go_loopw [5] (fun v wr => ∃ k : Nat, k ≤ l.length ∧ v = .int .i64 (k : Int) ∧ Below w.heap.size w wr) (fun v _ => l.length - (intOf v).toNat)
  case atStart => exact ⟨0, by omega, rfl, Below.refl _ _⟩
  case round =>
    obtain ⟨k, hk, rfl, hb⟩ := hrel
    by_cases h : k < l.length
    · obtain ⟨b, off, rfl⟩ := hr.get (ne_nil_of_lt h)
      obtain ⟨b2, off2, rfl⟩ := hr2.get (ne_nil_of_lt h)
      have hcell := Rd.u (hr.below hb) k h
      have hcell2 := Rd.u (hr2.below hb) k h
      obtain ⟨x, hx⟩ : ∃ x, x = l[k] := ⟨_, rfl⟩
      rw [← hx] at hcell hcell2
      have z1 : ((x : Int) != (x : Int)) = false := by simp
      clear hx
      go_wp2
      go_quiet (fail)
      go_wp2
      go_roundw
      case rel => exact ⟨k + 1, by omega, by go_num, drew_below hb _⟩
      case measure => simp [intOf]; omega
    · go_wp2
      go_ret
      exact ⟨_, rfl, rfl, hb⟩
set_option maxHeartbeats 1000000 in
theorem sameNum_any (l : List Nat) (nb : Bool) (A A2 : Option Addr) (c c2 : Nat) (w : World) (h : Lim w A c l) (h2 : Lim w A2 c2 l) :
    Calls Tryd.prog 45 #[.agg #[.bool nb, .slice A l.length c], .agg #[.bool nb, .slice A2 l.length c2]] w (Gives w fun v w' => v = .bool true) := by
  have HS := As.mk (fun w1 (hb : Below w.heap.size w w1) => sameLimbs_any l l.length l.length rfl rfl A A2 c c2 w1 (h.rd.below hb) (h2.rd.below hb) h.cap h2.cap (Nat.le_trans h.max (by omega)))
  go_enter Tryd.func45, Tryd.ntmps45
  go_wp2_with (first
    | ((with_reducible refine g_dst 2 ?_); go_must (refine ev_box 2 rfl (cs := [.bool nb, .slice A l.length c]) (by rfl) ?_); intro g2 w2 hb2 B2 hg2)
    | ((with_reducible refine g_dst 3 ?_); go_must (refine ev_box 3 rfl (cs := [.bool nb, .slice A2 l.length c2]) (by rfl) ?_); intro g3 w3 hb3 B3 hg3; replace B2 := B2.below hb3; have C2 := B2.cells; have C3 := B3.cells; replace hb3 := bthen hb2 hb3)
    | (go_at_call 67; (with_reducible refine (HS.out _ hb3).mono ?_); rintro e w4 ⟨v4, rfl, rfl, hb4⟩))
  go_ret
  exact ⟨_, rfl, rfl, bthen hb3 hb4⟩
/-- two answers of the same number are the same -/
theorem same_any (z : Int) (hz : (digB 4294967296 z.natAbs).length ≤ 274877906944) (base base2 : Nat) (v u : Value) (w : World) (h : Told base w v z) (h2 : Told base2 w u z) :
    Calls Tryd.prog 15 #[v, u] w (Gives w fun v w' => v = .bool true) := by
  obtain ⟨A, c, l, rfl, hl, _, he, _⟩ := h.open hz
  obtain ⟨A2, c2, l2, rfl, hl2, _, he2, _⟩ := h2.open hz
  obtain rfl : l2 = l := by rw [he, he2]
  obtain ⟨nb, hnb⟩ : ∃ nb, nb = decide (z < 0) := ⟨_, rfl⟩
  rw [← hnb]
  have HS := As.mk (fun w1 (hb : Below w.heap.size w w1) => sameNum_any l2 nb A A2 c c2 w1 (hl.below hb) (hl2.below hb))
  clear he he2 hnb
  go_enter Tryd.func15, Tryd.ntmps15
  go_wp2_with (first
    | ((with_reducible refine g_dst 2 ?_); go_must (refine ev_box 2 rfl (cs := [.bool nb, .slice A l2.length c]) (by rfl) ?_); intro g2 w2 hb2 B2 hg2)
    | ((with_reducible refine g_dst 3 ?_); go_must (refine ev_box 3 rfl (cs := [.bool nb, .slice A2 l2.length c2]) (by rfl) ?_); intro g3 w3 hb3 B3 hg3; replace B2 := B2.below hb3; have C2 := B2.cells; have C3 := B3.cells; replace hb3 := bthen hb2 hb3)
    | (go_at_call 45; (with_reducible refine (HS.out _ hb3).mono ?_); rintro e w4 ⟨v4, rfl, rfl, hb4⟩))
  go_ret
  exact ⟨_, rfl, rfl, bthen hb3 hb4⟩
set_option maxHeartbeats 1000000 in
/-- a copy: the same number in memory of its own -/
theorem c_any (l : List Nat) (nb : Bool) (A : Option Addr) (c : Nat) (w : World) (h : Lim w A c l) :
    Calls Tryd.prog 21 #[.agg #[.bool nb, .slice A l.length c]] w (Gives w fun v w' => ∃ A2 c2, v = .agg #[.bool nb, .slice A2 l.length c2] ∧ Lim w' A2 c2 l ∧ (∀ b ∈ addrBlock A2, w.heap.size ≤ b) ∧ Ow encU 1 62 w.heap.size w' (.slice A2 l.length c2) l) := by
  have HC := As.mk (fun w1 (hb : Below w.heap.size w w1) => copy_any l A c w1 (h.rd.below hb) h.none (by have := h.max; omega))
  go_enter Tryd.func21, Tryd.ntmps21
  go_wp2_with (first
    | ((with_reducible refine g_dst 1 ?_); go_must (refine ev_box 1 rfl (cs := [.bool nb, .slice A l.length c]) (by rfl) ?_); intro g1 w1 hb1 B1 hg1)
    | ((with_reducible refine g_dst 2 ?_); go_must (refine ev_alloc 2 rfl infoNum (cs := [.bool false, .slice none 0 0]) rfl ?_); intro g2 w2 hb2 B2 hg2; have hne : g1 ≠ g2 := Nat.ne_of_lt (Nat.lt_of_lt_of_le B1.lt hg2); replace B1 := B1.below hb2; replace hg2 := Nat.le_trans hb1.size hg2; replace hb2 := bthen hb1 hb2))
  have hS : ∀ W, Blk W g1 [.bool nb, .slice A l.length c] 26 → W.cell? ⟨g1, 0, none⟩ = some (.bool nb) ∧ W.cell? ⟨g1, 1, none⟩ = some (.slice A l.length c) := fun W b1 => ⟨b1.cells 0, b1.cells 1⟩
  have hd := (Below.refl w2.heap.size w2).drew
  have hS0 := hS _ (B1.below hd)
  have hgl := B2.lt
  refine wp_gen (fun Q7 hQ7 => ?_)
  go_region_held3 (fun W => W.cell? ⟨g1, 0, none⟩ = some (.bool nb) ∧ W.cell? ⟨g1, 1, none⟩ = some (.slice A l.length c)) (first | assumption | exact hS _ (B1.below hb4) | exact hSk _ _) (first
    | (go_at_call 51; (with_reducible refine (HC.out _ (bthen hb2 hd)).mono ?_); rintro e w4 ⟨v4, rfl, ho4, hb4⟩; replace hb4 := bthen hd hb4; have B24 := B2.below hb4; have C4 := B24.cells; have F4 := B24.free; have hSk := fun v u => hS _ ((B1.below hb4).only (set2_gen B24 v u).1 hne); obtain ⟨A4, c4, rfl, h41, h42⟩ := ho4.form))
  obtain ⟨ho5, B5⟩ := set2_gen B24 (.bool nb) (.slice A4 l.length c4)
  generalize (w4.setCell ⟨g2, 0, none⟩ (.bool nb)).setCell ⟨g2, 1, none⟩ (.slice A4 l.length c4) = w5 at ho5 B5 ⊢
  obtain ⟨rfl⟩ := hQ7
  go_wp2
  refine bodyPost_ret (results_cell_row rfl _ _ g2 26 #[.bool nb, .slice A4 l.length c4] (0, 0) _ rfl B5.h Tryd.underlying26 rfl (by kernel_rfl)) rfl ?_
  have ho := ow_only ho4 ho5 hgl hb2.size
  exact ⟨_, rfl, ⟨A4, c4, rfl, ⟨ho.rd lenU, h.lt, h41, ho.none, h.max⟩, own_block_ge ho, ho⟩, (bthen hb2 hb4).trans (ho5.below hg2)⟩
/-- what the copy of a list of numbers is -/
structure CopyN (base : Nat) (w : World) (m l : List LN) : Prop where
  len : m.length = l.length
  same : ∀ i (h : i < m.length) (h2 : i < l.length), m[i].neg = l[i].neg ∧ m[i].mag = l[i].mag
  lim : ∀ y ∈ m, LimN w y
  foot : ∀ y ∈ m, ∀ b ∈ addrBlock y.A, base ≤ b ∧ b < w.heap.size
theorem CopyN.zs {base : Nat} {w : World} {m l : List LN} (h : CopyN base w m l) : m.map zN = l.map zN := by
  apply List.ext_getElem
  · simp [h.len]
  · intro i h1 h2
    simp only [List.length_map] at h1 h2
    have := h.same i h1 h2
    simp only [List.getElem_map, zN, this.1, this.2]
theorem CopyN.lens {base : Nat} {w : World} {m l : List LN} (h : CopyN base w m l) (K : Nat) (hK : ∀ x ∈ l, x.mag.length ≤ K) : ∀ y ∈ m, y.mag.length ≤ K := by
  intro y hy
  obtain ⟨i, hi, rfl⟩ := List.getElem_of_mem hy
  rw [(h.same i hi (by rw [← h.len]; exact hi)).2]
  exact hK _ (List.getElem_mem _)
set_option maxRecDepth 8000 in
set_option maxHeartbeats 1000000 in
theorem all_any (l : List LN) (n : Nat) (hn : l.length = n) (A : Option Addr) (c : Nat) (w : World) (hr : Rd encN 2 w A l) (hc : n ≤ c) (hg : ∀ x ∈ l, LimN w x) (hm : n ≤ 1099511627776) :
    Calls Tryd.prog 17 #[.slice A n c] w (Gives w fun v w2 => ∃ m, Ow encN 2 26 w.heap.size w2 v m ∧ CopyN w.heap.size w2 m l) := by
  subst hn
  have HG := As.mk hg
  clear hg
  go_enter Tryd.func17, Tryd.ntmps17
  go_wp2
  go_loopw [3, 4] (fun v u wq => ∃ k : Nat, ∃ m : List LN, k ≤ l.length ∧ m.length ≤ l.length ∧ u = .int .i64 (k : Int) ∧ Below w.heap.size w wq ∧ Ow encN 2 26 w.heap.size wq v m ∧ As (CopyN w.heap.size wq m (l.take k)) ∧ As (∀ y ∈ m, ∀ b ∈ addrBlock y.A, v.ownBlock ≠ some b)) (fun v u _ => l.length - (intOf u).toNat)
  case atStart => exact ⟨0, [], by omega, by simp, rfl, Below.refl _ _, Ow.nil _ _ _ _ _, ⟨⟨by simp, fun i h => absurd h (by simp), fun y hy => (nomatch hy), fun y hy => (nomatch hy)⟩⟩, ⟨fun b hb => (nomatch hb)⟩⟩
  case round =>
    obtain ⟨k, m, hk, hml, rfl, hb, ho, hcp, hft⟩ := hrel
    have HB := As.mk (show (m.length + 1) * 32 ≤ 140737488355328 from by omega)
    have HM := As.mk (show m.length + 1 ≤ maxLen from by simp only [maxLen]; omega)
    by_cases h : k < l.length
    · obtain ⟨b, off, rfl⟩ := hr.get (ne_nil_of_lt h)
      have hcl := Rd.n (hr.below hb) k h
      have hlx := (HG.out _ (List.getElem_mem h)).below hb
      have htk := List.take_succ_eq_append_getElem h
      obtain ⟨x, hx⟩ : ∃ x, x = l[k] := ⟨_, rfl⟩
      rw [← hx] at hcl hlx htk
      obtain ⟨xn, xA, xc, xm⟩ := x
      simp only at hcl
      obtain ⟨cl0, cl1⟩ := hcl
      replace hlx : Lim wr xA xc xm := hlx
      have Htk := As.mk htk
      have hlt := As.mk (fun k hk => (ho.own.lt k hk).2)
      clear hx htk
      go_wp2_with (first
        | (go_at_call 21; (with_reducible refine (c_any xm xn xA xc wr hlx).mono ?_); rintro e w4 ⟨v4, rfl, ⟨A4, c4, rfl, hl4, hf4, ho4⟩, hb4⟩; replace ho := ho.below hb4; have hbw4 := bthen hb hb4)
        | ((with_reducible refine g_dst 17 ?_); go_must (refine ev_lit (v := fun g => .slice (some ⟨g, 0, none⟩) 1 1) 17 rfl (cs := encN ⟨xn, A4, c4, xm⟩) (t := 26) (by go_simp; rfl) ?_); intro g6 w6 hb6 B6 hg6; replace ho := ho.below hb6; have hbw6 := bthen hbw4 hb6)
        | ((with_reducible refine g_dst 18 ?_); go_must (refine ev_append1 18 Tryd.underlying22 infoNum rfl (by decide) rfl ho ⟨xn, A4, c4, xm⟩ rfl B6 rfl (oneN _) HB.out HM.out hbw6.size ?_); intro v7 w7 ho7 hg7 hor7; have hbw7 := ho.grown hbw6 hg7 (Nat.le_refl _) hbw6.size))
      go_roundw
      case rel =>
        have hml2 : m.length = k := by rw [hcp.out.len, List.length_take]; omega
        have s4 := hb4.size
        have s6 := hb6.size
        have sb := hb.size
        have hA4lt : ∀ b ∈ addrBlock A4, xm.length ≠ 0 → b < w4.heap.size := fun b hbb hl => by
          obtain ⟨b', off', e, hh⟩ := hl4.rd.at_ (fun e => hl (by rw [e]; rfl))
          rw [e] at hbb
          simp only [addrBlock, List.mem_singleton] at hbb
          subst hbb
          have h0 : xm[0]? = some (xm[0]'(by omega)) := List.getElem?_eq_getElem _
          exact World.block_lt_of_cell? w4 _ (hh 0 _ h0 0 _ rfl)
        have hA4lt2 : ∀ b ∈ addrBlock A4, b < w4.heap.size := fun b hbb => by
          cases hA : A4 with
          | none => rw [hA] at hbb; simp [addrBlock] at hbb
          | some a =>
            have := ho4.own.lt a.block (by rw [hA]; rfl)
            rw [hA] at hbb
            simp only [addrBlock, List.mem_singleton] at hbb
            rw [hbb]; exact this.2
        refine ⟨k + 1, m ++ [⟨xn, A4, c4, xm⟩], by omega, by rw [List.length_append, List.length_singleton]; omega, by go_num, hbw7, ho7, ⟨⟨?_, ?_, ?_, ?_⟩⟩, ⟨?_⟩⟩
        · rw [List.length_append, List.length_singleton, List.length_take, hml2]; omega
        · intro i h1 h2
          by_cases hi : i < m.length
          · have := hcp.out.same i hi (by rw [← hcp.out.len]; exact hi)
            rw [List.getElem_append_left hi]
            simp only [Htk.out]
            rw [List.getElem_append_left (by rw [← hcp.out.len]; exact hi)]
            exact this
          · have hi2 : i = m.length := by rw [List.length_append, List.length_singleton] at h1; omega
            subst hi2
            simp only [Htk.out]
            rw [List.getElem_append_right (Nat.le_refl _), List.getElem_append_right (by rw [hcp.out.len]; exact Nat.le_refl _)]
            simp
        · intro y hy
          rcases List.mem_append.1 hy with hy | hy
          · have hl := hcp.out.lim y hy
            refine ⟨Rd.keep hl.rd (fun _ b hbb => ?_), hl.lt, hl.cap, hl.none, hl.max⟩
            have h1 := (hcp.out.foot y hy b hbb).2
            rw [hg7.block b (by omega) (fun e => hft.out y hy b hbb e.symm), hb6.block b (by omega), hb4.block b h1]
          · simp only [List.mem_singleton] at hy
            subst hy
            refine ⟨Rd.keep hl4.rd (fun hne b hbb => ?_), hl4.lt, hl4.cap, hl4.none, hl4.max⟩
            have h1 := hA4lt2 b hbb
            rw [hg7.block b (by omega) (fun e => by have := hlt.out b e.symm; have := hf4 b hbb; omega), hb6.block b h1]
        · intro y hy b hbb
          have s7 := hg7.size
          rcases List.mem_append.1 hy with hy | hy
          · have := hcp.out.foot y hy b hbb
            exact ⟨this.1, by omega⟩
          · simp only [List.mem_singleton] at hy
            subst hy
            have h1 := hA4lt2 b hbb
            have h2 := hf4 b hbb
            exact ⟨by omega, by omega⟩
        · intro y hy b hbb e
          rcases List.mem_append.1 hy with hy | hy
          · have h1 := (hcp.out.foot y hy b hbb).2
            rcases hor7 b e with h | h
            · exact hft.out y hy b hbb h
            · omega
          · simp only [List.mem_singleton] at hy
            subst hy
            have h1 := hA4lt2 b hbb
            have h2 := hf4 b hbb
            rcases hor7 b e with h | h
            · have := hlt.out b h; omega
            · omega
      case measure => simp [intOf]; omega
    · have htl : l.take k = l := List.take_of_length_le (by omega)
      have Hc : As (CopyN w.heap.size wr m l) := ⟨htl ▸ hcp.out⟩
      clear htl
      go_wp2
      go_ret
      exact ⟨_, rfl, ⟨m, ho, Hc.out⟩, hb⟩
end Go.Proofs.YtigoofeodbbbhaaDoor
