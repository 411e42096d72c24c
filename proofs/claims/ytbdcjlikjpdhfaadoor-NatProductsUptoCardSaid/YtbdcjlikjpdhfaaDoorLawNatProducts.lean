/- NatProducts. -/
import Derived.Test.YtbdcjlikjpdhfaaDoorSumsK
namespace Go.Proofs.YtbdcjlikjpdhfaaDoor
open Go.RowKit Go.Proofs.YtbdcjlikjpdhfaaDoorL Go.Proofs.YtbdcjlikjpdhfaaDoorM
set_option linter.unusedVariables false
set_option linter.unusedSimpArgs false
theorem prodV_lt (L : List (List Nat)) (h : ∀ l ∈ L, ∀ x ∈ l, x < 4294967296) : prodV 4294967296 L < 4294967296 ^ (lens L + L.length + 1) := by
  induction L with
  | nil => simp [prodV, lens]
  | cons l L ih =>
    have h1 := valB_lt 4294967296 (by omega) l (h l (List.mem_cons_self ..))
    have h2 := ih (fun m hm => h m (List.mem_cons_of_mem _ hm))
    have := mul_lt_pow2 h1 h2
    rw [prodV, lens, List.length_cons]
    exact lt_pow_of_le this (by omega)
set_option maxRecDepth 16000 in
set_option maxHeartbeats 8000000 in
theorem natProducts_any (l1 l2 : List Nat) (L : List Sl) (A1 A2 A3 : Option Addr) (c1 c2 c3 : Nat) (w : World) (htab : Tab w) (h1 : Lim w A1 c1 l1) (h2 : Lim w A2 c2 l2) (hr : Rd encS 1 w A3 L) (hc : L.length ≤ c3) (hg : ∀ y ∈ L, y.Good w) (hA : A3 = none → c3 = 0) (hl : l1.length + (l2.length + (L.length + lens (L.map Sl.l))) ≤ 1048576) :
    Calls Tryd.prog 6 #[.slice A1 l1.length c1, .slice A2 l2.length c2, .slice A3 L.length c3] w (Gives w fun v _ => v = .bool true) := by
  have HT := As.mk htab
  have HG := As.mk hg
  have HA := As.mk hA
  have s1 : Sl.Good ⟨A1, c1, l1⟩ w := UR.good h1
  have s2 : Sl.Good ⟨A2, c2, l2⟩ w := UR.good h2
  have HSg := As.mk (And.intro s1 s2)
  obtain ⟨T, hT⟩ : ∃ T, prodV 4294967296 (L.map Sl.l) = T := ⟨_, rfl⟩
  have hTb : T < 4294967296 ^ (lens (L.map Sl.l) + L.length + 1) := by
    have := prodV_lt (L.map Sl.l) (fun l hl => by obtain ⟨s, hs, rfl⟩ := List.mem_map.1 hl; exact (hg s hs).lt)
    rwa [List.length_map, hT] at this
  obtain ⟨KT, hKT⟩ : ∃ KT, KT = lens (L.map Sl.l) + L.length + 1 := ⟨_, rfl⟩
  have hKTb : KT ≤ 2097153 := by omega
  have hLle : lens (L.map Sl.l) ≤ KT := by omega
  rw [← hKT] at hTb
  have hLb : L.length ≤ 1048576 := by omega
  obtain ⟨k1, V1, e1, f1, o1⟩ := UR.Ok.of h1
  obtain ⟨k2, V2, e2, f2, o2⟩ := UR.Ok.of h2
  have F0 := ((Us.nil w).cons o1).cons o2
  have HE := As.mk (And.intro e1 (And.intro e2 (And.intro f1 f2)))
  have hl12 : k1 + k2 ≤ 1048576 := by omega
  rw [e1, e2]
  have HT0 := As.mk hT
  have HTb0 := As.mk hTb
  have HLle := As.mk hLle
  clear htab hg hA s1 s2 hT hTb hKT hl h1 h2 o1 o2 e1 e2 f1 f2 hLle
  go_enter Tryd.func6, Tryd.ntmps6
  go_wp2
  go_loopw [7, 8] (fun v u wq => ∃ (k : Nat) (m : List Sl), k ≤ L.length ∧ m.length ≤ L.length ∧ u = .int .i64 (k : Int) ∧ Below w.heap.size w wq ∧ Ow encS 1 22 w.heap.size wq v m ∧ As (CopyS w.heap.size wq m (L.take k)) ∧ As (∀ y ∈ m, ∀ b ∈ addrBlock y.A, v.ownBlock ≠ some b)) (fun _ u _ => L.length - (intOf u).toNat)
  case atStart => exact ⟨0, [], by omega, by simp, rfl, Below.refl _ _, Ow.nil _ _ _ _ _, ⟨⟨by simp, fun i h => absurd h (by simp), fun y hy => (nomatch hy), fun y hy => (nomatch hy)⟩⟩, ⟨fun b hb => (nomatch hb)⟩⟩
  case round =>
    obtain ⟨k, m, hk, hml, rfl, hb, ho, hcp, hft⟩ := hrel
    by_cases h : k < L.length
    · obtain ⟨b, off, rfl⟩ := hr.get (ne_nil_of_lt h)
      have HB := As.mk (show (m.length + 1) * 24 ≤ 140737488355328 from by omega)
      have HM := As.mk (show m.length + 1 ≤ maxLen from by simp only [maxLen]; omega)
      have hcl := Rd.s (hr.below hb) k h
      have hlx := (HG.out _ (List.getElem_mem h)).below hb
      obtain ⟨x, hx⟩ : ∃ x, x = L[k] := ⟨_, rfl⟩
      rw [← hx] at hcl hlx
      obtain ⟨xA, xc, xm⟩ := x
      simp only at hcl
      have Hx := As.mk hx
      have Hlt := As.mk (fun k hk => (ho.own.lt k hk).2)
      have hmk : m.length + 1 ≤ L.length := by have := hcp.out.len; rw [List.length_take] at this; omega
      clear hx
      go_wp2_with (first
        | (go_at_call 14; (with_reducible refine (copyC_any xm xA xc wr hlx).mono ?_); rintro e w4 ⟨v4, rfl, ⟨A4, c4, rfl, hg4, hf4⟩, hb4⟩; replace ho := ho.below hb4; have hbw4 := bthen hb hb4)
        | ((with_reducible refine g_dst 21 ?_); go_must (refine ev_lit (v := fun g => .slice (some ⟨g, 0, none⟩) 1 1) 21 rfl (cs := encS ⟨A4, c4, xm⟩) (t := 22) (by go_simp; rfl) ?_); intro g6 w6 hb6 B6 hg6; have hg6l := B6.lt; replace ho := ho.below hb6; have hbw6 := bthen hbw4 hb6)
        | ((with_reducible refine g_dst 22 ?_); go_must (refine ev_append1 22 Tryd.underlying23 infoLL rfl (by decide) rfl ho ⟨A4, c4, xm⟩ rfl B6 rfl (oneS _) HB.out HM.out hbw6.size ?_); intro v7 w7 ho7 hg7 hor7; have hbw7 := ho.grown hbw6 hg7 (Nat.le_refl _) hbw6.size))
      go_roundw
      case rel =>
        exact ⟨k + 1, m ++ [⟨A4, c4, xm⟩], by omega, by rw [List.length_append, List.length_singleton]; exact hmk, by go_num, hbw7, ho7, ⟨CopyS.snoc h Hx.out hcp.out hft.out Hlt.out hb4 hb6 hg4 hf4 hb.size hg7⟩, ⟨foot_snoc hcp.out hft.out Hlt.out hb4.size (Nat.lt_of_le_of_lt hg6 hg6l) hf4 hor7⟩⟩
      case measure => simp [intOf]; omega
    · have htl : L.take k = L := List.take_of_length_le (by omega)
      have Hcp : As (CopyS w.heap.size wr m L) := ⟨htl ▸ hcp.out⟩
      have HT1 : As (prodV 4294967296 (m.map Sl.l) = T) := ⟨by rw [Hcp.out.ls]; exact HT0.out⟩
      have HLe : As (lens (m.map Sl.l) ≤ KT) := ⟨by rw [Hcp.out.ls]; exact HLle.out⟩
      have HT2 := HTb0
      obtain ⟨Am, cm, rfl, hcm, hcm2⟩ := ho.form
      have Hml : As (m.length = L.length) := ⟨Hcp.out.len⟩
      have F := F0.below hb
      have hcur := hb
      have hrL := hr.below hb
      have HLg : As (∀ y ∈ L, y.Good wr) := ⟨fun y hy => (HG.out y hy).below hb⟩
      have H12 : As (Sl.Good ⟨A1, c1, l1⟩ wr ∧ Sl.Good ⟨A2, c2, l2⟩ wr) := ⟨HSg.out.1.below hb, HSg.out.2.below hb⟩
      have Hass : As (V1 * V2 * T = V1 * (V2 * T)) := ⟨Nat.mul_assoc ..⟩
      obtain ⟨Q, hQ⟩ : ∃ Q : List Sl, Q = [⟨A1, c1, l1⟩, ⟨A2, c2, l2⟩] ++ L := ⟨_, rfl⟩
      have HQ := As.mk hQ
      have HQgood : As (∀ W, Below wr.heap.size wr W → ∀ y ∈ Q, y.Good W) := ⟨fun W hbW y hy => by
        rw [hQ] at hy
        rcases List.mem_append.1 hy with hy | hy
        · simp only [List.mem_cons, List.not_mem_nil, or_false] at hy
          rcases hy with rfl | rfl
          · exact H12.out.1.below hbW
          · exact H12.out.2.below hbW
        · exact (HLg.out y hy).below hbW⟩
      have HQl : As (Q.length = L.length + 2) := ⟨by rw [hQ, List.length_append]; simp; omega⟩
      have HTQ : As (prodV 4294967296 (Q.map Sl.l) = V1 * (V2 * T)) := ⟨by rw [hQ, List.map_append]; simp [prodV, HE.out.2.2.1, HE.out.2.2.2, HT0.out]⟩
      have HQe : As (lens (Q.map Sl.l) ≤ 274877906944) := ⟨by rw [hQ, List.map_append]; simp only [List.map_cons, List.map_nil, List.cons_append, List.nil_append, lens, HE.out.1, HE.out.2.1]; have := HLle.out; omega⟩
      have HTQ2 : As (V1 * (V2 * T) < 4294967296 ^ (k1 + (k2 + KT + 1) + 1)) := ⟨by
        have g1 : V1 < 4294967296 ^ k1 := (F0.out _ (List.mem_cons_of_mem _ (List.mem_cons_self ..))).lt
        have g2 : V2 < 4294967296 ^ k2 := (F0.out _ (List.mem_cons_self ..)).lt
        exact lt_pow_of_le (mul_lt_pow2 g1 (mul_lt_pow2 g2 HTb0.out)) (by omega)⟩
      have HB := As.mk (show (([⟨A1, c1, l1⟩, ⟨A2, c2, l2⟩] : List Sl).length + L.length) * 24 ≤ 140737488355328 from by simp; omega)
      have HM := As.mk (show ([⟨A1, c1, l1⟩, ⟨A2, c2, l2⟩] : List Sl).length + L.length ≤ maxLen from by simp [maxLen]; omega)
      clear htl hcp hft hb hQ F0 hr
      have hcr := Below.refl wr.heap.size wr
      go_wp2_with (first
        | (go_at_call 14; (with_reducible refine (cU F (by repeat (first | exact List.mem_cons_self .. | apply List.mem_cons_of_mem))).mono ?_); rintro e wn ⟨vn, rfl, ⟨An, cn, rfl, o⟩, hbn⟩; replace F := (F.below hbn).cons o; replace hcr := bthen hcr hbn; clear o hbn)
        | (go_at_call 26; (with_reducible refine (mulU F (by repeat (first | exact List.mem_cons_self .. | apply List.mem_cons_of_mem)) (by repeat (first | exact List.mem_cons_self .. | apply List.mem_cons_of_mem)) (by omega)).mono ?_); rintro e wn ⟨vn, rfl, ⟨An, nn, cn, rfl, o, _⟩, hbn⟩; replace F := (F.below hbn).cons o; replace hcr := bthen hcr hbn; clear o hbn)
        | ((with_reducible refine g_dst 30 ?_); go_must (refine ev_lit (v := fun g => .slice (some ⟨g, 0, none⟩) 2 2) 30 rfl (cs := [.slice A1 k1 c1, .slice A2 k2 c2]) (t := 22) (by go_simp; try rfl) ?_); intro gl wn hbn Bl hgl; replace F := F.below hbn; replace hcr := bthen hcr hbn; clear hbn)
        | (go_at_call 27; (with_reducible refine (rmulU F Bl (by repeat (first | exact List.mem_cons_self .. | apply List.mem_cons_of_mem)) (by repeat (first | exact List.mem_cons_self .. | apply List.mem_cons_of_mem)) (by omega)).mono ?_); rintro e wn ⟨vn, rfl, ⟨An, nn, cn, rfl, o, _⟩, hbn⟩; replace F := (F.below hbn).cons o; replace hcr := bthen hcr hbn; clear o hbn)
        | (go_at_call 15; (with_reducible refine (sU F (by repeat (first | exact List.mem_cons_self .. | apply List.mem_cons_of_mem)) (by repeat (first | exact List.mem_cons_self .. | apply List.mem_cons_of_mem)) (by first | with_reducible rfl | with_reducible exact Hass.out)).mono ?_); rintro e wn ⟨vn, rfl, rfl, hbn⟩; replace F := F.below hbn; replace hcr := bthen hcr hbn; clear hbn)
        | (go_at_call 26; (with_reducible refine (mulLU F (by repeat (first | exact List.mem_cons_self .. | apply List.mem_cons_of_mem)) (by repeat (first | exact List.mem_cons_self .. | apply List.mem_cons_of_mem)) m rfl ((ho.below hcr).rd lenS) (fun y hy => (Hcp.out.good y hy).below hcr) hcm (by rw [Hcp.out.len]; omega) HT1.out HT2.out HLe.out (by omega)).mono ?_); rintro e wn ⟨vn, rfl, ⟨An, nn, cn, rfl, o, _⟩, hbn⟩; replace F := (F.below hbn).cons o; replace hcr := bthen hcr hbn; clear o hbn)
        | ((with_reducible refine g_dst 42 ?_); go_must (refine ev_lit (v := fun g => .slice (some ⟨g, 0, none⟩) 2 2) 42 rfl (cs := [.slice A1 k1 c1, .slice A2 k2 c2]) (t := 22) (by go_simp; try rfl) ?_); intro g42 w42 hbn B42 hg42; have FB := F; have hcB := hcr; have hb42 := hbn; replace hcr := bthen hcr hbn; have B43 : Blk w42 g42 (([⟨A1, c1, l1⟩, ⟨A2, c2, l2⟩] : List Sl).map valS) 22 := (by simpa [valS, HE.out.1, HE.out.2.1] using B42); have f42 := B43.ow encS_one hg42 (by simp [maxLen]) 2 (Nat.le_refl _); simp only [List.take_succ_cons, List.take_zero, List.length_cons, List.length_nil] at f42)
        | ((with_reducible refine g_dst 44 ?_); go_must (refine ev_append 44 rfl Tryd.underlying23 infoLL rfl (by decide) rfl f42 rfl (rfl : L.length = L.length) (hrL.below hcr) lenS oneS HA.out HB.out HM.out hb42.size ?_); intro v44 w44 ho44 hg44; have hb44 := f42.grown hb42 hg44 (Nat.le_refl _) hb42.size; replace F := FB.below hb44; replace hcr := bthen hcB hb44; rw [← HQ.out] at ho44; obtain ⟨A44, c44, rfl, hc44, _⟩ := ho44.form)
        | (go_at_call 27; (with_reducible refine (rmulLU Q rfl (ho44.rd lenS) (HQgood.out _ hcr) hc44 (by rw [HQl.out]; omega) HTQ.out HQe.out HTQ2.out (by omega)).mono ?_); rintro e wn ⟨vn, rfl, ⟨An, nn, cn, rfl, o, _⟩, hbn⟩; replace F := (F.below hbn).cons o; replace hcr := bthen hcr hbn; clear o hbn)
        | (go_at_call 18; (with_reducible refine (awake01_any _ (HT.out.below (bthen hcur hcr))).mono ?_); rintro e wn ⟨vn, rfl, rfl, hbn⟩; replace hcr := bthen hcr hbn))
      go_ret
      exact ⟨_, rfl, rfl, bthen hcur hcr⟩
end Go.Proofs.YtbdcjlikjpdhfaaDoor
