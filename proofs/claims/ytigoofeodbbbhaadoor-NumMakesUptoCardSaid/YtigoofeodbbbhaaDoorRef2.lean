/- tandemref01: full, add, Add: what they compute, in numbers. -/
import Derived.Test.YtigoofeodbbbhaaDoorRef1
namespace Go.Proofs.YtigoofeodbbbhaaDoor
open Go.RowKit Go.Proofs.YtigoofeodbbbhaaDoorL Go.Proofs.YtigoofeodbbbhaaDoorM
set_option linter.unusedVariables false
set_option linter.unusedSimpArgs false
set_option maxHeartbeats 400000 in
theorem full_any (l : List Nat) (n : Nat) (hn : l.length = n) (A : Option Addr) (c : Nat) (w : World) (hr : Rd encI 1 w A l) (hl : ∀ x ∈ l, x < 65536) (hc : n ≤ c) (hA : A = none → c = 0) (hm : n ≤ 1099511627776) :
    Calls Tryd.prog 86 #[.slice A n c] w (Gives w fun v w' => Ow encU 1 62 w.heap.size w' v (digB 4294967296 (valB 65536 l))) := by
  subst hn
  obtain ⟨L, hL⟩ : ∃ L, L = digB 65536 (valB 65536 l) := ⟨_, rfl⟩
  have htr : As (trimL l = L) := ⟨by rw [hL]; exact trimL_dig 65536 (by omega) l hl⟩
  have hLl : As (∀ x ∈ L, x < 65536) := ⟨by rw [hL]; exact digB_lt 65536 (by omega) _⟩
  have hLe : L.length ≤ l.length := by rw [← htr.out]; exact trimL_le l
  have hP : As (pairs L = digB 4294967296 (valB 65536 l)) := ⟨by rw [hL]; exact pairs_dig _⟩
  clear hL hl
  go_enter Tryd.func86, Tryd.ntmps86
  go_wp2_with (go_at_call 82; (with_reducible refine (rtrim_any l l.length rfl _ _ _ hr hc hA (by omega)).mono ?_); rintro e w1 ⟨v1, rfl, ho1, hb1⟩; rw [htr.out] at ho1; obtain ⟨A1, c1, rfl, h1, h2⟩ := ho1.form; have hr1 := ho1.rd lenI)
  go_loopw [3, 4, 5] (fun v u y wr => ∃ i k : Nat, As (i = 2 * k) ∧ i ≤ L.length + 1 ∧ u = .int .i64 (i : Int) ∧ Below w1.heap.size w1 wr ∧ Ow encU 1 62 w1.heap.size wr v ((pairs L).take k)) (fun v u y _ => L.length + 2 - (intOf u).toNat)
  case atStart => exact ⟨0, 0, ⟨rfl⟩, by omega, rfl, Below.refl _ _, Ow.nil _ _ _ _ _⟩
  case round =>
    obtain ⟨i, k, hik, hi, rfl, hbw, ho⟩ := hrel
    have hkl : k ≤ L.length + 1 := by have := hik.out; omega
    have HB := As.mk (show (((pairs L).take k).length + 1) * 4 ≤ 140737488355328 from by rw [List.length_take, pairs_len]; omega)
    have HM := As.mk (show ((pairs L).take k).length + 1 ≤ maxLen from by rw [List.length_take, pairs_len]; simp only [maxLen]; omega)
    by_cases h : i < L.length
    · obtain ⟨b, off, rfl⟩ := (hr1.below hbw).get (ne_nil_of_lt h)
      have hcell := Rd.i (hr1.below hbw) i h
      have hx := hLl.out _ (List.getElem_mem h)
      obtain ⟨x, hxe⟩ : ∃ x, x = L[i] := ⟨_, rfl⟩
      rw [← hxe] at hcell hx
      by_cases h2 : i + 1 < L.length
      · have hcell2 := Rd.i (hr1.below hbw) (i + 1) h2
        have hy := hLl.out _ (List.getElem_mem h2)
        obtain ⟨y, hye⟩ : ∃ y, y = L[i + 1] := ⟨_, rfl⟩
        rw [← hye] at hcell2 hy
        have ht : As ((pairs L).take k ++ [x + y * 65536] = (pairs L).take (k + 1)) := ⟨by
          have hi2 := hik.out
          subst hi2
          have := pairs_take_two L k h2
          rw [← hxe, ← hye] at this; exact this⟩
        obtain ⟨z, hz⟩ : ∃ z, z = x + y * 65536 := ⟨_, rfl⟩
        rw [← hz] at ht
        have hz2 : ((x : Int) + (y : Int) * 65536) = (z : Int) := by rw [hz]; simp
        have hz3 : z < 4294967296 := by omega
        clear hxe hye hz
        go_wp2_with (first
          | ((with_reducible refine g_dst 35 ?_); go_must (refine ev_lit (v := fun g => .slice (some ⟨g, 0, none⟩) 1 1) 35 rfl (cs := [valU z]) (t := 62) (by go_simp; rfl) ?_); intro g2 w2 hb2 B2 hg2; replace ho := ho.below hb2; have hbw2 := bthen hbw hb2; clear hb2)
          | ((with_reducible refine g_dst 36 ?_); go_must (refine ev_append 36 rfl Tryd.underlying24 infoU rfl (by decide) rfl ho rfl rfl (B2.rdm (l := [z]) encU_one) lenU oneU (fun h => by cases h) HB.out HM.out hbw2.size ?_); intro v3 w3 ho3 hg3; have hbw3 := ho.grown hbw2 hg3 (Nat.le_refl _) hbw2.size))
        go_roundw
        case rel => exact ⟨i + 2, k + 1, ⟨by have := hik.out; omega⟩, by omega, by go_num, hbw3, by rw [← ht.out]; exact ho3⟩
        case measure => simp [intOf]; omega
      · have ht : As ((pairs L).take k ++ [x] = (pairs L).take (k + 1)) := ⟨by
          have hi2 := hik.out
          subst hi2
          have := pairs_take_one L k (by omega)
          rw [← hxe] at this; exact this⟩
        have hx3 : x < 4294967296 := by omega
        clear hxe
        go_wp2_with (first
          | ((with_reducible refine g_dst 35 ?_); go_must (refine ev_lit (v := fun g => .slice (some ⟨g, 0, none⟩) 1 1) 35 rfl (cs := [valU x]) (t := 62) (by go_simp; rfl) ?_); intro g2 w2 hb2 B2 hg2; replace ho := ho.below hb2; have hbw2 := bthen hbw hb2; clear hb2)
          | ((with_reducible refine g_dst 36 ?_); go_must (refine ev_append 36 rfl Tryd.underlying24 infoU rfl (by decide) rfl ho rfl rfl (B2.rdm (l := [x]) encU_one) lenU oneU (fun h => by cases h) HB.out HM.out hbw2.size ?_); intro v3 w3 ho3 hg3; have hbw3 := ho.grown hbw2 hg3 (Nat.le_refl _) hbw2.size))
        go_roundw
        case rel => exact ⟨i + 2, k + 1, ⟨by have := hik.out; omega⟩, by omega, by go_num, hbw3, by rw [← ht.out]; exact ho3⟩
        case measure => simp [intOf]; omega
    · have hf : As ((pairs L).take k = digB 4294967296 (valB 65536 l)) := ⟨by
        rw [List.take_of_length_le (by rw [pairs_len]; have := hik.out; omega)]; exact hP.out⟩
      go_wp2
      go_ret
      exact ⟨_, rfl, by rw [← hf.out]; exact ho.lower hb1.size, bthen hb1 hbw⟩
theorem valB_zero_of_le (B : Nat) (l : List Nat) (k : Nat) (h : l.length ≤ k) : l.take k = l := List.take_of_length_le h
set_option maxHeartbeats 400000 in
theorem radd_any (l m : List Nat) (n n2 : Nat) (hn : l.length = n) (hn2 : m.length = n2) (A A2 : Option Addr) (c c2 : Nat) (w : World) (hr : Rd encI 1 w A l) (hr2 : Rd encI 1 w A2 m) (hl : ∀ x ∈ l, x < 65536) (hl2 : ∀ x ∈ m, x < 65536) (hc : n ≤ c) (hc2 : n2 ≤ c2) (hm : n ≤ 4398046511104) (hm2 : n2 ≤ 4398046511104) :
    Calls Tryd.prog 91 #[.slice A n c, .slice A2 n2 c2] w (Gives w fun v w' => Ow encI 1 3 w.heap.size w' v (digB 65536 (valB 65536 l + valB 65536 m))) := by
  subst hn hn2
  have HL := As.mk hl
  have HL2 := As.mk hl2
  clear hl hl2
  go_enter Tryd.func91, Tryd.ntmps91
  go_wp2
  go_loopw [5, 6, 7, 8] (fun v y u z wr => ∃ k cy : Nat, ∃ S : List Nat, k ≤ l.length + m.length ∧ cy ≤ 1 ∧ S.length = k ∧ y = .int .i64 (cy : Int) ∧ u = .int .i64 (k : Int) ∧ As (∀ x ∈ S, x < 65536) ∧ As (valB 65536 S + 65536 ^ k * cy = valB 65536 (l.take k) + valB 65536 (m.take k)) ∧ Below w.heap.size w wr ∧ Ow encI 1 3 w.heap.size wr v S) (fun v y u z _ => l.length + m.length - (intOf u).toNat)
  case atStart => exact ⟨0, 0, [], by omega, by omega, rfl, rfl, rfl, ⟨by simp⟩, ⟨by simp [valB]⟩, Below.refl _ _, Ow.nil _ _ _ _ _⟩
  case round =>
    obtain ⟨k, cy, S, hk, hcy, hS, rfl, rfl, hSl, hV, hb, ho⟩ := hrel
    have HB := As.mk (show (S.length + 1) * 8 ≤ 140737488355328 from by rw [hS]; omega)
    have HM := As.mk (show S.length + 1 ≤ maxLen from by rw [hS]; simp only [maxLen]; omega)
    have HS := As.mk hS
    clear hS
    by_cases h : k < l.length
    · have hx := getD_lt 65536 (by omega) l HL.out k
      have hy := getD_lt 65536 (by omega) m HL2.out k
      have hst := add_step 65536 (by omega) l m S k cy HS.out hV.out
      obtain ⟨x, hxe⟩ : ∃ x, x = l.getD k 0 := ⟨_, rfl⟩
      obtain ⟨y, hye⟩ : ∃ y, y = m.getD k 0 := ⟨_, rfl⟩
      have hat1 := at_any l l.length rfl A c k wr (hr.below hb) hc (by omega) (by omega)
      have hat2 := at_any m m.length rfl A2 c2 k wr (hr2.below hb) hc2 (by omega) (by omega)
      rw [← hxe] at hat1 hx hst
      rw [← hye] at hat2 hy hst
      obtain ⟨q1, hq1⟩ : ∃ q, q = (x + y + cy) % 65536 := ⟨_, rfl⟩
      obtain ⟨q2, hq2⟩ : ∃ q, q = (x + y + cy) / 65536 := ⟨_, rfl⟩
      rw [← hq1, ← hq2] at hst
      have e0 : ((x : Int) + (y : Int) + (cy : Int)) = ((x + y + cy : Nat) : Int) := by simp
      have e1 : (((x : Int) + (y : Int) + (cy : Int)).tmod 65536) = (q1 : Int) := by rw [Int.tmod_eq_emod_of_nonneg (by omega), hq1, e0]; rfl
      have e2 : (((x : Int) + (y : Int) + (cy : Int)).tdiv 65536) = (q2 : Int) := by rw [Int.tdiv_eq_ediv_of_nonneg (by omega), hq2, e0]; rfl
      have hq1' : q1 < 65536 := by omega
      have hq2' : q2 ≤ 1 := by omega
      have Hst := As.mk hst
      have Hat1 := As.mk hat1
      have Hat2 := As.mk hat2
      clear hxe hye hq1 hq2 hst hat1 hat2 e0
      have hS2 : As (∀ z ∈ S ++ [q1], z < 65536) := ⟨fun z hz => by
        rcases List.mem_append.1 hz with h | h
        · exact hSl.out z h
        · simp at h; omega⟩
      go_wp2_with (first
        | (go_at_call 99; (with_reducible refine Hat1.out.mono ?_); rintro e w2 ⟨rfl, rfl⟩)
        | (go_at_call 99; (with_reducible refine Hat2.out.mono ?_); rintro e w2 ⟨rfl, rfl⟩)
        | ((with_reducible refine g_dst 33 ?_); go_must (refine ev_lit (v := fun g => .slice (some ⟨g, 0, none⟩) 1 1) 33 rfl (cs := [valI q1]) (t := 3) (by go_simp; rfl) ?_); intro g2 w2 hb2 B2 hg2; replace ho := ho.below hb2; have hbw2 := bthen hb hb2; clear hb2)
        | ((with_reducible refine g_dst 34 ?_); go_must (refine ev_append 34 rfl Tryd.underlying80 infoI rfl (by decide) rfl ho rfl rfl (B2.rdm (l := [q1]) encI_one) lenI oneI (fun h => by cases h) HB.out HM.out hbw2.size ?_); intro v3 w3 ho3 hg3; have hbw3 := ho.grown hbw2 hg3 (Nat.le_refl _) hbw2.size))
      go_roundw
      case rel => exact ⟨k + 1, q2, S ++ [q1], by omega, by omega, by rw [List.length_append, HS.out]; rfl, by go_num, by go_num, hS2, ⟨Hst.out⟩, hbw3, ho3⟩
      case measure => simp [intOf]; omega
    · by_cases h2 : k < m.length
      · have hx := getD_lt 65536 (by omega) l HL.out k
        have hy := getD_lt 65536 (by omega) m HL2.out k
        have hst := add_step 65536 (by omega) l m S k cy HS.out hV.out
        obtain ⟨x, hxe⟩ : ∃ x, x = l.getD k 0 := ⟨_, rfl⟩
        obtain ⟨y, hye⟩ : ∃ y, y = m.getD k 0 := ⟨_, rfl⟩
        have hat1 := at_any l l.length rfl A c k wr (hr.below hb) hc (by omega) (by omega)
        have hat2 := at_any m m.length rfl A2 c2 k wr (hr2.below hb) hc2 (by omega) (by omega)
        rw [← hxe] at hat1 hx hst
        rw [← hye] at hat2 hy hst
        obtain ⟨q1, hq1⟩ : ∃ q, q = (x + y + cy) % 65536 := ⟨_, rfl⟩
        obtain ⟨q2, hq2⟩ : ∃ q, q = (x + y + cy) / 65536 := ⟨_, rfl⟩
        rw [← hq1, ← hq2] at hst
        have e0 : ((x : Int) + (y : Int) + (cy : Int)) = ((x + y + cy : Nat) : Int) := by simp
        have e1 : (((x : Int) + (y : Int) + (cy : Int)).tmod 65536) = (q1 : Int) := by rw [Int.tmod_eq_emod_of_nonneg (by omega), hq1, e0]; rfl
        have e2 : (((x : Int) + (y : Int) + (cy : Int)).tdiv 65536) = (q2 : Int) := by rw [Int.tdiv_eq_ediv_of_nonneg (by omega), hq2, e0]; rfl
        have hq1' : q1 < 65536 := by omega
        have hq2' : q2 ≤ 1 := by omega
        have Hst := As.mk hst
        have Hat1 := As.mk hat1
        have Hat2 := As.mk hat2
        clear hxe hye hq1 hq2 hst hat1 hat2 e0
        have hS2 : As (∀ z ∈ S ++ [q1], z < 65536) := ⟨fun z hz => by
          rcases List.mem_append.1 hz with h | h
          · exact hSl.out z h
          · simp at h; omega⟩
        go_wp2_with (first
          | (go_at_call 99; (with_reducible refine Hat1.out.mono ?_); rintro e w2 ⟨rfl, rfl⟩)
          | (go_at_call 99; (with_reducible refine Hat2.out.mono ?_); rintro e w2 ⟨rfl, rfl⟩)
          | ((with_reducible refine g_dst 33 ?_); go_must (refine ev_lit (v := fun g => .slice (some ⟨g, 0, none⟩) 1 1) 33 rfl (cs := [valI q1]) (t := 3) (by go_simp; rfl) ?_); intro g2 w2 hb2 B2 hg2; replace ho := ho.below hb2; have hbw2 := bthen hb hb2; clear hb2)
          | ((with_reducible refine g_dst 34 ?_); go_must (refine ev_append 34 rfl Tryd.underlying80 infoI rfl (by decide) rfl ho rfl rfl (B2.rdm (l := [q1]) encI_one) lenI oneI (fun h => by cases h) HB.out HM.out hbw2.size ?_); intro v3 w3 ho3 hg3; have hbw3 := ho.grown hbw2 hg3 (Nat.le_refl _) hbw2.size))
        go_roundw
        case rel => exact ⟨k + 1, q2, S ++ [q1], by omega, by omega, by rw [List.length_append, HS.out]; rfl, by go_num, by go_num, hS2, ⟨Hst.out⟩, hbw3, ho3⟩
        case measure => simp [intOf]; omega
      · have ht1 : l.take k = l := List.take_of_length_le (by omega)
        have ht2 : m.take k = m := List.take_of_length_le (by omega)
        have hv2 := hV.out
        rw [ht1, ht2] at hv2
        have htr : As (trimL (S ++ [cy]) = digB 65536 (valB 65536 l + valB 65536 m)) := ⟨by
          rw [trimL_dig 65536 (by omega) _ (fun z hz => by
            rcases List.mem_append.1 hz with h | h
            · exact hSl.out z h
            · simp at h; omega), valB_snoc, HS.out, hv2]⟩
        have hlen : As (S.length + 1 ≤ 17592186044416) := ⟨by rw [HS.out]; omega⟩
        clear ht1 ht2 hv2
        go_wp2_with (first
          | ((with_reducible refine g_dst 39 ?_); go_must (refine ev_lit (v := fun g => .slice (some ⟨g, 0, none⟩) 1 1) 39 rfl (cs := [valI cy]) (t := 3) (by go_simp; rfl) ?_); intro g2 w2 hb2 B2 hg2; replace ho := ho.below hb2; have hbw2 := bthen hb hb2; clear hb2)
          | ((with_reducible refine g_dst 40 ?_); go_must (refine ev_append 40 rfl Tryd.underlying80 infoI rfl (by decide) rfl ho rfl rfl (B2.rdm (l := [cy]) encI_one) lenI oneI (fun h => by cases h) HB.out HM.out hbw2.size ?_); intro v3 w3 ho3 hg3; have hbw3 := ho.grown hbw2 hg3 (Nat.le_refl _) hbw2.size; obtain ⟨A3, c3, rfl, h31, h32⟩ := ho3.form; have hr3 := ho3.rd lenI)
          | (go_at_call 82; (with_reducible refine (rtrim_any (S ++ [cy]) (S.length + 1) (by simp) _ _ _ hr3 (by simpa using h31) ho3.none hlen.out).mono ?_); rintro e w4 ⟨v4, rfl, ho4, hb4⟩))
        go_ret
        exact ⟨_, rfl, by rw [← htr.out]; exact ho4.lower hbw3.size, bthen hbw3 hb4⟩
end Go.Proofs.YtigoofeodbbbhaaDoor
