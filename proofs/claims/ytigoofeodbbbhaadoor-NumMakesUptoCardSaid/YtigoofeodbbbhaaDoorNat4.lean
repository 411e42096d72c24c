/- nat.add, nat.Add: the sum of two, and of more. -/
import Derived.Test.YtigoofeodbbbhaaDoorNat2
import Derived.Test.YtigoofeodbbbhaaDoorMath8
import Derived.Test.YtigoofeodbbbhaaDoorRef3
namespace Go.Proofs.YtigoofeodbbbhaaDoor
open Go.RowKit Go.Proofs.YtigoofeodbbbhaaDoorL Go.Proofs.YtigoofeodbbbhaaDoorM
set_option linter.unusedVariables false
set_option linter.unusedSimpArgs false
set_option maxHeartbeats 1000000 in
theorem add_any (l m : List Nat) (A A2 : Option Addr) (c c2 : Nat) (w : World) (hr : Rd encU 1 w A l) (hr2 : Rd encU 1 w A2 m) (hl : (∀ x ∈ l, x < 4294967296) ∧ (∀ x ∈ m, x < 4294967296)) (hc : l.length ≤ c) (hc2 : m.length ≤ c2) (hm : l.length * 4 + 4 ≤ 140737488355328) (hm2 : m.length * 4 + 4 ≤ 140737488355328) :
    Calls Tryd.prog 97 #[.slice A l.length c, .slice A2 m.length c2] w (Gives w fun v w' => Ow encU 1 62 w.heap.size w' v (digB 4294967296 (valB 4294967296 l + valB 4294967296 m))) := by
  by_cases hlm : l.length < m.length
  · have z0 : decide ((l.length : Int) < (m.length : Int)) = true := by simp; omega
    have z1 : decide (l.length < m.length) = true := by simp; omega
    have HL := As.mk hl
    have hle : l.length ≤ m.length := by omega
    go_enter Tryd.func97, Tryd.ntmps97
    go_wp2_with ((with_reducible refine g_dst 19 ?_); go_must (refine ev_make 19 rfl Tryd.underlying24 infoU rfl (n := m.length + 1) (by go_simp; rfl) (by go_simp; rfl) (by omega) (by omega) ?_); intro g w1 hb1 B1 hg)
    go_loopw [6, 22, 7, 8] (fun v u y z wr => ∃ k cy : Nat, ∃ S : List Nat, k ≤ m.length ∧ cy ≤ 1 ∧ S.length = k ∧ v = .int .u64 (cy : Int) ∧ u = .int .i64 (k : Int) ∧ As (∀ x ∈ S, x < 4294967296) ∧ As (valB 4294967296 S + 4294967296 ^ k * cy = valB 4294967296 (m.take k) + valB 4294967296 (l.take k)) ∧ Below w.heap.size w wr ∧ Blk wr g ((S ++ List.replicate (m.length + 1 - k) 0).map valU) 62) (fun v u y z _ => m.length - (intOf u).toNat)
    case atStart => exact ⟨0, 0, [], by omega, by omega, rfl, rfl, rfl, ⟨by simp⟩, ⟨by simp [valB]⟩, hb1, by simpa [valU] using B1⟩
    case round =>
      obtain ⟨k, cy, S, hk, hcy, hS, rfl, rfl, hSl, hV, hb, B⟩ := hrel
      by_cases h : k < m.length
      · obtain ⟨b, off, rfl⟩ := hr2.get (ne_nil_of_lt h)
        have hcell := Rd.u (hr2.below hb) k h
        have hx : m[k] < 4294967296 := HL.out.2 _ (List.getElem_mem h)
        have hgx : m.getD k 0 = m[k] := by simp [List.getD, List.getElem?_eq_getElem h]
        have hrep : m.length + 1 - k = (m.length + 1 - (k + 1)) + 1 := by omega
        rw [hrep] at B
        have HrepL := As.mk hrep
        clear hrep
        obtain ⟨x, hxe⟩ : ∃ x, x = m[k] := ⟨_, rfl⟩
        rw [← hxe] at hcell hx hgx
        have hy := getD_lt 4294967296 (by omega) l HL.out.1 k
        obtain ⟨y, hye⟩ : ∃ y, y = l.getD k 0 := ⟨_, rfl⟩
        rw [← hye] at hy
        have hst := add_step 4294967296 (by omega) m l S k cy hS hV.out
        rw [hgx, ← hye] at hst
        obtain ⟨T, hT⟩ : ∃ T, T = x + y + cy := ⟨_, rfl⟩
        rw [← hT] at hst
        obtain ⟨lo, hlo⟩ : ∃ lo, lo = T % 4294967296 := ⟨_, rfl⟩
        obtain ⟨hi, hhi⟩ : ∃ hi, hi = T / 4294967296 := ⟨_, rfl⟩
        rw [← hlo, ← hhi] at hst
        have hlo' : lo < 4294967296 := by omega
        have hhi' : hi ≤ 1 := by omega
        have hTb : T < 8589934592 := by omega
        have e1 : IntKind.u32.wrap (T : Int) = (lo : Int) := by rw [hlo]; simp [IntKind.wrap, IntKind.bits, IntKind.signed]
        have e2 : ((T : Int) / 4294967296) = (hi : Int) := by rw [hhi]; rfl
        have hS2 := As.mk (snoc_lt hSl.out hlo')
        have Hst := As.mk hst
        have HS := As.mk hS
        have hput : k < (S ++ List.replicate (m.length + 1 - (k + 1) + 1) 0).length := by simp; omega
        have hfill : (S ++ List.replicate (m.length + 1 - (k + 1) + 1) 0).set k lo = (S ++ [lo]) ++ List.replicate (m.length + 1 - (k + 1)) 0 := fill_up 0 lo _ S k hS
        have Hfill := As.mk hfill
        have Hput := As.mk hput
        clear hst hS hlo hhi hxe hgx hV hSl hfill hput
        by_cases h2 : k < l.length
        · obtain ⟨b2, off2, rfl⟩ := hr.get (ne_nil_of_lt h2)
          have hcell2 := Rd.u (hr.below hb) k h2
          have hy2 : l[k] = y := by rw [hye]; simp [List.getD, List.getElem?_eq_getElem h2]
          rw [hy2] at hcell2
          have e0 : ((cy : Int) + (x : Int) + (y : Int)) = (T : Int) := by rw [hT]; simp; omega
          have hT2 := As.mk hT
          clear hye hy2 hT
          go_wp2_with ((with_reducible refine g_store 46 ?_); go_must (refine ev_set rfl (by go_simp) B (u := lo) (by go_simp; rfl) infoU Hput.out (by rfl) ?_); intro w2 ho B2; rw [Hfill.out] at B2)
          go_roundw
          case rel => exact ⟨k + 1, hi, S ++ [lo], by omega, hhi', by rw [List.length_append, HS.out]; rfl, by go_num, by go_num, hS2, Hst, hb.trans (ho.below hg), B2⟩
          case measure => simp [intOf]; omega
        · have hy2 : y = 0 := by rw [hye]; simp [List.getD, List.getElem?_eq_none (Nat.le_of_not_lt h2)]
          have e0 : ((cy : Int) + (x : Int)) = (T : Int) := by rw [hT, hy2]; simp; omega
          have hT2 := As.mk hT
          clear hye hy2 hT
          go_wp2_with ((with_reducible refine g_store 46 ?_); go_must (refine ev_set rfl (by go_simp) B (u := lo) (by go_simp; rfl) infoU Hput.out (by rfl) ?_); intro w2 ho B2; rw [Hfill.out] at B2)
          go_roundw
          case rel => exact ⟨k + 1, hi, S ++ [lo], by omega, hhi', by rw [List.length_append, HS.out]; rfl, by go_num, by go_num, hS2, Hst, hb.trans (ho.below hg), B2⟩
          case measure => simp [intOf]; omega
      · have hkl : k = m.length := by omega
        subst hkl
        have hv := hV.out
        rw [List.take_of_length_le (Nat.le_refl _), List.take_of_length_le (i := m.length) hle] at hv
        have hput : m.length < (S ++ List.replicate (m.length + 1 - m.length) 0).length := by simp; omega
        have hfill : (S ++ List.replicate (m.length + 1 - m.length) 0).set m.length cy = S ++ [cy] := by
          rw [show m.length + 1 - m.length = 0 + 1 by omega, fill_up 0 cy 0 S _ hS]; simp
        have hcy2 : cy < 4294967296 := by omega
        have htr : trimL (S ++ [cy]) = digB 4294967296 (valB 4294967296 m + valB 4294967296 l) := by
          rw [trimL_dig 4294967296 (by omega) _ (snoc_lt hSl.out hcy2), valB_snoc, hS, hv]
        have Hn : As ((S ++ [cy]).length = m.length + 1) := ⟨by rw [List.length_append, hS]; rfl⟩
        have Htr := As.mk htr
        have Hfill := As.mk hfill
        have Hput := As.mk hput
        have hl4 : m.length + 1 ≤ 9223372036854775807 := by omega
        clear htr hfill hput hv hS hV hSl
        go_wp2_with (first
          | ((with_reducible refine g_store 55 ?_); go_must (refine ev_set rfl (by go_simp) B (u := cy) (by go_simp; rfl) infoU Hput.out (by rfl) ?_); intro w2 ho B2; rw [Hfill.out] at B2; have hrd' := B2.rdm encU_one; have hbw2 := hb.trans (ho.below hg))
          | (go_at_call 73; (with_reducible refine (trim_n (S ++ [cy]) (m.length + 1) Hn.out _ _ _ hrd' (by omega) hl4).mono ?_); rintro e w3 ⟨rfl, rfl⟩))
        go_ret
        refine ⟨_, rfl, ?_, hbw2⟩
        have := B2.ow (base := w.heap.size) encU_one hg (by rw [Hn.out]; simp only [maxLen]; omega) (trimL (S ++ [cy])).length (trimL_le _)
        rw [← trimL_take, Htr.out, Hn.out] at this
        rw [Htr.out]
        rw [Nat.add_comm (valB 4294967296 l)]
        exact this
  · have z0 : decide ((l.length : Int) < (m.length : Int)) = false := by simp; omega
    have z1 : decide (l.length < m.length) = false := by simp; omega
    have HL := As.mk hl
    have hle : m.length ≤ l.length := by omega
    go_enter Tryd.func97, Tryd.ntmps97
    go_wp2_with ((with_reducible refine g_dst 19 ?_); go_must (refine ev_make 19 rfl Tryd.underlying24 infoU rfl (n := l.length + 1) (by go_simp; rfl) (by go_simp; rfl) (by omega) (by omega) ?_); intro g w1 hb1 B1 hg)
    go_loopw [6, 22, 7, 8] (fun v u y z wr => ∃ k cy : Nat, ∃ S : List Nat, k ≤ l.length ∧ cy ≤ 1 ∧ S.length = k ∧ v = .int .u64 (cy : Int) ∧ u = .int .i64 (k : Int) ∧ As (∀ x ∈ S, x < 4294967296) ∧ As (valB 4294967296 S + 4294967296 ^ k * cy = valB 4294967296 (l.take k) + valB 4294967296 (m.take k)) ∧ Below w.heap.size w wr ∧ Blk wr g ((S ++ List.replicate (l.length + 1 - k) 0).map valU) 62) (fun v u y z _ => l.length - (intOf u).toNat)
    case atStart => exact ⟨0, 0, [], by omega, by omega, rfl, rfl, rfl, ⟨by simp⟩, ⟨by simp [valB]⟩, hb1, by simpa [valU] using B1⟩
    case round =>
      obtain ⟨k, cy, S, hk, hcy, hS, rfl, rfl, hSl, hV, hb, B⟩ := hrel
      by_cases h : k < l.length
      · obtain ⟨b, off, rfl⟩ := hr.get (ne_nil_of_lt h)
        have hcell := Rd.u (hr.below hb) k h
        have hx : l[k] < 4294967296 := HL.out.1 _ (List.getElem_mem h)
        have hgx : l.getD k 0 = l[k] := by simp [List.getD, List.getElem?_eq_getElem h]
        have hrep : l.length + 1 - k = (l.length + 1 - (k + 1)) + 1 := by omega
        rw [hrep] at B
        have HrepL := As.mk hrep
        clear hrep
        obtain ⟨x, hxe⟩ : ∃ x, x = l[k] := ⟨_, rfl⟩
        rw [← hxe] at hcell hx hgx
        have hy := getD_lt 4294967296 (by omega) m HL.out.2 k
        obtain ⟨y, hye⟩ : ∃ y, y = m.getD k 0 := ⟨_, rfl⟩
        rw [← hye] at hy
        have hst := add_step 4294967296 (by omega) l m S k cy hS hV.out
        rw [hgx, ← hye] at hst
        obtain ⟨T, hT⟩ : ∃ T, T = x + y + cy := ⟨_, rfl⟩
        rw [← hT] at hst
        obtain ⟨lo, hlo⟩ : ∃ lo, lo = T % 4294967296 := ⟨_, rfl⟩
        obtain ⟨hi, hhi⟩ : ∃ hi, hi = T / 4294967296 := ⟨_, rfl⟩
        rw [← hlo, ← hhi] at hst
        have hlo' : lo < 4294967296 := by omega
        have hhi' : hi ≤ 1 := by omega
        have hTb : T < 8589934592 := by omega
        have e1 : IntKind.u32.wrap (T : Int) = (lo : Int) := by rw [hlo]; simp [IntKind.wrap, IntKind.bits, IntKind.signed]
        have e2 : ((T : Int) / 4294967296) = (hi : Int) := by rw [hhi]; rfl
        have hS2 := As.mk (snoc_lt hSl.out hlo')
        have Hst := As.mk hst
        have HS := As.mk hS
        have hput : k < (S ++ List.replicate (l.length + 1 - (k + 1) + 1) 0).length := by simp; omega
        have hfill : (S ++ List.replicate (l.length + 1 - (k + 1) + 1) 0).set k lo = (S ++ [lo]) ++ List.replicate (l.length + 1 - (k + 1)) 0 := fill_up 0 lo _ S k hS
        have Hfill := As.mk hfill
        have Hput := As.mk hput
        clear hst hS hlo hhi hxe hgx hV hSl hfill hput
        by_cases h2 : k < m.length
        · obtain ⟨b2, off2, rfl⟩ := hr2.get (ne_nil_of_lt h2)
          have hcell2 := Rd.u (hr2.below hb) k h2
          have hy2 : m[k] = y := by rw [hye]; simp [List.getD, List.getElem?_eq_getElem h2]
          rw [hy2] at hcell2
          have e0 : ((cy : Int) + (x : Int) + (y : Int)) = (T : Int) := by rw [hT]; simp; omega
          have hT2 := As.mk hT
          clear hye hy2 hT
          go_wp2_with ((with_reducible refine g_store 46 ?_); go_must (refine ev_set rfl (by go_simp) B (u := lo) (by go_simp; rfl) infoU Hput.out (by rfl) ?_); intro w2 ho B2; rw [Hfill.out] at B2)
          go_roundw
          case rel => exact ⟨k + 1, hi, S ++ [lo], by omega, hhi', by rw [List.length_append, HS.out]; rfl, by go_num, by go_num, hS2, Hst, hb.trans (ho.below hg), B2⟩
          case measure => simp [intOf]; omega
        · have hy2 : y = 0 := by rw [hye]; simp [List.getD, List.getElem?_eq_none (Nat.le_of_not_lt h2)]
          have e0 : ((cy : Int) + (x : Int)) = (T : Int) := by rw [hT, hy2]; simp; omega
          have hT2 := As.mk hT
          clear hye hy2 hT
          go_wp2_with ((with_reducible refine g_store 46 ?_); go_must (refine ev_set rfl (by go_simp) B (u := lo) (by go_simp; rfl) infoU Hput.out (by rfl) ?_); intro w2 ho B2; rw [Hfill.out] at B2)
          go_roundw
          case rel => exact ⟨k + 1, hi, S ++ [lo], by omega, hhi', by rw [List.length_append, HS.out]; rfl, by go_num, by go_num, hS2, Hst, hb.trans (ho.below hg), B2⟩
          case measure => simp [intOf]; omega
      · have hkl : k = l.length := by omega
        subst hkl
        have hv := hV.out
        rw [List.take_of_length_le (Nat.le_refl _), List.take_of_length_le (i := l.length) hle] at hv
        have hput : l.length < (S ++ List.replicate (l.length + 1 - l.length) 0).length := by simp; omega
        have hfill : (S ++ List.replicate (l.length + 1 - l.length) 0).set l.length cy = S ++ [cy] := by
          rw [show l.length + 1 - l.length = 0 + 1 by omega, fill_up 0 cy 0 S _ hS]; simp
        have hcy2 : cy < 4294967296 := by omega
        have htr : trimL (S ++ [cy]) = digB 4294967296 (valB 4294967296 l + valB 4294967296 m) := by
          rw [trimL_dig 4294967296 (by omega) _ (snoc_lt hSl.out hcy2), valB_snoc, hS, hv]
        have Hn : As ((S ++ [cy]).length = l.length + 1) := ⟨by rw [List.length_append, hS]; rfl⟩
        have Htr := As.mk htr
        have Hfill := As.mk hfill
        have Hput := As.mk hput
        have hl4 : l.length + 1 ≤ 9223372036854775807 := by omega
        clear htr hfill hput hv hS hV hSl
        go_wp2_with (first
          | ((with_reducible refine g_store 55 ?_); go_must (refine ev_set rfl (by go_simp) B (u := cy) (by go_simp; rfl) infoU Hput.out (by rfl) ?_); intro w2 ho B2; rw [Hfill.out] at B2; have hrd' := B2.rdm encU_one; have hbw2 := hb.trans (ho.below hg))
          | (go_at_call 73; (with_reducible refine (trim_n (S ++ [cy]) (l.length + 1) Hn.out _ _ _ hrd' (by omega) hl4).mono ?_); rintro e w3 ⟨rfl, rfl⟩))
        go_ret
        refine ⟨_, rfl, ?_, hbw2⟩
        have := B2.ow (base := w.heap.size) encU_one hg (by rw [Hn.out]; simp only [maxLen]; omega) (trimL (S ++ [cy])).length (trimL_le _)
        rw [← trimL_take, Htr.out, Hn.out] at this
        rw [Htr.out]
        exact this
end Go.Proofs.YtigoofeodbbbhaaDoor
