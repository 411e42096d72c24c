/- tandemref01: mul, Mul: products. -/
import Derived.Test.YtigoofeodbbbhaaDoorRef4
import Derived.Test.YtigoofeodbbbhaaDoorNat6
import Derived.Test.YtigoofeodbbbhaaDoorMath11
namespace Go.Proofs.YtigoofeodbbbhaaDoor
open Go.RowKit Go.Proofs.YtigoofeodbbbhaaDoorL Go.Proofs.YtigoofeodbbbhaaDoorM
set_option linter.unusedVariables false
set_option linter.unusedSimpArgs false
theorem Blk.drewN {w : World} {g : Nat} {cs : List Value} {t : TypeId} (f : Blk w g cs t) (n : Nat) : Blk (w.drewN n) g cs t := ⟨f.h⟩
theorem Blk.i_at {w : World} {g : Nat} {P : List Nat} {e : TypeId} (B : Blk w g (P.map valI) e) {j p : Nat} (h : j < P.length) (hp : P[j] = p) : w.cell? ⟨g, j, none⟩ = some (.int .i64 (p : Nat)) := by
  rw [B.cells, List.getElem?_map, List.getElem?_eq_getElem h, hp]; rfl
set_option maxRecDepth 8000 in
set_option maxHeartbeats 2000000 in
theorem rmul_any (l m : List Nat) (La Lb : Nat) (hLa : l.length = La) (hLb : m.length = Lb) (A A2 : Option Addr) (c c2 : Nat) (w : World) (hr : Rd encI 1 w A l) (hr2 : Rd encI 1 w A2 m) (hl : (∀ x ∈ l, x < 65536) ∧ (∀ x ∈ m, x < 65536)) (hc : La ≤ c) (hc2 : Lb ≤ c2) (hm : La ≤ 4398046511104) (hm2 : Lb ≤ 4398046511104) :
    Calls Tryd.prog 84 #[.slice A La c, .slice A2 Lb c2] w (Gives w fun v w' => Ow encI 1 3 w.heap.size w' v (digB 65536 (valB 65536 l * valB 65536 m))) := by
  subst hLa hLb
  have hmulb := mul_lt_pow 65536 l m (by omega) hl.1 hl.2
  obtain ⟨U, hU⟩ : ∃ U, U = valB 65536 m := ⟨_, rfl⟩
  have htkle : ∀ i, valB 65536 (l.take i) * U < 65536 ^ (l.length + m.length) := fun i => by
    refine Nat.lt_of_le_of_lt (Nat.mul_le_mul_right U ?_) (hU ▸ hmulb)
    have := valB_split 65536 l i
    omega
  rw [← hU]
  have HU := As.mk hU
  have HT := As.mk htkle
  have HL := As.mk hl
  obtain ⟨n, hn⟩ : ∃ n, n = l.length + m.length + 1 := ⟨_, rfl⟩
  have hnb : n ≤ 8796093022209 := by omega
  have en : (l.length : Int) + (m.length : Int) + 1 = (n : Int) := by omega
  have Hn := As.mk hn
  clear hmulb hU htkle hl hn
  go_enter Tryd.func84, Tryd.ntmps84
  go_wp2_with ((with_reducible refine g_dst 18 ?_); go_must (refine ev_make 18 rfl Tryd.underlying80 infoI rfl (n := n) rfl rfl (by omega) (by omega) ?_); intro g w1 hb1 B1 hg)
  clear en
  go_loopw [6, 7, 8, 9, 10, 11] (fun v _ _ _ _ _ wr => ∃ i : Nat, ∃ P : List Nat, i ≤ l.length ∧ P.length = n ∧ v = .int .i64 (i : Int) ∧ As (∀ x ∈ P, x < 65536) ∧ As (valB 65536 P = valB 65536 (l.take i) * U) ∧ Below w.heap.size w wr ∧ Blk wr g (P.map valI) 3) (fun v _ _ _ _ _ _ => l.length - (intOf v).toNat)
  case atStart => exact ⟨0, List.replicate n 0, by omega, by simp, rfl, ⟨fun x hx => by rw [List.eq_of_mem_replicate hx]; omega⟩, ⟨by rw [valB_zeros]; simp [valB]⟩, hb1, by simpa [valI] using B1⟩
  case round =>
    obtain ⟨i, P, hi, hPn, rfl, hPl, hPv, hb, B⟩ := hrel
    by_cases h : i < l.length
    · obtain ⟨b, off, rfl⟩ := hr.get (ne_nil_of_lt (i := i) (by omega))
      have hx := HL.out.1 _ (List.getElem_mem h)
      have htk := valB_take_succ 65536 l i
      rw [getD_of_lt h] at htk
      obtain ⟨x, hxe⟩ : ∃ x, x = l[i] := ⟨_, rfl⟩
      have hri := fun (w1 : World) (hb1 : Below w.heap.size w w1) => Rd.i (hr.below hb1) i h
      rw [← hxe] at hx htk
      simp only [← hxe] at hri
      have Hri := As.mk hri
      have Htk := As.mk htk
      have HPn := As.mk hPn
      have hic : i < c := by omega
      clear hxe htk hPn hri
      obtain ⟨P0, hP0⟩ : ∃ P0, P0 = P := ⟨_, rfl⟩
      have HP0 := As.mk (hP0 ▸ hPv.out)
      go_wp2
      go_loopw [8, 7, 9] (fun v u _ wq => ∃ k cy : Nat, ∃ P : List Nat, k ≤ m.length ∧ cy < 65536 ∧ v = .int .i64 (k : Int) ∧ u = .int .i64 (cy : Int) ∧ As (P.length = n) ∧ As (∀ x ∈ P, x < 65536) ∧ As (valB 65536 P + 65536 ^ (i + k) * cy = valB 65536 P0 + 65536 ^ i * (x * valB 65536 (m.take k))) ∧ Below w.heap.size w wq ∧ Blk wq g (P.map valI) 3) (fun v _ _ _ => m.length - (intOf v).toNat)
      case atStart => exact ⟨0, 0, P, by omega, by omega, rfl, rfl, HPn, hPl, ⟨by rw [hP0]; simp [valB]⟩, hb, B⟩
      case round =>
        clear hb B hPl hP0 hPv
        obtain ⟨k, cy, P, hk, hcy, rfl, rfl, hPn, hPl, hPv, hb, B⟩ := hrel
        by_cases h2 : k < m.length
        · obtain ⟨b2, off2, rfl⟩ := hr2.get (ne_nil_of_lt (i := k) (by omega))
          have hcell := Hri.out wr hb
          have hcell2 := Rd.i (hr2.below hb) k h2
          have hy := HL.out.2 _ (List.getElem_mem h2)
          have htk2 := valB_take_succ 65536 m k
          rw [getD_of_lt h2] at htk2
          obtain ⟨y, hye⟩ : ∃ y, y = m[k] := ⟨_, rfl⟩
          rw [← hye] at hcell2 hy htk2
          obtain ⟨j, hj⟩ : ∃ j, j = i + k := ⟨_, rfl⟩
          have ej : (i : Int) + (k : Int) = (j : Int) := by omega
          have hjn : j < n := by have := Hn.out; omega
          have hjP : j < P.length := by rw [hPn.out]; exact hjn
          have hpl := hPl.out _ (List.getElem_mem hjP)
          obtain ⟨p, hp⟩ : ∃ p, p = P[j] := ⟨_, rfl⟩
          rw [← hp] at hpl
          have hcellp := Blk.i_at B hjP hp.symm
          obtain ⟨q, hq⟩ : ∃ q, q = x * y := ⟨_, rfl⟩
          have hqb : q ≤ 65535 * 65535 := by rw [hq]; exact Nat.mul_le_mul (by omega) (by omega)
          have eq1 : (x : Int) * (y : Int) = (q : Int) := by rw [hq]; simp
          obtain ⟨T, hT⟩ : ∃ T, T = cy + q + p := ⟨_, rfl⟩
          have e0 : (p : Int) + (q : Int) + (cy : Int) = (T : Int) := by omega
          have hms := mul_step 65536 P j q cy T hjP (by rw [← hp]; exact hT)
          obtain ⟨lo, hlo⟩ : ∃ lo, lo = T % 65536 := ⟨_, rfl⟩
          obtain ⟨hi2, hhi⟩ : ∃ hi, hi = T / 65536 := ⟨_, rfl⟩
          rw [← hlo, ← hhi] at hms
          have hlo' : lo < 65536 := by omega
          have hhi' : hi2 < 65536 := by omega
          have e1 : ((T : Int).tmod 65536) = (lo : Int) := by rw [Int.tmod_eq_emod_of_nonneg (by omega), hlo]; rfl
          have e2 : ((T : Int).tdiv 65536) = (hi2 : Int) := by rw [Int.tdiv_eq_ediv_of_nonneg (by omega), hhi]; rfl
          have hTb : T < 4294967296 := by omega
          have Hst : As (valB 65536 (P.set j lo) + 65536 ^ (i + (k + 1)) * hi2 = valB 65536 P0 + 65536 ^ i * (x * valB 65536 (m.take (k + 1)))) := ⟨by
            have hv := hPv.out
            rw [← hj] at hv
            have e : i + (k + 1) = j + 1 := by omega
            have e3 : 65536 ^ i * (x * valB 65536 (m.take (k + 1))) = 65536 ^ i * (x * valB 65536 (m.take k)) + 65536 ^ j * q := by
              rw [htk2, hq, hj, Nat.pow_add, Nat.mul_add, Nat.mul_add]
              congr 1
              rw [Nat.mul_left_comm x, Nat.mul_assoc]
            rw [e, e3, hms, Nat.mul_add]
            omega⟩
          have HS2 := As.mk (set_lt (j := j) hPl.out hlo')
          have Hn2 : As ((P.set j lo).length = n) := ⟨by rw [List.length_set]; exact hPn.out⟩
          have HjP := As.mk hjP
          have hkc2 : k < c2 := by omega
          have Hj := As.mk hj
          have HTT := As.mk hT
          clear hms hlo hhi hp hq hT htk2 hye hPl hPv hj hjP
          go_wp2
          go_quiet (fail)
          go_wp2_with ((with_reducible refine g_store 55 ?_); go_must (refine ev_set rfl (by go_simp) (Blk.drewN B _) (u := lo) (by go_simp; rfl) infoI HjP.out (by rfl) ?_); intro w2 ho B2)
          go_roundw
          case rel => exact ⟨k + 1, hi2, P.set j lo, by omega, hhi', by go_num, by go_num, Hn2, HS2, Hst, (drew_below hb _).trans (ho.below hg), B2⟩
          case measure => simp [intOf]; omega
        · have hkl : k = m.length := by omega
          subst hkl
          have hv := hPv.out
          rw [List.take_of_length_le (Nat.le_refl _), ← HU.out, HP0.out] at hv
          have Hv : As (valB 65536 P + 65536 ^ (i + m.length) * cy = valB 65536 (l.take (i + 1)) * U) := ⟨by rw [hv, Htk.out, Nat.add_mul, Nat.mul_assoc]⟩
          clear hv hPv
          go_wp2
          go_loopw [10, 7, 11] (fun v u _ wq => ∃ k cy : Nat, ∃ P : List Nat, k ≤ n ∧ cy < 65536 ∧ v = .int .i64 (k : Int) ∧ u = .int .i64 (cy : Int) ∧ As (P.length = n) ∧ As (∀ x ∈ P, x < 65536) ∧ As (valB 65536 P + 65536 ^ k * cy = valB 65536 (l.take (i + 1)) * U) ∧ Below w.heap.size w wq ∧ Blk wq g (P.map valI) 3) (fun v _ _ _ => n - (intOf v).toNat)
          case atStart => exact ⟨i + m.length, cy, P, by have := Hn.out; omega, hcy, by go_num, rfl, hPn, hPl, Hv, hb, B⟩
          case round =>
            clear hb B hPl hPn Hv hcy
            obtain ⟨k, cy, P, hk, hcy, rfl, rfl, hPn, hPl, hPv, hb, B⟩ := hrel
            rcases Nat.eq_zero_or_pos cy with rfl | hcy0
            · have Hv : As (valB 65536 P = valB 65536 (l.take (i + 1)) * U) := ⟨by have := hPv.out; omega⟩
              go_wp2
              refine ⟨⟨i + 1, P, by omega, hPn.out, by go_num, hPl, Hv, hb, B⟩, by simp [intOf]; omega⟩
            · have hroom := carry_room 65536 (by omega) (l.length + m.length) k cy (valB 65536 P) _ (HT.out (i + 1)) hPv.out hcy0 (by omega)
              have hkn : k < n := by have := Hn.out; omega
              have hjP : k < P.length := by rw [hPn.out]; exact hkn
              have hpl := hPl.out _ (List.getElem_mem hjP)
              obtain ⟨p, hp⟩ : ∃ p, p = P[k] := ⟨_, rfl⟩
              rw [← hp] at hpl
              have hcellp := Blk.i_at B hjP hp.symm
              obtain ⟨T, hT⟩ : ∃ T, T = cy + 0 + p := ⟨_, rfl⟩
              have e0 : (p : Int) + (cy : Int) = (T : Int) := by omega
              have hms := mul_step 65536 P k 0 cy T hjP (by rw [← hp]; exact hT)
              obtain ⟨lo, hlo⟩ : ∃ lo, lo = T % 65536 := ⟨_, rfl⟩
              obtain ⟨hi2, hhi⟩ : ∃ hi, hi = T / 65536 := ⟨_, rfl⟩
              rw [← hlo, ← hhi] at hms
              have hlo' : lo < 65536 := by omega
              have hhi' : hi2 < 65536 := by omega
              have e1 : ((T : Int).tmod 65536) = (lo : Int) := by rw [Int.tmod_eq_emod_of_nonneg (by omega), hlo]; rfl
              have e2 : ((T : Int).tdiv 65536) = (hi2 : Int) := by rw [Int.tdiv_eq_ediv_of_nonneg (by omega), hhi]; rfl
              have hTb : T < 4294967296 := by omega
              have Hst : As (valB 65536 (P.set k lo) + 65536 ^ (k + 1) * hi2 = valB 65536 (l.take (i + 1)) * U) := ⟨by
                rw [hms, Nat.add_zero]; exact hPv.out⟩
              have HS2 := As.mk (set_lt (j := k) hPl.out hlo')
              have Hn2 : As ((P.set k lo).length = n) := ⟨by rw [List.length_set]; exact hPn.out⟩
              have HjP := As.mk hjP
              have HTT := As.mk hT
              have z0 : decide ((0 : Int) < (cy : Int)) = true := by simp; omega
              have z1 : decide (0 < cy) = true := by simp; omega
              clear hms hlo hhi hp hT hPl hPv hjP
              go_wp2_with ((with_reducible refine g_store 76 ?_); go_must (refine ev_set rfl (by go_simp) B (u := lo) (by go_simp; rfl) infoI HjP.out (by rfl) ?_); intro w2 ho B2)
              go_roundw
              case rel => exact ⟨k + 1, hi2, P.set k lo, by omega, hhi', by go_num, by go_num, Hn2, HS2, Hst, hb.trans (ho.below hg), B2⟩
              case measure => simp [intOf]; omega
    · have hil : i = l.length := by omega
      subst hil
      have htr : trimL P = digB 65536 (valB 65536 l * U) := by
        have := hPv.out
        rw [List.take_of_length_le (Nat.le_refl _)] at this
        rw [trimL_dig 65536 (by omega) _ hPl.out, this]
      have Htr := As.mk htr
      have HPn := As.mk hPn
      have hrd' := B.rdm encI_one
      clear htr hPl hPv hPn
      go_wp2_with (go_at_call 82; (with_reducible refine (rtrim_any P n HPn.out _ _ _ hrd' (by omega) (fun h => by cases h) (by omega)).mono ?_); rintro e w3 ⟨v3, rfl, ho3, hb3⟩)
      go_ret
      exact ⟨_, rfl, by rw [← Htr.out]; exact ho3.lower hb.size, bthen hb hb3⟩
set_option maxHeartbeats 400000 in
theorem rMul_any (L : List Sl) (n : Nat) (hn : L.length = n) (A : Option Addr) (c : Nat) (w : World) (hr : Rd encS 1 w A L) (hg : ∀ s ∈ L, s.Good w) (hc : n ≤ c) (hm : n ≤ 1099511627776) (hlens : lens (L.map Sl.l) ≤ 274877906944) :
    Calls Tryd.prog 59 #[.slice A n c] w (Gives w fun v w' => Ow encU 1 62 w.heap.size w' v (digB 4294967296 (prodV 4294967296 (L.map Sl.l)))) := by
  subst hn
  have HG := As.mk hg
  have hlen := As.mk (fun k => Nat.le_trans (prodV_len16 (L.map Sl.l) (fun l hl => by obtain ⟨s, hs, rfl⟩ := List.mem_map.1 hl; exact (hg s hs).lt) k) (show 2 * lens (L.map Sl.l) + 1 ≤ 549755813889 by omega))
  clear hg hlens
  go_enter Tryd.func59, Tryd.ntmps59
  go_wp2_with ((with_reducible refine g_dst 5 ?_); go_must (refine ev_lit (v := fun g => .slice (some ⟨g, 0, none⟩) 1 1) 5 rfl (cs := [valI 1]) (t := 3) (by go_simp; rfl) ?_); intro g1 w1 hb1 B1 hg1; have ho1 := B1.ow (enc := encI) (l := [1]) (base := w.heap.size) encI_one hg1 (by simp [maxLen]) 1 (Nat.le_refl _))
  go_loopw [3, 4] (fun v u wr => ∃ k : Nat, ∃ S : List Nat, k ≤ L.length ∧ u = .int .i64 (k : Int) ∧ As (S = digB 65536 (prodV 4294967296 ((L.map Sl.l).take k))) ∧ Below w.heap.size w wr ∧ Ow encI 1 3 w.heap.size wr v S) (fun v u _ => L.length - (intOf u).toNat)
  case atStart => exact ⟨0, [1], by omega, rfl, ⟨by rw [List.take_zero, prodV, digB_pos 65536 1 (by omega) (by omega)]; simp [digB_zero]⟩, hb1, ho1⟩
  case round =>
    obtain ⟨k, S, hk, rfl, hS, hb, ho⟩ := hrel
    have hSl : As (∀ x ∈ S, x < 65536) := ⟨by rw [hS.out]; exact digB_lt 65536 (by omega) _⟩
    have hSn : S.length ≤ 549755813889 := by rw [hS.out]; exact hlen.out k
    obtain ⟨A1, c1, rfl, h1, h2⟩ := ho.form
    by_cases h : k < L.length
    · obtain ⟨b, off, rfl⟩ := (hr.below hb).get (ne_nil_of_lt h)
      have hcell := Rd.s (hr.below hb) k h
      have hsg := (HG.out _ (List.getElem_mem h)).below hb
      have hsum := prodV_take_succ 4294967296 (L.map Sl.l) k (by simpa using h)
      rw [List.getElem_map] at hsum
      obtain ⟨s, hs⟩ : ∃ s, s = L[k] := ⟨_, rfl⟩
      rw [← hs] at hcell hsg hsum
      obtain ⟨sA, sc, sl⟩ := s
      have Hsum := As.mk hsum
      clear hsum hs
      have hq := As.mk (half_len sl hsg.lt hsg.max)
      have hkc : k < c := by omega
      go_wp2_with (first
        | (go_at_call 81; (with_reducible refine (half_any sl _ rfl _ _ _ hsg.rd hsg.lt hsg.cap (Nat.le_trans hsg.max (by omega))).mono ?_); rintro e w2 ⟨v2, rfl, ho2, hb2⟩; obtain ⟨A2, c2, rfl, h21, h22⟩ := ho2.form)
        | (go_at_call 84; (with_reducible refine (rmul_any S _ _ _ rfl rfl _ _ _ _ _ ((ho.below hb2).rd lenI) (ho2.rd lenI) ⟨hSl.out, digB_lt 65536 (by omega) _⟩ h1 h21 (by omega) hq.out).mono ?_); rintro e w3 ⟨v3, rfl, ho3, hb3⟩))
      go_roundw
      case rel => exact ⟨k + 1, _, by omega, by go_num, ⟨by rw [Hsum.out, hS.out, digB_val 65536 (by omega), digB_val 65536 (by omega)]⟩, bthen (bthen hb hb2) hb3, ho3.lower (bthen hb hb2).size⟩
      case measure => simp [intOf]; omega
    · have ht : (L.map Sl.l).take k = L.map Sl.l := List.take_of_length_le (by simp; omega)
      have HS := As.mk (ht ▸ hS.out)
      clear ht
      go_wp2_with (go_at_call 86; (with_reducible refine (full_any S _ rfl _ _ _ (ho.rd lenI) hSl.out h1 ho.none (by omega)).mono ?_); rintro e w2 ⟨v2, rfl, ho2, hb2⟩)
      go_ret
      exact ⟨_, rfl, by have := ho2.lower hb.size; rw [HS.out, digB_val 65536 (by omega)] at this; exact this, bthen hb hb2⟩
end Go.Proofs.YtigoofeodbbbhaaDoor
