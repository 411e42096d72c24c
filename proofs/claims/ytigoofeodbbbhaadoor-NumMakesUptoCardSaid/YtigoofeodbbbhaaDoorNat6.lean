/- nat.mul: the product of two. -/
import Derived.Test.YtigoofeodbbbhaaDoorNat5
namespace Go.Proofs.YtigoofeodbbbhaaDoor
open Go.RowKit Go.Proofs.YtigoofeodbbbhaaDoorL Go.Proofs.YtigoofeodbbbhaaDoorM
set_option linter.unusedVariables false
set_option linter.unusedSimpArgs false
theorem Blk.u_at {w : World} {g : Nat} {P : List Nat} {e : TypeId} (B : Blk w g (P.map valU) e) {j p : Nat} (h : j < P.length) (hp : P[j] = p) : w.cell? ⟨g, j, none⟩ = some (.int .u32 (p : Nat)) := by
  rw [B.cells, List.getElem?_map, List.getElem?_eq_getElem h, hp]; rfl
set_option maxHeartbeats 1000000 in
theorem mul_any (l m : List Nat) (A A2 : Option Addr) (c c2 : Nat) (w : World) (hr : Rd encU 1 w A l) (hr2 : Rd encU 1 w A2 m) (hl : (∀ x ∈ l, x < 4294967296) ∧ (∀ x ∈ m, x < 4294967296)) (hc : l.length ≤ c) (hc2 : m.length ≤ c2) (hm : l.length ≤ 4398046511104) (hm2 : m.length ≤ 4398046511104) :
    Calls Tryd.prog 100 #[.slice A l.length c, .slice A2 m.length c2] w (Gives w fun v w' => Ow encU 1 62 w.heap.size w' v (digB 4294967296 (valB 4294967296 l * valB 4294967296 m))) := by
  obtain ⟨V, hV⟩ : ∃ V, V = valB 4294967296 l := ⟨_, rfl⟩
  obtain ⟨U, hU⟩ : ∃ U, U = valB 4294967296 m := ⟨_, rfl⟩
  rw [← hV, ← hU]
  obtain ⟨L, hL⟩ : ∃ L, L = digB 4294967296 V := ⟨_, rfl⟩
  obtain ⟨M, hM⟩ : ∃ M, M = digB 4294967296 U := ⟨_, rfl⟩
  have htl : trimL l = L := by rw [hL, hV]; exact trimL_dig 4294967296 (by omega) l hl.1
  have htm : trimL m = M := by rw [hM, hU]; exact trimL_dig 4294967296 (by omega) m hl.2
  have hLle : L.length ≤ l.length := by rw [← htl]; exact trimL_le l
  have hMle : M.length ≤ m.length := by rw [← htm]; exact trimL_le m
  have hrL : Rd encU 1 w A L := by have := Rd.trim hr; rwa [htl] at this
  have hrM : Rd encU 1 w A2 M := by have := Rd.trim hr2; rwa [htm] at this
  have T1 := As.mk (trimN_any l L A c w htl hr hc (by omega))
  have T2 := As.mk (trimN_any m M A2 c2 w htm hr2 hc2 (by omega))
  have HV : As (valB 4294967296 L = V) := ⟨by rw [hL]; exact digB_val _ (by omega) V⟩
  have HU : As (valB 4294967296 M = U) := ⟨by rw [hM]; exact digB_val _ (by omega) U⟩
  have HL : As (∀ x ∈ L, x < 4294967296) := ⟨by rw [hL]; exact digB_lt _ (by omega) V⟩
  have HM : As (∀ x ∈ M, x < 4294967296) := ⟨by rw [hM]; exact digB_lt _ (by omega) U⟩
  obtain ⟨n, hn⟩ : ∃ n, n = L.length + M.length := ⟨_, rfl⟩
  have hnb : n ≤ 8796093022208 := by omega
  have en : (L.length : Int) + (M.length : Int) = (n : Int) := by omega
  have Hn := As.mk hn
  clear htl htm hV hU hL hM hl hn
  go_enter Tryd.func100, Tryd.ntmps100
  go_wp2_with (first
    | (go_at_call 73; (with_reducible refine T1.out.mono ?_); rintro e w1 ⟨rfl, rfl⟩)
    | (go_at_call 73; (with_reducible refine T2.out.mono ?_); rintro e w1 ⟨rfl, rfl⟩)
    | ((with_reducible refine g_dst 20 ?_); go_must (refine ev_make 20 rfl Tryd.underlying24 infoU rfl (n := n) rfl rfl (by omega) (by omega) ?_); intro g w1 hb1 B1 hg))
  clear en
  go_loopw [23, 6, 7, 8, 9, 10, 30] (fun v _ _ _ _ _ _ wr => ∃ i : Nat, ∃ P : List Nat, i ≤ L.length ∧ P.length = n ∧ v = .int .i64 (i : Int) ∧ As (∀ x ∈ P, x < 4294967296) ∧ As (valB 4294967296 P = valB 4294967296 (L.take i) * U) ∧ As (∀ j, i + M.length ≤ j → P.getD j 0 = 0) ∧ Below w.heap.size w wr ∧ Blk wr g (P.map valU) 62) (fun v _ _ _ _ _ _ _ => L.length - (intOf v).toNat)
  case atStart => exact ⟨0, List.replicate n 0, by omega, by simp, rfl, ⟨fun x hx => by rw [List.eq_of_mem_replicate hx]; omega⟩, ⟨by rw [valB_zeros]; simp [valB]⟩, ⟨fun j hj => by simp [List.getD, List.getElem?_replicate]; split <;> rfl⟩, hb1, by simpa [valU] using B1⟩
  case round =>
    obtain ⟨i, P, hi, hPn, rfl, hPl, hPv, hPz, hb, B⟩ := hrel
    by_cases h : i < L.length
    · obtain ⟨b, off, rfl⟩ := hr.get (ne_nil_of_lt (i := i) (by omega))
      have hcell := Rd.u (hrL.below hb) i h
      have hx := HL.out _ (List.getElem_mem h)
      have htk := valB_take_succ 4294967296 L i
      rw [getD_of_lt h] at htk
      obtain ⟨x, hxe⟩ : ∃ x, x = L[i] := ⟨_, rfl⟩
      rw [← hxe] at hcell hx htk
      have Htk := As.mk htk
      have HPn := As.mk hPn
      have hic : i < c := by omega
      clear hxe htk hPn
      obtain ⟨wo, hwo⟩ : ∃ wo : World, wo = wr := ⟨_, rfl⟩
      obtain ⟨P0, hP0⟩ : ∃ P0, P0 = P := ⟨_, rfl⟩
      have HP0 := As.mk (hP0 ▸ hPv.out)
      go_wp2
      go_loopw [30, 8, 9, 10] (fun v u _ _ wq => ∃ k cy : Nat, ∃ P : List Nat, k ≤ M.length ∧ cy < 4294967296 ∧ v = .int .i64 (k : Int) ∧ u = .int .u64 (cy : Int) ∧ As (P.length = n) ∧ As (∀ x ∈ P, x < 4294967296) ∧ As (valB 4294967296 P + 4294967296 ^ (i + k) * cy = valB 4294967296 P0 + 4294967296 ^ i * (x * valB 4294967296 (M.take k))) ∧ As (∀ j, i + M.length ≤ j → P.getD j 0 = 0) ∧ Below w.heap.size w wq ∧ Blk wq g (P.map valU) 62) (fun v _ _ _ _ => M.length - (intOf v).toNat)
      case atStart => exact ⟨0, 0, P, by omega, by omega, rfl, rfl, HPn, hPl, ⟨by rw [hP0]; simp [valB]⟩, hPz, hb, B⟩
      case round =>
        clear hb B hPl hPz hcell hwo hP0 hPv
        obtain ⟨k, cy, P, hk, hcy, rfl, rfl, hPn, hPl, hPv, hPz, hb, B⟩ := hrel
        by_cases h2 : k < M.length
        · obtain ⟨b2, off2, rfl⟩ := hr2.get (ne_nil_of_lt (i := k) (by omega))
          have hcell2 := Rd.u (hrM.below hb) k h2
          have hy := HM.out _ (List.getElem_mem h2)
          have htk2 := valB_take_succ 4294967296 M k
          rw [getD_of_lt h2] at htk2
          obtain ⟨y, hye⟩ : ∃ y, y = M[k] := ⟨_, rfl⟩
          rw [← hye] at hcell2 hy htk2
          obtain ⟨j, hj⟩ : ∃ j, j = i + k := ⟨_, rfl⟩
          have ej : (i : Int) + (k : Int) = (j : Int) := by omega
          have hjn : j < n := by have := Hn.out; omega
          have hjP : j < P.length := by rw [hPn.out]; exact hjn
          have hpl := hPl.out _ (List.getElem_mem hjP)
          obtain ⟨p, hp⟩ : ∃ p, p = P[j] := ⟨_, rfl⟩
          rw [← hp] at hpl
          have hcellp := Blk.u_at B hjP hp.symm
          obtain ⟨q, hq⟩ : ∃ q, q = x * y := ⟨_, rfl⟩
          have hqb : q ≤ 4294967295 * 4294967295 := by rw [hq]; exact Nat.mul_le_mul (by omega) (by omega)
          have eq1 : (x : Int) * (y : Int) = (q : Int) := by rw [hq]; simp
          obtain ⟨T, hT⟩ : ∃ T, T = cy + q + p := ⟨_, rfl⟩
          have e0 : (cy : Int) + ((q : Int) + (p : Int)) = (T : Int) := by omega
          have hms := mul_step 4294967296 P j q cy T hjP (by rw [← hp]; exact hT)
          obtain ⟨lo, hlo⟩ : ∃ lo, lo = T % 4294967296 := ⟨_, rfl⟩
          obtain ⟨hi2, hhi⟩ : ∃ hi, hi = T / 4294967296 := ⟨_, rfl⟩
          rw [← hlo, ← hhi] at hms
          have hlo' : lo < 4294967296 := by omega
          have hhi' : hi2 < 4294967296 := by omega
          have e1 : IntKind.u32.wrap (T : Int) = (lo : Int) := by rw [hlo]; simp [IntKind.wrap, IntKind.bits, IntKind.signed]
          have e2 : ((T : Int) / 4294967296) = (hi2 : Int) := by rw [hhi]; rfl
          have hTb : T < 18446744073709551616 := by omega
          have Hst : As (valB 4294967296 (P.set j lo) + 4294967296 ^ (i + (k + 1)) * hi2 = valB 4294967296 P0 + 4294967296 ^ i * (x * valB 4294967296 (M.take (k + 1)))) := ⟨by
            have hv := hPv.out
            rw [← hj] at hv
            have e : i + (k + 1) = j + 1 := by omega
            have e3 : 4294967296 ^ i * (x * valB 4294967296 (M.take (k + 1))) = 4294967296 ^ i * (x * valB 4294967296 (M.take k)) + 4294967296 ^ j * q := by
              rw [htk2, hq, hj, Nat.pow_add, Nat.mul_add, Nat.mul_add]
              congr 1
              rw [Nat.mul_left_comm x, Nat.mul_assoc]
            rw [e, e3, hms, Nat.mul_add]
            omega⟩
          have HS2 := As.mk (set_lt (j := j) hPl.out hlo')
          have Hz2 : As (∀ j', i + M.length ≤ j' → (P.set j lo).getD j' 0 = 0) := ⟨fun j' hj' => by rw [getD_set (by omega)]; exact hPz.out j' hj'⟩
          have Hn2 : As ((P.set j lo).length = n) := ⟨by rw [List.length_set]; exact hPn.out⟩
          have HjP := As.mk hjP
          have hkc2 : k < c2 := by omega
          have hx4 : x < 4294967296 := hx
          have Hj := As.mk hj
          have HTT := As.mk hT
          clear hms hlo hhi hp hq hT htk2 hye hPl hPv hPz hj hjP
          go_wp2_with ((with_reducible refine g_store 56 ?_); go_must (refine ev_set rfl (by go_simp) B (u := lo) (by go_simp; rfl) infoU HjP.out (by rfl) ?_); intro w2 ho B2)
          go_roundw
          case rel => exact ⟨k + 1, hi2, P.set j lo, by omega, hhi', by go_num, by go_num, Hn2, HS2, Hst, Hz2, hb.trans (ho.below hg), B2⟩
          case measure => simp [intOf]; omega
        · have hkl : k = M.length := by omega
          subst hkl
          obtain ⟨j, hj⟩ : ∃ j, j = i + M.length := ⟨_, rfl⟩
          have ej : (i : Int) + (M.length : Int) = (j : Int) := by omega
          have hjn : j < n := by have := Hn.out; omega
          have hjP : j < P.length := by rw [hPn.out]; exact hjn
          have hset := valB_set 4294967296 P j cy hjP
          have hz : P[j] = 0 := by rw [← getD_of_lt hjP]; exact hPz.out j (by omega)
          have hv := hPv.out
          rw [← hj, List.take_of_length_le (Nat.le_refl _), HU.out, HP0.out] at hv
          have e1 : IntKind.u32.wrap (cy : Int) = (cy : Int) := IntWalk.u32_in _ (by omega)
          have Hst : As (valB 4294967296 (P.set j cy) = valB 4294967296 (L.take (i + 1)) * U) := ⟨by
            rw [hz, Nat.mul_zero, Nat.add_zero] at hset
            rw [hset, hv, Htk.out, Nat.add_mul, Nat.mul_assoc]⟩
          have HS2 := As.mk (set_lt (j := j) hPl.out hcy)
          have Hz2 : As (∀ j', i + 1 + M.length ≤ j' → (P.set j cy).getD j' 0 = 0) := ⟨fun j' hj' => by rw [getD_set (by omega)]; exact hPz.out j' (by omega)⟩
          have Hn2 : (P.set j cy).length = n := by rw [List.length_set]; exact hPn.out
          have HN2 := As.mk Hn2
          have HjP := As.mk hjP
          have Hj := As.mk hj
          clear hset hz hv hPl hPv hPz hj hjP Hn2
          go_wp2_with ((with_reducible refine g_store 67 ?_); go_must (refine ev_set rfl (by go_simp) B (u := cy) (by go_simp; rfl) infoU HjP.out (by rfl) ?_); intro w2 ho B2)
          refine ⟨⟨i + 1, P.set j cy, by omega, HN2.out, by go_num, HS2, Hst, Hz2, hb.trans (ho.below hg), B2⟩, by simp [intOf]; omega⟩
    · have hil : i = L.length := by omega
      subst hil
      have htr : trimL P = digB 4294967296 (V * U) := by
        have := hPv.out
        rw [List.take_of_length_le (Nat.le_refl _), HV.out] at this
        rw [trimL_dig 4294967296 (by omega) _ hPl.out, this]
      have Htr := As.mk htr
      have HPn := As.mk hPn
      have hrd' := B.rdm encU_one
      clear htr hPl hPv hPz hPn
      go_wp2_with (go_at_call 73; (with_reducible refine (trim_n P n HPn.out _ _ _ hrd' (by omega) (by omega)).mono ?_); rintro e w3 ⟨rfl, rfl⟩)
      go_ret
      refine ⟨_, rfl, ?_, hb⟩
      have := B.ow (base := w.heap.size) encU_one hg (by rw [HPn.out]; simp only [maxLen]; omega) (trimL P).length (trimL_le _)
      rw [← trimL_take, Htr.out, HPn.out] at this
      rw [Htr.out]
      exact this
end Go.Proofs.YtigoofeodbbbhaaDoor
