/- A part of the proof. -/
import Derived.Test.YtdapbegadhcpcaaGreatDoorMA
import Derived.Test.YtdapbegadhcpcaaGreatDoorMD
import Derived.Test.YtdapbegadhcpcaaGreatDoorMB
import Derived.BigQuiet
import Derived.Test.YtdapbegadhcpcaaGreatDoorMC
import Derived.Test.YtdapbegadhcpcaaGreatDoorShelf
import Derived.Laws.RangeAny
import Derived.Lib.OthersKept
import Derived.Lib.AtoiErrMem
import Derived.WalkSmall
import Derived.WalkLawsBesides
import Derived.WalkSpells
import Derived.Laws.Closers25
import Derived.Deep.RegionHeld3
set_option linter.unusedVariables false
set_option linter.unusedSimpArgs false
namespace Go.Proofs.YtdapbegadhcpcaaGreatDoor
open Go.RowKit Go.Proofs.YtdapbegadhcpcaaGreatDoorL Go.Proofs.YtdapbegadhcpcaaGreatDoorM
set_option maxHeartbeats 1000000 in
theorem add_any (l m : List Nat) (A A2 : Option Addr) (c c2 : Nat) (w : World) (hr : Rd encU 1 w A l) (hr2 : Rd encU 1 w A2 m) (hl : (∀ x ∈ l, x < 4294967296) ∧ (∀ x ∈ m, x < 4294967296)) (hc : l.length ≤ c) (hc2 : m.length ≤ c2) (hm : l.length * 4 + 4 ≤ 140737488355328) (hm2 : m.length * 4 + 4 ≤ 140737488355328) :
 Calls Tryz.prog 82 #[.slice A l.length c, .slice A2 m.length c2] w (Gives w fun v w' => Ow encU 1 77 w.heap.size w' v (digB 4294967296 (valB 4294967296 l + valB 4294967296 m))) := by
 by_cases hlm : l.length < m.length
 · have z0 : decide ((l.length : Int) < (m.length : Int)) = true := by simp; omega
   have z1 : decide (l.length < m.length) = true := by simp; omega
   have HL := As.mk hl
   have hle : l.length ≤ m.length := by omega
   go_enter Tryz.func82, Tryz.ntmps82
   go_wp2_with ((with_reducible refine g_dst 19 ?_); go_must (refine ev_make 19 rfl Tryz.underlying31 infoU rfl (n := m.length + 1) (by go_simp; rfl) (by go_simp; rfl) (by omega) (by omega) ?_); intro g w1 hb1 B1 hg)
   go_loopw [6, 22, 7, 8] (fun v u y z wr => ∃ k cy : Nat, ∃ S : List Nat, k ≤ m.length ∧ cy ≤ 1 ∧ S.length = k ∧ v = .int .u64 (cy : Int) ∧ u = .int .i64 (k : Int) ∧ As (∀ x ∈ S, x < 4294967296) ∧ As (valB 4294967296 S + 4294967296 ^ k * cy = valB 4294967296 (m.take k) + valB 4294967296 (l.take k)) ∧ Below w.heap.size w wr ∧ Blk wr g ((S ++ List.replicate (m.length + 1 - k) 0).map valU) 77) (fun v u y z _ => m.length - (intOf u).toNat)
   case atStart => exact ⟨0, 0, [], by omega, by omega, rfl, rfl, rfl, ⟨by simp⟩, ⟨by simp [valB]⟩, hb1, by simpa [valU] using B1⟩
   case round =>
    obtain ⟨k, cy, S, hk, hcy, hS, rfl, rfl, hSl, hV, hb, B⟩ := hrel
    by_cases h : k < m.length
    · obtain ⟨b, off, rfl⟩ := hr2.get (ne_nil_of_lt h)
      have hcell := Rd.u (hr2.below hb) k h
      have hx : m[k] < 4294967296 := HL.out.2 _ (List.getElem_mem h)
      have hgx : m.getD k 0 = m[k] := by simp [List.getD, List.getElem?_eq_getElem h]
      have hrep : m.length + 1 - k = (m.length + 1 - (k + 1)) + 1 := by omega
      rw [hrep] at B
      have HrepL := As.mk hrep
      clear hrep
      obtain ⟨x, hxe⟩ : ∃ x, x = m[k] := ⟨_, rfl⟩
      rw [← hxe] at hcell hx hgx
      have hy := getD_lt 4294967296 (by omega) l HL.out.1 k
      obtain ⟨y, hye⟩ : ∃ y, y = l.getD k 0 := ⟨_, rfl⟩
      rw [← hye] at hy
      have hst := add_step 4294967296 (by omega) m l S k cy hS hV.out
      rw [hgx, ← hye] at hst
      obtain ⟨T, hT⟩ : ∃ T, T = x + y + cy := ⟨_, rfl⟩
      rw [← hT] at hst
      obtain ⟨lo, hlo⟩ : ∃ lo, lo = T % 4294967296 := ⟨_, rfl⟩
      obtain ⟨hi, hhi⟩ : ∃ hi, hi = T / 4294967296 := ⟨_, rfl⟩
      rw [← hlo, ← hhi] at hst
      have hlo' : lo < 4294967296 := by omega
      have hhi' : hi ≤ 1 := by omega
      have hTb : T < 8589934592 := by omega
      have e1 : IntKind.u32.wrap (T : Int) = (lo : Int) := by rw [hlo]; simp [IntKind.wrap, IntKind.bits, IntKind.signed]
      have e2 : ((T : Int) / 4294967296) = (hi : Int) := by rw [hhi]; rfl
      have hS2 := As.mk (snoc_lt hSl.out hlo')
      have Hst := As.mk hst
      have HS := As.mk hS
      have hput : k < (S ++ List.replicate (m.length + 1 - (k + 1) + 1) 0).length := by simp; omega
      have hfill : (S ++ List.replicate (m.length + 1 - (k + 1) + 1) 0).set k lo = (S ++ [lo]) ++ List.replicate (m.length + 1 - (k + 1)) 0 := fill_up 0 lo _ S k hS
      have Hfill := As.mk hfill
      have Hput := As.mk hput
      clear hst hS hlo hhi hxe hgx hV hSl hfill hput
      by_cases h2 : k < l.length
      · obtain ⟨b2, off2, rfl⟩ := hr.get (ne_nil_of_lt h2)
        have hcell2 := Rd.u (hr.below hb) k h2
        have hy2 : l[k] = y := by rw [hye]; simp [List.getD, List.getElem?_eq_getElem h2]
        rw [hy2] at hcell2
        have e0 : ((cy : Int) + (x : Int) + (y : Int)) = (T : Int) := by rw [hT]; simp; omega
        have hT2 := As.mk hT
        clear hye hy2 hT
        go_wp2_with ((with_reducible refine g_store 46 ?_); go_must (refine ev_set rfl (by go_simp) B (u := lo) (by go_simp; rfl) infoU Hput.out (by rfl) ?_); intro w2 ho B2; rw [Hfill.out] at B2)
        go_roundw
        case rel => exact ⟨k + 1, hi, S ++ [lo], by omega, hhi', by rw [List.length_append, HS.out]; rfl, by go_num, by go_num, hS2, Hst, hb.trans (ho.below hg), B2⟩
        case measure => simp [intOf]; omega
      · have hy2 : y = 0 := by rw [hye]; simp [List.getD, List.getElem?_eq_none (Nat.le_of_not_lt h2)]
        have e0 : ((cy : Int) + (x : Int)) = (T : Int) := by rw [hT, hy2]; simp; omega
        have hT2 := As.mk hT
        clear hye hy2 hT
        go_wp2_with ((with_reducible refine g_store 46 ?_); go_must (refine ev_set rfl (by go_simp) B (u := lo) (by go_simp; rfl) infoU Hput.out (by rfl) ?_); intro w2 ho B2; rw [Hfill.out] at B2)
        go_roundw
        case rel => exact ⟨k + 1, hi, S ++ [lo], by omega, hhi', by rw [List.length_append, HS.out]; rfl, by go_num, by go_num, hS2, Hst, hb.trans (ho.below hg), B2⟩
        case measure => simp [intOf]; omega
    · have hkl : k = m.length := by omega
      subst hkl
      have hv := hV.out
      rw [List.take_of_length_le (Nat.le_refl _), List.take_of_length_le (i := m.length) hle] at hv
      have hput : m.length < (S ++ List.replicate (m.length + 1 - m.length) 0).length := by simp; omega
      have hfill : (S ++ List.replicate (m.length + 1 - m.length) 0).set m.length cy = S ++ [cy] := by
       rw [show m.length + 1 - m.length = 0 + 1 by omega, fill_up 0 cy 0 S _ hS]; simp
      have hcy2 : cy < 4294967296 := by omega
      have htr : trimL (S ++ [cy]) = digB 4294967296 (valB 4294967296 m + valB 4294967296 l) := by
       rw [trimL_dig 4294967296 (by omega) _ (snoc_lt hSl.out hcy2), valB_snoc, hS, hv]
      have Hn : As ((S ++ [cy]).length = m.length + 1) := ⟨by rw [List.length_append, hS]; rfl⟩
      have Htr := As.mk htr
      have Hfill := As.mk hfill
      have Hput := As.mk hput
      have hl4 : m.length + 1 ≤ 9223372036854775807 := by omega
      clear htr hfill hput hv hS hV hSl
      go_wp2_with (first
       | ((with_reducible refine g_store 55 ?_); go_must (refine ev_set rfl (by go_simp) B (u := cy) (by go_simp; rfl) infoU Hput.out (by rfl) ?_); intro w2 ho B2; rw [Hfill.out] at B2; have hrd' := B2.rdm encU_one; have hbw2 := hb.trans (ho.below hg))
       | (go_at_call 69; (with_reducible refine (trim_n (S ++ [cy]) (m.length + 1) Hn.out _ _ _ hrd' (by omega) hl4).mono ?_); rintro e w3 ⟨rfl, rfl⟩))
      go_ret
      refine ⟨_, rfl, ?_, hbw2⟩
      have := B2.ow (base := w.heap.size) encU_one hg (by rw [Hn.out]; simp only [maxLen]; omega) (trimL (S ++ [cy])).length (trimL_le _)
      rw [← trimL_take, Htr.out, Hn.out] at this
      rw [Htr.out]
      rw [Nat.add_comm (valB 4294967296 l)]
      exact this
 · have z0 : decide ((l.length : Int) < (m.length : Int)) = false := by simp; omega
   have z1 : decide (l.length < m.length) = false := by simp; omega
   have HL := As.mk hl
   have hle : m.length ≤ l.length := by omega
   go_enter Tryz.func82, Tryz.ntmps82
   go_wp2_with ((with_reducible refine g_dst 19 ?_); go_must (refine ev_make 19 rfl Tryz.underlying31 infoU rfl (n := l.length + 1) (by go_simp; rfl) (by go_simp; rfl) (by omega) (by omega) ?_); intro g w1 hb1 B1 hg)
   go_loopw [6, 22, 7, 8] (fun v u y z wr => ∃ k cy : Nat, ∃ S : List Nat, k ≤ l.length ∧ cy ≤ 1 ∧ S.length = k ∧ v = .int .u64 (cy : Int) ∧ u = .int .i64 (k : Int) ∧ As (∀ x ∈ S, x < 4294967296) ∧ As (valB 4294967296 S + 4294967296 ^ k * cy = valB 4294967296 (l.take k) + valB 4294967296 (m.take k)) ∧ Below w.heap.size w wr ∧ Blk wr g ((S ++ List.replicate (l.length + 1 - k) 0).map valU) 77) (fun v u y z _ => l.length - (intOf u).toNat)
   case atStart => exact ⟨0, 0, [], by omega, by omega, rfl, rfl, rfl, ⟨by simp⟩, ⟨by simp [valB]⟩, hb1, by simpa [valU] using B1⟩
   case round =>
    obtain ⟨k, cy, S, hk, hcy, hS, rfl, rfl, hSl, hV, hb, B⟩ := hrel
    by_cases h : k < l.length
    · obtain ⟨b, off, rfl⟩ := hr.get (ne_nil_of_lt h)
      have hcell := Rd.u (hr.below hb) k h
      have hx : l[k] < 4294967296 := HL.out.1 _ (List.getElem_mem h)
      have hgx : l.getD k 0 = l[k] := by simp [List.getD, List.getElem?_eq_getElem h]
      have hrep : l.length + 1 - k = (l.length + 1 - (k + 1)) + 1 := by omega
      rw [hrep] at B
      have HrepL := As.mk hrep
      clear hrep
      obtain ⟨x, hxe⟩ : ∃ x, x = l[k] := ⟨_, rfl⟩
      rw [← hxe] at hcell hx hgx
      have hy := getD_lt 4294967296 (by omega) m HL.out.2 k
      obtain ⟨y, hye⟩ : ∃ y, y = m.getD k 0 := ⟨_, rfl⟩
      rw [← hye] at hy
      have hst := add_step 4294967296 (by omega) l m S k cy hS hV.out
      rw [hgx, ← hye] at hst
      obtain ⟨T, hT⟩ : ∃ T, T = x + y + cy := ⟨_, rfl⟩
      rw [← hT] at hst
      obtain ⟨lo, hlo⟩ : ∃ lo, lo = T % 4294967296 := ⟨_, rfl⟩
      obtain ⟨hi, hhi⟩ : ∃ hi, hi = T / 4294967296 := ⟨_, rfl⟩
      rw [← hlo, ← hhi] at hst
      have hlo' : lo < 4294967296 := by omega
      have hhi' : hi ≤ 1 := by omega
      have hTb : T < 8589934592 := by omega
      have e1 : IntKind.u32.wrap (T : Int) = (lo : Int) := by rw [hlo]; simp [IntKind.wrap, IntKind.bits, IntKind.signed]
      have e2 : ((T : Int) / 4294967296) = (hi : Int) := by rw [hhi]; rfl
      have hS2 := As.mk (snoc_lt hSl.out hlo')
      have Hst := As.mk hst
      have HS := As.mk hS
      have hput : k < (S ++ List.replicate (l.length + 1 - (k + 1) + 1) 0).length := by simp; omega
      have hfill : (S ++ List.replicate (l.length + 1 - (k + 1) + 1) 0).set k lo = (S ++ [lo]) ++ List.replicate (l.length + 1 - (k + 1)) 0 := fill_up 0 lo _ S k hS
      have Hfill := As.mk hfill
      have Hput := As.mk hput
      clear hst hS hlo hhi hxe hgx hV hSl hfill hput
      by_cases h2 : k < m.length
      · obtain ⟨b2, off2, rfl⟩ := hr2.get (ne_nil_of_lt h2)
        have hcell2 := Rd.u (hr2.below hb) k h2
        have hy2 : m[k] = y := by rw [hye]; simp [List.getD, List.getElem?_eq_getElem h2]
        rw [hy2] at hcell2
        have e0 : ((cy : Int) + (x : Int) + (y : Int)) = (T : Int) := by rw [hT]; simp; omega
        have hT2 := As.mk hT
        clear hye hy2 hT
        go_wp2_with ((with_reducible refine g_store 46 ?_); go_must (refine ev_set rfl (by go_simp) B (u := lo) (by go_simp; rfl) infoU Hput.out (by rfl) ?_); intro w2 ho B2; rw [Hfill.out] at B2)
        go_roundw
        case rel => exact ⟨k + 1, hi, S ++ [lo], by omega, hhi', by rw [List.length_append, HS.out]; rfl, by go_num, by go_num, hS2, Hst, hb.trans (ho.below hg), B2⟩
        case measure => simp [intOf]; omega
      · have hy2 : y = 0 := by rw [hye]; simp [List.getD, List.getElem?_eq_none (Nat.le_of_not_lt h2)]
        have e0 : ((cy : Int) + (x : Int)) = (T : Int) := by rw [hT, hy2]; simp; omega
        have hT2 := As.mk hT
        clear hye hy2 hT
        go_wp2_with ((with_reducible refine g_store 46 ?_); go_must (refine ev_set rfl (by go_simp) B (u := lo) (by go_simp; rfl) infoU Hput.out (by rfl) ?_); intro w2 ho B2; rw [Hfill.out] at B2)
        go_roundw
        case rel => exact ⟨k + 1, hi, S ++ [lo], by omega, hhi', by rw [List.length_append, HS.out]; rfl, by go_num, by go_num, hS2, Hst, hb.trans (ho.below hg), B2⟩
        case measure => simp [intOf]; omega
    · have hkl : k = l.length := by omega
      subst hkl
      have hv := hV.out
      rw [List.take_of_length_le (Nat.le_refl _), List.take_of_length_le (i := l.length) hle] at hv
      have hput : l.length < (S ++ List.replicate (l.length + 1 - l.length) 0).length := by simp; omega
      have hfill : (S ++ List.replicate (l.length + 1 - l.length) 0).set l.length cy = S ++ [cy] := by
       rw [show l.length + 1 - l.length = 0 + 1 by omega, fill_up 0 cy 0 S _ hS]; simp
      have hcy2 : cy < 4294967296 := by omega
      have htr : trimL (S ++ [cy]) = digB 4294967296 (valB 4294967296 l + valB 4294967296 m) := by
       rw [trimL_dig 4294967296 (by omega) _ (snoc_lt hSl.out hcy2), valB_snoc, hS, hv]
      have Hn : As ((S ++ [cy]).length = l.length + 1) := ⟨by rw [List.length_append, hS]; rfl⟩
      have Htr := As.mk htr
      have Hfill := As.mk hfill
      have Hput := As.mk hput
      have hl4 : l.length + 1 ≤ 9223372036854775807 := by omega
      clear htr hfill hput hv hS hV hSl
      go_wp2_with (first
       | ((with_reducible refine g_store 55 ?_); go_must (refine ev_set rfl (by go_simp) B (u := cy) (by go_simp; rfl) infoU Hput.out (by rfl) ?_); intro w2 ho B2; rw [Hfill.out] at B2; have hrd' := B2.rdm encU_one; have hbw2 := hb.trans (ho.below hg))
       | (go_at_call 69; (with_reducible refine (trim_n (S ++ [cy]) (l.length + 1) Hn.out _ _ _ hrd' (by omega) hl4).mono ?_); rintro e w3 ⟨rfl, rfl⟩))
      go_ret
      refine ⟨_, rfl, ?_, hbw2⟩
      have := B2.ow (base := w.heap.size) encU_one hg (by rw [Hn.out]; simp only [maxLen]; omega) (trimL (S ++ [cy])).length (trimL_le _)
      rw [← trimL_take, Htr.out, Hn.out] at this
      rw [Htr.out]
      exact this
theorem drew_below {w W : World} {B : Nat} (h : Below B w W) (n : Nat) : Below B w (W.drewN n) := ⟨h.os, h.tape, h.output, h.size, h.block⟩
theorem getD_of_lt {l : List Nat} {j : Nat} (h : j < l.length) : l.getD j 0 = l[j] := by simp [List.getD, List.getElem?_eq_getElem h]
end Go.Proofs.YtdapbegadhcpcaaGreatDoor
namespace Go.Proofs.YtdapbegadhcpcaaGreatDoorM
theorem sumV_len32 (N : Nat) (L : List (List Nat)) (h : ∀ l ∈ L, (∀ x ∈ l, x < 4294967296) ∧ l.length ≤ N) (hL : L.length < 4294967296) : (digB 4294967296 (sumV 4294967296 L)).length ≤ N + 1 := by
 refine digB_len_lt 4294967296 (by omega) _ _ ?_
 have h1 := sumV_lt 4294967296 N (by omega) L h
 have hp : 0 < (4294967296 : Nat) ^ N := Nat.pow_pos (by omega)
 have h4 : L.length * 4294967296 ^ N < 4294967296 * 4294967296 ^ N := Nat.mul_lt_mul_of_pos_right hL hp
 rw [Nat.pow_succ, Nat.mul_comm (4294967296 ^ N)]
 omega
end Go.Proofs.YtdapbegadhcpcaaGreatDoorM
namespace Go.Proofs.YtdapbegadhcpcaaGreatDoor
open Go.RowKit Go.Proofs.YtdapbegadhcpcaaGreatDoorL Go.Proofs.YtdapbegadhcpcaaGreatDoorM
theorem Blk.drewN {w : World} {g : Nat} {cs : List Value} {t : TypeId} (f : Blk w g cs t) (n : Nat) : Blk (w.drewN n) g cs t := ⟨f.h⟩
theorem Blk.i_at {w : World} {g : Nat} {P : List Nat} {e : TypeId} (B : Blk w g (P.map valI) e) {j p : Nat} (h : j < P.length) (hp : P[j] = p) : w.cell? ⟨g, j, none⟩ = some (.int .i64 (p : Nat)) := by
 rw [B.cells, List.getElem?_map, List.getElem?_eq_getElem h, hp]; rfl
set_option maxRecDepth 8000 in
set_option maxHeartbeats 2000000 in
theorem rmul_any (l m : List Nat) (La Lb : Nat) (hLa : l.length = La) (hLb : m.length = Lb) (A A2 : Option Addr) (c c2 : Nat) (w : World) (hr : Rd encI 1 w A l) (hr2 : Rd encI 1 w A2 m) (hl : (∀ x ∈ l, x < 65536) ∧ (∀ x ∈ m, x < 65536)) (hc : La ≤ c) (hc2 : Lb ≤ c2) (hm : La ≤ 4398046511104) (hm2 : Lb ≤ 4398046511104) :
 Calls Tryz.prog 73 #[.slice A La c, .slice A2 Lb c2] w (Gives w fun v w' => Ow encI 1 3 w.heap.size w' v (digB 65536 (valB 65536 l * valB 65536 m))) := by
 subst hLa hLb
 have hmulb := mul_lt_pow 65536 l m (by omega) hl.1 hl.2
 obtain ⟨U, hU⟩ : ∃ U, U = valB 65536 m := ⟨_, rfl⟩
 have htkle : ∀ i, valB 65536 (l.take i) * U < 65536 ^ (l.length + m.length) := fun i => by
  refine Nat.lt_of_le_of_lt (Nat.mul_le_mul_right U ?_) (hU ▸ hmulb)
  have := valB_split 65536 l i
  omega
 rw [← hU]
 have HU := As.mk hU
 have HT := As.mk htkle
 have HL := As.mk hl
 obtain ⟨n, hn⟩ : ∃ n, n = l.length + m.length + 1 := ⟨_, rfl⟩
 have hnb : n ≤ 8796093022209 := by omega
 have en : (l.length : Int) + (m.length : Int) + 1 = (n : Int) := by omega
 have Hn := As.mk hn
 clear hmulb hU htkle hl hn
 go_enter Tryz.func73, Tryz.ntmps73
 go_wp2_with ((with_reducible refine g_dst 18 ?_); go_must (refine ev_make 18 rfl Tryz.underlying89 infoI rfl (n := n) rfl rfl (by omega) (by omega) ?_); intro g w1 hb1 B1 hg)
 clear en
 go_loopw [6, 7, 8, 9, 10, 11] (fun v _ _ _ _ _ wr => ∃ i : Nat, ∃ P : List Nat, i ≤ l.length ∧ P.length = n ∧ v = .int .i64 (i : Int) ∧ As (∀ x ∈ P, x < 65536) ∧ As (valB 65536 P = valB 65536 (l.take i) * U) ∧ Below w.heap.size w wr ∧ Blk wr g (P.map valI) 3) (fun v _ _ _ _ _ _ => l.length - (intOf v).toNat)
 case atStart => exact ⟨0, List.replicate n 0, by omega, by simp, rfl, ⟨fun x hx => by rw [List.eq_of_mem_replicate hx]; omega⟩, ⟨by rw [valB_zeros]; simp [valB]⟩, hb1, by simpa [valI] using B1⟩
 case round =>
  obtain ⟨i, P, hi, hPn, rfl, hPl, hPv, hb, B⟩ := hrel
  by_cases h : i < l.length
  · obtain ⟨b, off, rfl⟩ := hr.get (ne_nil_of_lt (i := i) (by omega))
    have hx := HL.out.1 _ (List.getElem_mem h)
    have htk := valB_take_succ 65536 l i
    rw [getD_of_lt h] at htk
    obtain ⟨x, hxe⟩ : ∃ x, x = l[i] := ⟨_, rfl⟩
    have hri := fun (w1 : World) (hb1 : Below w.heap.size w w1) => Rd.i (hr.below hb1) i h
    rw [← hxe] at hx htk
    simp only [← hxe] at hri
    have Hri := As.mk hri
    have Htk := As.mk htk
    have HPn := As.mk hPn
    have hic : i < c := by omega
    clear hxe htk hPn hri
    obtain ⟨P0, hP0⟩ : ∃ P0, P0 = P := ⟨_, rfl⟩
    have HP0 := As.mk (hP0 ▸ hPv.out)
    go_wp2
    go_loopw [8, 7, 9] (fun v u _ wq => ∃ k cy : Nat, ∃ P : List Nat, k ≤ m.length ∧ cy < 65536 ∧ v = .int .i64 (k : Int) ∧ u = .int .i64 (cy : Int) ∧ As (P.length = n) ∧ As (∀ x ∈ P, x < 65536) ∧ As (valB 65536 P + 65536 ^ (i + k) * cy = valB 65536 P0 + 65536 ^ i * (x * valB 65536 (m.take k))) ∧ Below w.heap.size w wq ∧ Blk wq g (P.map valI) 3) (fun v _ _ _ => m.length - (intOf v).toNat)
    case atStart => exact ⟨0, 0, P, by omega, by omega, rfl, rfl, HPn, hPl, ⟨by rw [hP0]; simp [valB]⟩, hb, B⟩
    case round =>
     clear hb B hPl hP0 hPv
     obtain ⟨k, cy, P, hk, hcy, rfl, rfl, hPn, hPl, hPv, hb, B⟩ := hrel
     by_cases h2 : k < m.length
     · obtain ⟨b2, off2, rfl⟩ := hr2.get (ne_nil_of_lt (i := k) (by omega))
       have hcell := Hri.out wr hb
       have hcell2 := Rd.i (hr2.below hb) k h2
       have hy := HL.out.2 _ (List.getElem_mem h2)
       have htk2 := valB_take_succ 65536 m k
       rw [getD_of_lt h2] at htk2
       obtain ⟨y, hye⟩ : ∃ y, y = m[k] := ⟨_, rfl⟩
       rw [← hye] at hcell2 hy htk2
       obtain ⟨j, hj⟩ : ∃ j, j = i + k := ⟨_, rfl⟩
       have ej : (i : Int) + (k : Int) = (j : Int) := by omega
       have hjn : j < n := by have := Hn.out; omega
       have hjP : j < P.length := by rw [hPn.out]; exact hjn
       have hpl := hPl.out _ (List.getElem_mem hjP)
       obtain ⟨p, hp⟩ : ∃ p, p = P[j] := ⟨_, rfl⟩
       rw [← hp] at hpl
       have hcellp := Blk.i_at B hjP hp.symm
       obtain ⟨q, hq⟩ : ∃ q, q = x * y := ⟨_, rfl⟩
       have hqb : q ≤ 65535 * 65535 := by rw [hq]; exact Nat.mul_le_mul (by omega) (by omega)
       have eq1 : (x : Int) * (y : Int) = (q : Int) := by rw [hq]; simp
       obtain ⟨T, hT⟩ : ∃ T, T = cy + q + p := ⟨_, rfl⟩
       have e0 : (p : Int) + (q : Int) + (cy : Int) = (T : Int) := by omega
       have hms := mul_step 65536 P j q cy T hjP (by rw [← hp]; exact hT)
       obtain ⟨lo, hlo⟩ : ∃ lo, lo = T % 65536 := ⟨_, rfl⟩
       obtain ⟨hi2, hhi⟩ : ∃ hi, hi = T / 65536 := ⟨_, rfl⟩
       rw [← hlo, ← hhi] at hms
       have hlo' : lo < 65536 := by omega
       have hhi' : hi2 < 65536 := by omega
       have e1 : ((T : Int).tmod 65536) = (lo : Int) := by rw [Int.tmod_eq_emod_of_nonneg (by omega), hlo]; rfl
       have e2 : ((T : Int).tdiv 65536) = (hi2 : Int) := by rw [Int.tdiv_eq_ediv_of_nonneg (by omega), hhi]; rfl
       have hTb : T < 4294967296 := by omega
       have Hst : As (valB 65536 (P.set j lo) + 65536 ^ (i + (k + 1)) * hi2 = valB 65536 P0 + 65536 ^ i * (x * valB 65536 (m.take (k + 1)))) := ⟨by
        have hv := hPv.out
        rw [← hj] at hv
        have e : i + (k + 1) = j + 1 := by omega
        have e3 : 65536 ^ i * (x * valB 65536 (m.take (k + 1))) = 65536 ^ i * (x * valB 65536 (m.take k)) + 65536 ^ j * q := by
         rw [htk2, hq, hj, Nat.pow_add, Nat.mul_add, Nat.mul_add]
         congr 1
         rw [Nat.mul_left_comm x, Nat.mul_assoc]
        rw [e, e3, hms, Nat.mul_add]
        omega⟩
       have HS2 := As.mk (set_lt (j := j) hPl.out hlo')
       have Hn2 : As ((P.set j lo).length = n) := ⟨by rw [List.length_set]; exact hPn.out⟩
       have HjP := As.mk hjP
       have hkc2 : k < c2 := by omega
       have Hj := As.mk hj
       have HTT := As.mk hT
       clear hms hlo hhi hp hq hT htk2 hye hPl hPv hj hjP
       go_wp2
       go_quiet (fail)
       go_wp2_with ((with_reducible refine g_store 55 ?_); go_must (refine ev_set rfl (by go_simp) (Blk.drewN B _) (u := lo) (by go_simp; rfl) infoI HjP.out (by rfl) ?_); intro w2 ho B2)
       go_roundw
       case rel => exact ⟨k + 1, hi2, P.set j lo, by omega, hhi', by go_num, by go_num, Hn2, HS2, Hst, (drew_below hb _).trans (ho.below hg), B2⟩
       case measure => simp [intOf]; omega
     · have hkl : k = m.length := by omega
       subst hkl
       have hv := hPv.out
       rw [List.take_of_length_le (Nat.le_refl _), ← HU.out, HP0.out] at hv
       have Hv : As (valB 65536 P + 65536 ^ (i + m.length) * cy = valB 65536 (l.take (i + 1)) * U) := ⟨by rw [hv, Htk.out, Nat.add_mul, Nat.mul_assoc]⟩
       clear hv hPv
       go_wp2
       go_loopw [10, 7, 11] (fun v u _ wq => ∃ k cy : Nat, ∃ P : List Nat, k ≤ n ∧ cy < 65536 ∧ v = .int .i64 (k : Int) ∧ u = .int .i64 (cy : Int) ∧ As (P.length = n) ∧ As (∀ x ∈ P, x < 65536) ∧ As (valB 65536 P + 65536 ^ k * cy = valB 65536 (l.take (i + 1)) * U) ∧ Below w.heap.size w wq ∧ Blk wq g (P.map valI) 3) (fun v _ _ _ => n - (intOf v).toNat)
       case atStart => exact ⟨i + m.length, cy, P, by have := Hn.out; omega, hcy, by go_num, rfl, hPn, hPl, Hv, hb, B⟩
       case round =>
        clear hb B hPl hPn Hv hcy
        obtain ⟨k, cy, P, hk, hcy, rfl, rfl, hPn, hPl, hPv, hb, B⟩ := hrel
        rcases Nat.eq_zero_or_pos cy with rfl | hcy0
        · have Hv : As (valB 65536 P = valB 65536 (l.take (i + 1)) * U) := ⟨by have := hPv.out; omega⟩
          go_wp2
          refine ⟨⟨i + 1, P, by omega, hPn.out, by go_num, hPl, Hv, hb, B⟩, by simp [intOf]; omega⟩
        · have hroom := carry_room 65536 (by omega) (l.length + m.length) k cy (valB 65536 P) _ (HT.out (i + 1)) hPv.out hcy0 (by omega)
          have hkn : k < n := by have := Hn.out; omega
          have hjP : k < P.length := by rw [hPn.out]; exact hkn
          have hpl := hPl.out _ (List.getElem_mem hjP)
          obtain ⟨p, hp⟩ : ∃ p, p = P[k] := ⟨_, rfl⟩
          rw [← hp] at hpl
          have hcellp := Blk.i_at B hjP hp.symm
          obtain ⟨T, hT⟩ : ∃ T, T = cy + 0 + p := ⟨_, rfl⟩
          have e0 : (p : Int) + (cy : Int) = (T : Int) := by omega
          have hms := mul_step 65536 P k 0 cy T hjP (by rw [← hp]; exact hT)
          obtain ⟨lo, hlo⟩ : ∃ lo, lo = T % 65536 := ⟨_, rfl⟩
          obtain ⟨hi2, hhi⟩ : ∃ hi, hi = T / 65536 := ⟨_, rfl⟩
          rw [← hlo, ← hhi] at hms
          have hlo' : lo < 65536 := by omega
          have hhi' : hi2 < 65536 := by omega
          have e1 : ((T : Int).tmod 65536) = (lo : Int) := by rw [Int.tmod_eq_emod_of_nonneg (by omega), hlo]; rfl
          have e2 : ((T : Int).tdiv 65536) = (hi2 : Int) := by rw [Int.tdiv_eq_ediv_of_nonneg (by omega), hhi]; rfl
          have hTb : T < 4294967296 := by omega
          have Hst : As (valB 65536 (P.set k lo) + 65536 ^ (k + 1) * hi2 = valB 65536 (l.take (i + 1)) * U) := ⟨by
           rw [hms, Nat.add_zero]; exact hPv.out⟩
          have HS2 := As.mk (set_lt (j := k) hPl.out hlo')
          have Hn2 : As ((P.set k lo).length = n) := ⟨by rw [List.length_set]; exact hPn.out⟩
          have HjP := As.mk hjP
          have HTT := As.mk hT
          have z0 : decide ((0 : Int) < (cy : Int)) = true := by simp; omega
          have z1 : decide (0 < cy) = true := by simp; omega
          clear hms hlo hhi hp hT hPl hPv hjP
          go_wp2_with ((with_reducible refine g_store 76 ?_); go_must (refine ev_set rfl (by go_simp) B (u := lo) (by go_simp; rfl) infoI HjP.out (by rfl) ?_); intro w2 ho B2)
          go_roundw
          case rel => exact ⟨k + 1, hi2, P.set k lo, by omega, hhi', by go_num, by go_num, Hn2, HS2, Hst, hb.trans (ho.below hg), B2⟩
          case measure => simp [intOf]; omega
  · have hil : i = l.length := by omega
    subst hil
    have htr : trimL P = digB 65536 (valB 65536 l * U) := by
     have := hPv.out
     rw [List.take_of_length_le (Nat.le_refl _)] at this
     rw [trimL_dig 65536 (by omega) _ hPl.out, this]
    have Htr := As.mk htr
    have HPn := As.mk hPn
    have hrd' := B.rdm encI_one
    clear htr hPl hPv hPn
    go_wp2_with (go_at_call 84; (with_reducible refine (rtrim_any P n HPn.out _ _ _ hrd' (by omega) (fun h => by cases h) (by omega)).mono ?_); rintro e w3 ⟨v3, rfl, ho3, hb3⟩)
    go_ret
    exact ⟨_, rfl, by rw [← Htr.out]; exact ho3.lower hb.size, bthen hb hb3⟩
theorem Ow.lim {base n c : Nat} {w : World} {A : Option Addr} {V : Nat} (f : Ow encU 1 77 base w (.slice A n c) (digB 4294967296 V)) (hc : (digB 4294967296 V).length ≤ c) (hm : (digB 4294967296 V).length ≤ 274877906944) : Lim w A c (digB 4294967296 V) :=
 ⟨f.rd lenU, digB_lt _ (by omega) _, hc, f.none, hm⟩
theorem addN_any (l m : List Nat) (n n2 : Nat) (hn : l.length = n) (hn2 : m.length = n2) (A A2 : Option Addr) (c c2 : Nat) (w : World) (hr : Rd encU 1 w A l) (hr2 : Rd encU 1 w A2 m) (hl : (∀ x ∈ l, x < 4294967296) ∧ (∀ x ∈ m, x < 4294967296)) (hc : n ≤ c) (hc2 : n2 ≤ c2) (hm : n ≤ 4398046511104) (hm2 : n2 ≤ 4398046511104) :
 Calls Tryz.prog 82 #[.slice A n c, .slice A2 n2 c2] w (Gives w fun v w' => Ow encU 1 77 w.heap.size w' v (digB 4294967296 (valB 4294967296 l + valB 4294967296 m))) := by
 subst hn hn2; exact add_any l m A A2 c c2 w hr hr2 hl hc hc2 (by omega) (by omega)
set_option maxHeartbeats 400000 in
theorem natAdd_any (l m : List Nat) (n n2 n3 : Nat) (hn : l.length = n) (hn2 : m.length = n2) (L : List Sl) (hn3 : L.length = n3) (A A2 A3 : Option Addr) (c c2 c3 : Nat) (w : World) (h1 : Lim w A c l) (h2 : Lim w A2 c2 m) (hr : Rd encS 1 w A3 L) (hg : ∀ s ∈ L, s.Good w) (hc : n3 ≤ c3) (hm : n3 ≤ 1073741824) :
 Calls Tryz.prog 71 #[.slice A n c, .slice A2 n2 c2, .slice A3 n3 c3] w (Gives w fun v w' => Ow encU 1 77 w.heap.size w' v (digB 4294967296 (valB 4294967296 l + valB 4294967296 m + sumV 4294967296 (L.map Sl.l)))) := by
 subst hn3
 have hlen := As.mk (fun k => sumV_len32 274877906944 (l :: m :: (L.map Sl.l).take k) (fun x hx => by
  simp only [List.mem_cons] at hx
  rcases hx with rfl | rfl | hx
  · exact ⟨h1.lt, h1.max⟩
  · exact ⟨h2.lt, h2.max⟩
  · obtain ⟨s, hs, rfl⟩ := List.mem_map.1 (List.mem_of_mem_take hx)
    exact ⟨(hg s hs).lt, (hg s hs).max⟩) (by simp only [List.length_cons, List.length_take, List.length_map]; omega))
 simp only [sumV, ← Nat.add_assoc] at hlen
 have HA := As.mk (addN_any l m n n2 hn hn2 A A2 c c2 w h1.rd h2.rd ⟨h1.lt, h2.lt⟩ (hn ▸ h1.cap) (hn2 ▸ h2.cap) (by have := h1.max; omega) (by have := h2.max; omega))
 obtain ⟨V, hV⟩ : ∃ V, V = valB 4294967296 l + valB 4294967296 m := ⟨_, rfl⟩
 rw [← hV] at HA ⊢
 simp only [← hV] at hlen
 have HG := As.mk hg
 clear hV hg h1 h2 hn hn2
 go_enter Tryz.func71, Tryz.ntmps71
 go_wp2_with (go_at_call 82; (with_reducible refine HA.out.mono ?_); rintro e w1 ⟨v1, rfl, ho1, hb1⟩)
 go_loopw [7, 9, 15] (fun v _ u wr => ∃ k S : Nat, k ≤ L.length ∧ u = .int .i64 (k : Int) ∧ As (S = V + sumV 4294967296 ((L.map Sl.l).take k)) ∧ Below w.heap.size w wr ∧ Ow encU 1 77 w.heap.size wr v (digB 4294967296 S)) (fun _ _ u _ => L.length - (intOf u).toNat)
 case atStart => exact ⟨0, V, by omega, rfl, ⟨by simp [sumV]⟩, hb1, ho1⟩
 case round =>
  obtain ⟨k, S, hk, rfl, hS, hb, ho⟩ := hrel
  obtain ⟨A1, c1, rfl, h1, h2⟩ := ho.form
  have hSn := hlen.out k
  rw [← hS.out] at hSn
  by_cases h : k < L.length
  · obtain ⟨b, off, rfl⟩ := (hr.below hb).get (ne_nil_of_lt h)
    have hcell := Rd.s (hr.below hb) k h
    have hsg := (HG.out _ (List.getElem_mem h)).below hb
    have hsum := sumV_take_succ 4294967296 (L.map Sl.l) k (by simpa using h)
    rw [List.getElem_map] at hsum
    obtain ⟨s, hs⟩ : ∃ s, s = L[k] := ⟨_, rfl⟩
    rw [← hs] at hcell hsg hsum
    obtain ⟨sA, sc, sl⟩ := s
    have hval := digB_val 4294967296 (by omega) S
    obtain ⟨D, hD⟩ : ∃ D, D = digB 4294967296 S := ⟨_, rfl⟩
    have hDl : ∀ x ∈ D, x < 4294967296 := by rw [hD]; exact digB_lt _ (by omega) _
    rw [← hD] at ho h1 hSn hval ⊢
    have Hadd := As.mk (addN_any D sl _ _ rfl rfl A1 sA c1 sc wr (ho.rd lenU) hsg.rd ⟨hDl, hsg.lt⟩ h1 hsg.cap (by omega) (Nat.le_trans hsg.max (by omega)))
    rw [hval] at Hadd
    have Hsum := As.mk hsum
    clear hsum hs hval hDl hD
    go_wp2_with (go_at_call 82; (with_reducible refine Hadd.out.mono ?_); rintro e w2 ⟨v2, rfl, ho2, hb2⟩)
    go_roundw
    case rel => exact ⟨k + 1, _, by omega, by go_num, ⟨by rw [Hsum.out, hS.out, Nat.add_assoc]⟩, bthen hb hb2, ho2.lower hb.size⟩
    case measure => simp [intOf]; omega
  · have ht : (L.map Sl.l).take k = L.map Sl.l := List.take_of_length_le (by simp; omega)
    have HS := As.mk (ht ▸ hS.out)
    clear ht
    go_wp2
    go_ret
    exact ⟨_, rfl, by rw [← HS.out]; exact ho, hb⟩
theorem flat_u (l : List Nat) : l.flatMap encU = l.map valU := by
 induction l with
 | nil => rfl
 | cons y l ih => rw [List.flatMap_cons, List.map_cons, ← ih]; rfl
theorem Ow.swap {l S : List Nat} {tl : List Value} {base g n c : Nat} {w w1 : World} {e : TypeId} (f : Ow encU 1 e base w (.slice (some ⟨g, 0, none⟩) n c) l) (B : Blk w g (l.map valU ++ tl) e) (B' : Blk w1 g (S.map valU ++ tl) e) (hS : S.length = l.length) : Ow encU 1 e base w1 (.slice (some ⟨g, 0, none⟩) n c) S := by
 have hn : n = l.length := f.len_eq
 subst hn
 obtain ⟨h1, h2⟩ := f.own
 rcases h2 with ⟨h, _⟩ | ⟨g', cap, cur, hv, hg, hh, k1, k2, k3, k4⟩
 · cases h
 · cases hv
   have hcur : cur = (l.map valU ++ tl).toArray := by
    have := hh.symm.trans B.h
    simpa using this
   refine ⟨⟨by rw [flat_u]; simp, .inr ⟨g, c, (S.map valU ++ tl).toArray, by rw [hS], hg, B'.h, by omega, k2, ?_, ?_⟩⟩⟩
   · rw [← k3, hcur]; simp [hS]
   · rw [flat_u]; simp
theorem Ow.takeU {l : List Nat} {base n c : Nat} {w : World} {e : TypeId} {A : Option Addr} (f : Ow encU 1 e base w (.slice A n c) l) (k : Nat) (hk : k ≤ l.length) : Ow encU 1 e base w (.slice A k c) (l.take k) := by
 have hlk : (l.take k).length = k := by rw [List.length_take]; omega
 obtain ⟨h1, h2⟩ := f.own
 rcases h2 with ⟨h, h0⟩ | ⟨g', cap, cur, hv, hg, hh, k1, k2, k3, k4⟩
 · simp only [Value.slice.injEq] at h
   obtain ⟨rfl, rfl, rfl⟩ := h
   obtain rfl : k = 0 := by omega
   rw [List.take_zero]
   exact Ow.nil _ _ _ _ _
 · cases hv
   refine ⟨⟨by rw [flat_u]; simp, .inr ⟨g', c, cur, by rw [hlk], hg, hh, by omega, k2, k3, ?_⟩⟩⟩
   rw [flat_u] at k4 ⊢
   rw [hlk, Nat.mul_one, List.map_take, ← k4, List.take_take, Nat.mul_one, Nat.min_eq_left hk]
theorem mid_store (S R : List Nat) (x v k : Nat) (tl : List Value) (hS : S.length = k) : (((S ++ x :: R).map valU ++ tl).take k ++ [valU v] ++ ((S ++ x :: R).map valU ++ tl).drop (k + [valU v].length)) = ((S ++ [v]) ++ R).map valU ++ tl := by
 subst hS
 simp [List.take_append, List.drop_append]
set_option maxHeartbeats 1000000 in
theorem grow_any (l : List Nat) (A : Option Addr) (n c base by_ more : Nat) (w : World) (f : Ow encU 1 77 base w (.slice A n c) l) (hn : l.length = n) (hl : ∀ x ∈ l, x < 4294967296) (hby : by_ < 4294967296) (hmore : more < 4294967296) (hm : n ≤ 1073741824) (hbase : base ≤ w.heap.size) :
 Calls Tryz.prog 68 #[.slice A n c, .int .u32 by_, .int .u32 more] w fun e w' => ∃ v l', e = .returned v ∧ Ow encU 1 77 base w' v l' ∧ (∀ x ∈ l', x < 4294967296) ∧ valB 4294967296 l' = valB 4294967296 l * by_ + more ∧ l'.length ≤ n + 1 ∧ Below base w w' := by
 have HL := As.mk hl
 have Hn := As.mk hn
 have hB1 : As (∀ cy : Nat, ([cy] : List Nat).length = 1) := ⟨fun _ => rfl⟩
 by_cases h0 : n = 0
 · subst h0
   obtain rfl : l = [] := List.eq_nil_of_length_eq_zero hn
   have e1 : IntKind.u32.wrap (more : Int) = (more : Int) := IntWalk.u32_in _ (by omega)
   have HB1 := As.mk (show (([] : List Nat).length + 1) * 4 ≤ 140737488355328 from by decide)
   have HM1 := As.mk (show ([] : List Nat).length + 1 ≤ maxLen from by decide)
   clear hl hn
   by_cases hc0 : 0 < more
   · have hcI : (0 : Int) < (more : Int) := by omega
     go_enter Tryz.func68, Tryz.ntmps68
     go_wp2
     go_loopw [14, 7, 8, 9] (fun v u _ _ wr => v = .int .i64 0 ∧ u = .int .u64 (more : Int) ∧ w = wr) (fun v _ _ _ _ => 0)
     case atStart => exact ⟨rfl, rfl, rfl⟩
     case round =>
      obtain ⟨rfl, rfl, rfl⟩ := hrel
      go_wp2_with (first
       | ((with_reducible refine g_dst 39 ?_); go_must (refine ev_lit (v := fun g => .slice (some ⟨g, 0, none⟩) 1 1) 39 rfl (cs := [valU more]) (t := 77) (by go_simp; rfl) ?_); intro g2 w2 hb2 B2 hg2; have f2 := f.below hb2)
       | ((with_reducible refine g_dst 40 ?_); go_must (refine ev_append 40 rfl Tryz.underlying31 infoU rfl (by decide) rfl f2 rfl (hB1.out more) (B2.rdm (l := [more]) encU_one) lenU oneU (fun h => (nomatch h)) HB1.out HM1.out (Nat.le_trans hbase hb2.size) ?_); intro v3 w3 ho3 hg3; have hb3 := f2.grown (hb2.mono hbase) hg3 (Nat.le_refl _) (Nat.le_trans hbase hb2.size)))
      go_ret
      exact ⟨_, [more], rfl, ho3, fun x hx => by simp only [List.mem_singleton] at hx; omega, by simp [valB], by simp, hb3⟩
   · obtain rfl : more = 0 := by omega
     go_enter Tryz.func68, Tryz.ntmps68
     go_wp2
     go_loopw [14, 7, 8, 9] (fun v u _ _ wr => v = .int .i64 0 ∧ u = .int .u64 0 ∧ w = wr) (fun v _ _ _ _ => 0)
     case atStart => exact ⟨rfl, rfl, rfl⟩
     case round =>
      obtain ⟨rfl, rfl, rfl⟩ := hrel
      go_wp2
      go_ret
      exact ⟨_, [], rfl, f, fun x hx => (nomatch hx), by simp [valB], by simp, Below.refl _ _⟩
 · have hne : l ≠ [] := fun e => by rw [e] at hn; simp at hn; omega
   obtain ⟨g, c', tl, hv, hg, hlc, B⟩ := Ow.blk f encU_one hne
   simp only [Value.slice.injEq] at hv
   obtain ⟨rfl, hnl, rfl⟩ := hv
   have HB := As.mk B
   have hnb : n * 4 ≤ 4294967296 := by omega
   clear hl hne hnl
   go_enter Tryz.func68, Tryz.ntmps68
   go_wp2
   go_loopw [14, 7, 8, 9] (fun v u _ _ wr => ∃ (k cy : Nat) (S : List Nat), k ≤ n ∧ cy < 4294967296 ∧ v = .int .i64 (k : Int) ∧ u = .int .u64 (cy : Int) ∧ As (S.length = k) ∧ As (∀ x ∈ S, x < 4294967296) ∧ As (valB 4294967296 S + 4294967296 ^ k * cy = valB 4294967296 (l.take k) * by_ + more) ∧ Only g w wr ∧ Blk wr g ((S ++ l.drop k).map valU ++ tl) 77) (fun v _ _ _ _ => n - (intOf v).toNat)
   case atStart => exact ⟨0, more, [], by omega, hmore, rfl, rfl, ⟨rfl⟩, ⟨fun x hx => (nomatch hx)⟩, ⟨by simp [valB]⟩, ⟨rfl, rfl, rfl, rfl, fun _ _ => rfl⟩, by simpa using B⟩
   case round =>
    clear B
    obtain ⟨k, cy, S, hk, hcy, rfl, rfl, hS, hSl, hV, ho, B⟩ := hrel
    have hnn := Hn.out
    by_cases h : k < n
    · have hkl : k < l.length := by rw [hnn]; exact h
      rw [drop_cons_of_lt l k hkl] at B
      have htk := valB_take_succ 4294967296 l k
      rw [getD_of_lt hkl] at htk
      have hx4 := HL.out _ (List.getElem_mem hkl)
      obtain ⟨x, hx⟩ : ∃ x, x = l[k] := ⟨_, rfl⟩
      rw [← hx] at B htk hx4
      have hcell : wr.cell? ⟨g, k, none⟩ = some (.int .u32 (x : Nat)) := by
       rw [B.cells, List.getElem?_append_left (by simp [hS.out]), List.getElem?_map, List.getElem?_append_right (by rw [hS.out]; exact Nat.le_refl _), hS.out, Nat.sub_self]; rfl
      obtain ⟨q, hq⟩ : ∃ q, q = x * by_ := ⟨_, rfl⟩
      have hqb : q ≤ 4294967295 * 4294967295 := by rw [hq]; exact Nat.mul_le_mul (by omega) (by omega)
      have eq1 : (x : Int) * (by_ : Int) = (q : Int) := by rw [hq, Int.natCast_mul]
      obtain ⟨T, hT⟩ : ∃ T, T = cy + q := ⟨_, rfl⟩
      have e0 : (cy : Int) + (q : Int) = (T : Int) := by omega
      have hTb : T < 18446744073709551616 := by omega
      obtain ⟨lo, hlo⟩ : ∃ lo, lo = T % 4294967296 := ⟨_, rfl⟩
      obtain ⟨hi, hhi⟩ : ∃ hi, hi = T / 4294967296 := ⟨_, rfl⟩
      have hlo4 : lo < 4294967296 := by omega
      have hhi4 : hi < 4294967296 := by omega
      have e1 : IntKind.u32.wrap (T : Int) = (lo : Int) := by rw [hlo]; simp [IntKind.wrap, IntKind.bits, IntKind.signed]
      have e2 : (T : Int) / 4294967296 = (hi : Int) := by rw [hhi]; rfl
      have Hst : As (valB 4294967296 (S ++ [lo]) + 4294967296 ^ (k + 1) * hi = valB 4294967296 (l.take (k + 1)) * by_ + more) := ⟨by
       have h1 : 4294967296 ^ k * (lo + 4294967296 * hi) = 4294967296 ^ k * (cy + x * by_) := by rw [hlo, hhi, Nat.mod_add_div, hT, hq]
       have h2 := hV.out
       rw [valB_snoc, hS.out, htk, Nat.pow_succ, Nat.add_mul, Nat.mul_assoc _ x, Nat.mul_assoc _ 4294967296]
       rw [Nat.mul_add, Nat.mul_add] at h1
       omega⟩
      have HS2 : As ((S ++ [lo]).length = k + 1) := ⟨by simp [hS.out]⟩
      have HSl2 : As (∀ x ∈ S ++ [lo], x < 4294967296) := ⟨snoc_lt hSl.out hlo4⟩
      have Hmid := As.mk (mid_store S (l.drop (k + 1)) x lo k tl hS.out)
      have Hfit := As.mk (show k + [valU lo].length ≤ ((S ++ x :: l.drop (k + 1)).map valU ++ tl).length by simp [hS.out])
      have hkc : k < c := by omega
      have Hone := As.mk (show ∀ v ∈ [valU lo], v.oneCell' = true by simp [valU, Value.oneCell'])
      clear hx hq hT hlo hhi htk hkl hV hS hSl hnn
      go_wp2_with ((with_reducible refine g_store 30 ?_); go_must (refine ev_store rfl (by go_simp) B (news := [valU lo]) (by go_simp; rfl) infoU Hfit.out Hone.out ?_); intro w2 ho2 B2; rw [Hmid.out] at B2)
      go_roundw
      case rel => exact ⟨k + 1, hi, S ++ [lo], by omega, hhi4, by go_num, by go_num, HS2, HSl2, Hst, ho.trans ho2, B2⟩
      case measure => simp [intOf]; omega
    · obtain rfl : k = n := by omega
      have hV' := hV.out
      rw [List.take_of_length_le (by rw [hnn]; exact Nat.le_refl _)] at hV'
      rw [List.drop_eq_nil_of_le (by rw [hnn]; exact Nat.le_refl _), List.append_nil] at B
      have fS := Ow.swap f HB.out B (by rw [hS.out, hnn])
      have hbw := ho.below hg
      have hbw2 : base ≤ wr.heap.size := Nat.le_trans hbase hbw.size
      have HSS := As.mk (And.intro hS.out (And.intro hSl.out hV'))
      have hSk := hS.out
      by_cases hc0 : 0 < cy
      · have hcI : (0 : Int) < (cy : Int) := by omega
        have e1 : IntKind.u32.wrap (cy : Int) = (cy : Int) := IntWalk.u32_in _ (by omega)
        have HB1 := As.mk (show (S.length + 1) * 4 ≤ 140737488355328 by omega)
        have HM1 := As.mk (show S.length + 1 ≤ maxLen by simp only [maxLen]; omega)
        clear hV hV' hS hSl hnn B hSk
        go_wp2_with (first
         | ((with_reducible refine g_dst 39 ?_); go_must (refine ev_lit (v := fun g => .slice (some ⟨g, 0, none⟩) 1 1) 39 rfl (cs := [valU cy]) (t := 77) (by go_simp; rfl) ?_); intro g2 w2 hb2 B2 hg2; have f2 := fS.below hb2)
         | ((with_reducible refine g_dst 40 ?_); go_must (refine ev_append 40 rfl Tryz.underlying31 infoU rfl (by decide) rfl f2 rfl (hB1.out cy) (B2.rdm (l := [cy]) encU_one) lenU oneU (fun h => (nomatch h)) HB1.out HM1.out (Nat.le_trans hbw2 hb2.size) ?_); intro v3 w3 ho3 hg3; have hb3 := f2.grown (hbw.trans (hb2.mono hbw2)) hg3 (Nat.le_refl _) (Nat.le_trans hbw2 hb2.size)))
        go_ret
        exact ⟨_, S ++ [cy], rfl, ho3, snoc_lt HSS.out.2.1 hcy, by rw [valB_snoc, HSS.out.1]; exact HSS.out.2.2, by simp [HSS.out.1], hb3⟩
      · obtain rfl : cy = 0 := by omega
        clear hV hV' hS hSl hnn B hSk
        go_wp2
        go_ret
        exact ⟨_, S, rfl, fS, HSS.out.2.1, by have := HSS.out.2.2; omega, by rw [HSS.out.1]; omega, hbw⟩
theorem parseUint_any (x : ByteArray) (w : World) (hd : ∀ c ∈ x.data.toList, isD c = true) (h0 : x.size ≠ 0) (h9 : x.size ≤ 9) :
 Calls Tryz.prog 67 #[.string x, .int .i64 10, .int .i64 32] w (Gives w fun v _ => v = .tuple #[.int .u64 ((numV 0 x.data.toList : Nat) : Int), .nilIface]) := by
 have hlen : x.data.toList.length ≤ 9 := by
  have : x.data.toList.length = x.size := by rw [Array.length_toList]; rfl
  omega
 have hlt := numV_lt0 x.data.toList hd
 have h10 : 10 ^ x.data.toList.length ≤ 10 ^ 9 := Nat.pow_le_pow_right (by omega) hlen
 have hle : numV 0 x.data.toList ≤ 4294967295 := by
  have : (10 : Nat) ^ 9 = 1000000000 := by decide
  omega
 have hP := Tryz.internal_strconv_ParseUint_10_b32 x h0 (by omega) w
 rw [parse_ok 4294967295 (Nat.le_refl _) _ 0 hd hle] at hP
 obtain ⟨V, hV⟩ : ∃ V, V = numV 0 x.data.toList := ⟨_, rfl⟩
 rw [← hV] at hP hle ⊢
 have HP := As.mk hP
 have HB := As.mk (Lib.bytesWorld_below w 5 x)
 clear hP hd hlt h10 hlen hV
 go_enter Tryz.func67, Tryz.ntmps67
 go_wp2_with (go_at_call 79; (refine HP.out.mono ?_); rintro e w1 ⟨rfl, hw1⟩; have hb1 : Below w.heap.size w w1 := (by rw [hw1]; exact HB.out); clear hw1; simp only [Lib.uintTupleM])
 go_ret2
 exact ⟨_, rfl, rfl, hb1⟩
theorem extract_list (s : ByteArray) (a e : Nat) (h : a ≤ e) (he : e ≤ s.size) : (s.extract a e).data.toList = (s.data.toList.drop a).take (e - a) := by
 rw [ByteArray.data_extract, Array.toList_extract, List.extract_eq_take_drop]
theorem byte_mem (s : ByteArray) (pos : Nat) (hp : pos < s.size) : s[pos]'hp ∈ s.data.toList := by
 rw [ByteArray.getElem_eq_getElem_data]; simp
theorem ne_empty (s : ByteArray) : (!s.toList.isEmpty) = decide (0 < s.size) := by
 rw [← decide_eq_emptyBytes]
 by_cases h : s = ByteArray.empty
 · subst h; rfl
 · have h2 : 0 < s.size := by
    rcases Nat.eq_zero_or_pos s.size with h0 | h0
    · exact absurd (ByteArray.size_eq_zero_iff.1 h0) h
    · exact h0
   simp [h, h2]
theorem iter_below {w wr : World} {B k pos : Nat} {s : ByteArray} (h : Below B w wr) (hk : B ≤ k) : Below B w (wr.iterAt k s pos) := Lib.below_iterAt h hk s pos
theorem pow10_9 (k : Nat) (h : k < 9) : 10 ^ k ≤ 100000000 := by
 have : (10 : Nat) ^ k ≤ 10 ^ 8 := Nat.pow_le_pow_right (by omega) (by omega)
 have e : (10 : Nat) ^ 8 = 100000000 := by decide
 omega
set_option maxRecDepth 8000 in
set_option maxHeartbeats 4000000 in
theorem parse_yes (s : ByteArray) (w : World) (hs : s.size ≤ 1073741824) (hd : ∀ c ∈ s.data.toList, isD c = true) :
 Calls Tryz.prog 59 #[.string s] w (Gives w fun v w' => ∃ q, v = .tuple #[q, .bool (decide (0 < s.size))] ∧ Ow encU 1 77 w.heap.size w' q (digB 4294967296 (numV 0 s.data.toList))) := by
 obtain ⟨t, ht⟩ : ∃ t, t = s.data.toList := ⟨_, rfl⟩
 have hsl : s.data.toList.length = s.size := by rw [Array.length_toList]; rfl
 rw [← ht] at hsl hd ⊢
 have HD := As.mk hd
 have HSL := As.mk hsl
 have Ht := As.mk ht
 clear hd hsl ht
 go_enter Tryz.func59, Tryz.ntmps59
 go_wp2
 go_loopw [5] (fun _ wr => ∃ pos : Nat, pos ≤ s.size ∧ As (wr.heap[w.heap.size]? = some (.stringIter s pos)) ∧ Below w.heap.size w wr) (fun _ wr => s.size - wr.iterPos w.heap.size)
 case atStart => exact ⟨0, by omega, ⟨World.iter_heap w s 0⟩, (Below.refl _ _).alloc (Nat.le_refl _) _⟩
 case round =>
  obtain ⟨pos, hpos, hit, hb⟩ := hrel
  have hpos0 := As.mk (iterPos_of hit.out)
  by_cases hp : pos < s.size
  · have hx := isD_of (HD.out (s[pos]'hp) (by
     have := byte_mem s pos hp
     rwa [← Ht.out] at this))
    have hnx := fun ty => Lib.run_next_ascii_at (P := Tryz.prog) wr w.heap.size s pos ty hit.out hp (by omega)
    obtain ⟨x, hxe⟩ : ∃ x, x = (s[pos]'hp).toNat := ⟨_, rfl⟩
    rw [← hxe] at hx hnx
    have hit2 := As.mk (Lib.iterAt_heap wr w.heap.size s pos (pos + 1) hit.out)
    have hb2 := iter_below (s := s) (pos := pos + 1) hb (Nat.le_refl _)
    obtain ⟨W1, hW1⟩ : ∃ W1, W1 = wr.iterAt w.heap.size s (pos + 1) := ⟨_, rfl⟩
    rw [← hW1] at hnx hit2 hb2
    have hx1 : ¬ (x : Int) < 48 := by omega
    have hx2 : ¬ (57 : Int) < (x : Int) := by omega
    clear hW1 hxe hit
    go_wp2
    go_roundw
    case rel => exact ⟨pos + 1, by omega, hit2, hb2⟩
    case measure => rw [iterPos_of hit2.out, hpos0.out]; omega
  · have hnx := fun ty => Lib.run_next_end_at (P := Tryz.prog) wr w.heap.size s pos ty hit.out hp
    go_wp2
    clear hnx hit hpos0 hp
    go_loopw [7, 6, 8, 9, 10, 11] (fun v u _ _ _ _ wr => ∃ (at_ c : Nat) (A : Option Addr) (l : List Nat), at_ ≤ s.size ∧ v = .int .i64 (at_ : Int) ∧ u = .slice A l.length c ∧ l.length ≤ at_ ∧ As (∀ x ∈ l, x < 4294967296) ∧ As (valB 4294967296 l = numV 0 (t.take at_)) ∧ Ow encU 1 77 w.heap.size wr (.slice A l.length c) l ∧ Below w.heap.size w wr) (fun v _ _ _ _ _ _ => s.size - (intOf v).toNat)
    case atStart => exact ⟨0, 0, none, [], by omega, rfl, rfl, by simp, ⟨fun x hx => (nomatch hx)⟩, ⟨by simp [valB, numV_nil]⟩, Ow.nil _ _ _ _ _, hb⟩
    case round =>
     clear hb
     obtain ⟨at_, c, A, l, hat, rfl, rfl, hll, hl, hV, ho, hb⟩ := hrel
     by_cases h : at_ < s.size
     · obtain ⟨r, hr⟩ : ∃ r, r = s.size % 9 := ⟨_, rfl⟩
       have er : (s.size : Int) % 9 = (r : Int) := by rw [hr]; rfl
       have hr9 : r < 9 := by omega
       obtain ⟨e, he, hae, hes, hed, hcase⟩ : ∃ e : Nat, (at_ = 0 ∧ 0 < r ∧ e = r ∨ (¬ (at_ = 0 ∧ 0 < r)) ∧ e = min s.size (at_ + 9)) ∧ at_ < e ∧ e ≤ s.size ∧ e - at_ ≤ 9 ∧ True := by
        by_cases hc : at_ = 0 ∧ 0 < r
        · exact ⟨r, .inl ⟨hc.1, hc.2, rfl⟩, by omega, by omega, by omega, trivial⟩
        · exact ⟨min s.size (at_ + 9), .inr ⟨hc, rfl⟩, by omega, by omega, by omega, trivial⟩
       obtain ⟨d, hd⟩ : ∃ d, d = e - at_ := ⟨_, rfl⟩
       have hxl := extract_list s at_ e (by omega) hes
       rw [← Ht.out, ← hd] at hxl
       have hxs : (s.extract at_ e).size = d := by rw [ByteArray.size_extract]; omega
       have hxd : ∀ c ∈ (s.extract at_ e).data.toList, isD c = true := fun c hc => HD.out c (by rw [hxl] at hc; exact List.mem_of_mem_drop (List.mem_of_mem_take hc))
       have hxlen : ((t.drop at_).take d).length = d := by rw [List.length_take, List.length_drop, HSL.out]; omega
       have hult := numV_lt0 _ hxd
       rw [hxl] at hult
       rw [hxlen] at hult
       have HU := As.mk (fun W => parseUint_any (s.extract at_ e) W hxd (by rw [hxs]; omega) (by rw [hxs]; omega))
       rw [hxl] at HU
       obtain ⟨u, hu⟩ : ∃ u, u = numV 0 ((t.drop at_).take d) := ⟨_, rfl⟩
       rw [← hu] at HU hult
       have hu10 : u < 4294967296 := by
        have : 10 ^ d ≤ 10 ^ 9 := Nat.pow_le_pow_right (by omega) (by omega)
        have e9 : (10 : Nat) ^ 9 = 1000000000 := by decide
        omega
       have eu : IntKind.u32.wrap (u : Int) = (u : Int) := IntWalk.u32_in _ (by omega)
       have HVn : As (numV 0 (t.take at_) * 10 ^ d + u = numV 0 (t.take e)) := ⟨by
        have h1 : t.take e = t.take at_ ++ (t.drop at_).take d := by
         rw [show e = at_ + d by omega, List.take_add]
        rw [h1, numV_append, numV_acc ((t.drop at_).take d), hxlen, ← hu]⟩
       obtain ⟨m0, hm0⟩ : ∃ m0, m0 = min s.size (at_ + 9) := ⟨_, rfl⟩
       have em0 : min (s.size : Int) ((at_ : Int) + 9) = (m0 : Int) := by rw [hm0]; omega
       have hati : (at_ : Int) < (s.size : Int) := by omega
       have haei : (at_ : Int) ≤ (e : Int) := by omega
       have hesi : (e : Int) ≤ (s.size : Int) := by omega
       have ed : (e : Int) - (at_ : Int) = (d : Int) := by omega
       have hd9 : d ≤ 9 := by omega
       have Hd := As.mk hd
       have hpow := pow10_9
       have hpre : ((at_ : Int) == 0) = true ∧ (0 : Int) < (r : Int) ∧ e = r ∨ ((at_ : Int) == 0) = true ∧ ¬ (0 : Int) < (r : Int) ∧ e = m0 ∨ ((at_ : Int) == 0) = false ∧ e = m0 := by
        rcases he with ⟨h1, h2, h3⟩ | ⟨h1, h2⟩
        · exact .inl ⟨by simp [h1], by omega, h3⟩
        · by_cases h3 : at_ = 0
          · exact .inr (.inl ⟨by simp [h3], by omega, by rw [hm0]; exact h2⟩)
          · exact .inr (.inr ⟨by simp [h3], by rw [hm0]; exact h2⟩)
       have HP := As.mk hpow
       clear hxl hxs hxd hxlen hult hu hd hr hcase he hm0 hpow
       rcases hpre with ⟨q1, q2, rfl⟩ | ⟨q1, q2, rfl⟩ | ⟨q1, rfl⟩
       all_goals
        go_wp2_with (go_at_call 67; (refine (HU.out _).mono ?_); rintro e0 w3 ⟨v3, rfl, rfl, hb3⟩; replace ho := ho.below hb3; replace hb := bthen hb hb3)
        go_loopw [11, 54] (fun p i wq => ∃ (k P : Nat), k ≤ d ∧ i = .int .i64 (k : Int) ∧ p = .int .u32 (P : Int) ∧ P ≤ 1000000000 ∧ As (P = 10 ^ k) ∧ w3 = wq) (fun _ i _ => d - (intOf i).toNat)
        case atStart => exact ⟨0, 1, by omega, rfl, rfl, by omega, ⟨by simp⟩, rfl⟩
        case round =>
         obtain ⟨k, P, hk, rfl, rfl, hP9, hP, rfl⟩ := hrel
         by_cases hkd : k < d
         · have hP8 : P ≤ 100000000 := by rw [hP.out]; exact HP.out k (by omega)
           have hP' : As (P * 10 = 10 ^ (k + 1)) := ⟨by rw [hP.out, Nat.pow_succ]⟩
           have hP9' : P * 10 ≤ 1000000000 := by omega
           go_wp2
           go_roundw
           case rel => exact ⟨k + 1, P * 10, by omega, by go_num, by go_num, hP9', ⟨hP'.out⟩, trivial⟩
           case measure => simp [intOf]; omega
         · obtain rfl : k = d := by omega
           have HG := As.mk (grow_any l A l.length c w.heap.size P u w3 ho rfl hl.out (by omega) hu10 (by omega) hb.size)
           rw [hV.out, hP.out, HVn.out, ← hP.out] at HG
           go_wp2_with (go_at_call 68; (with_reducible refine HG.out.mono ?_); rintro e1 w4 ⟨v4, l4, rfl, ho4, hl4, hv4, hn4, hb4⟩; have Hl4 := As.mk hl4; have Hv4 := As.mk hv4; clear hl4 hv4)
           obtain ⟨A4, c4, rfl, h41, h42⟩ := ho4.form
           refine ⟨?_, by simp [intOf]; omega⟩
           exact ⟨_, c4, A4, l4, hes, by go_num, rfl, by omega, Hl4, Hv4, ho4, hb.trans (hb4.mono (Nat.le_refl _))⟩
     · obtain rfl : at_ = s.size := by omega
       have htt : t.take s.size = t := List.take_of_length_le (by rw [HSL.out]; exact Nat.le_refl _)
       have T1 := As.mk (trim_any l A c wr (ho.rd lenU) (by obtain ⟨A', c', e, h1, h2⟩ := ho.form; simp only [Value.slice.injEq] at e; obtain ⟨rfl, _, rfl⟩ := e; exact h1) (by omega))
       have HO := As.mk (Ow.takeU ho (trimL l).length (trimL_le l))
       rw [← trimL_take, trimL_dig 4294967296 (by omega) l hl.out, hV.out, htt] at HO
       rw [trimL_dig 4294967296 (by omega) l hl.out, hV.out, htt] at T1
       have Hne := As.mk (ne_empty s)
       clear htt hV hl
       go_wp2_with (go_at_call 69; (with_reducible refine T1.out.mono ?_); rintro e w3 ⟨rfl, rfl⟩)
       go_ret2
       exact ⟨_, rfl, ⟨_, by rw [← Hne.out]; rfl, HO.out⟩, hb⟩
set_option maxRecDepth 8000 in
set_option maxHeartbeats 4000000 in
theorem rParse_yes (s : ByteArray) (w : World) (hs : s.size ≤ 1073741824) (hd : ∀ c ∈ s.data.toList, isD c = true) :
 Calls Tryz.prog 61 #[.string s] w (Gives w fun v w' => ∃ q, v = .tuple #[q, .bool (decide (0 < s.size))] ∧ Ow encU 1 77 w.heap.size w' q (digB 4294967296 (numV 0 s.data.toList))) := by
 obtain ⟨t, ht⟩ : ∃ t, t = s.data.toList := ⟨_, rfl⟩
 have hsl : s.data.toList.length = s.size := by rw [Array.length_toList]; rfl
 rw [← ht] at hsl hd ⊢
 have HD := As.mk hd
 have HSL := As.mk hsl
 have Ht := As.mk ht
 have HLen : As (∀ k, k ≤ s.size → (digB 65536 (numV 0 (t.take k))).length ≤ k) := ⟨fun k hk => by
  refine digB_len_lt 65536 (by omega) k _ ?_
  have h1 := numV_lt0 (t.take k) (fun c hc => hd c (List.mem_of_mem_take hc))
  rw [List.length_take, hsl, Nat.min_eq_left hk] at h1
  exact Nat.lt_of_lt_of_le h1 (Nat.pow_le_pow_left (by omega) k)⟩
 clear hd hsl ht
 go_enter Tryz.func61, Tryz.ntmps61
 go_wp2
 go_loopw [4, 5] (fun v u wr => ∃ (k c n : Nat) (A : Option Addr), k ≤ s.size ∧ v = .slice A n c ∧ u = .int .i64 (k : Int) ∧ Below w.heap.size w wr ∧ Ow encI 1 3 w.heap.size wr (.slice A n c) (digB 65536 (numV 0 (t.take k)))) (fun _ u _ => s.size - (intOf u).toNat)
 case atStart => exact ⟨0, 0, 0, none, by omega, rfl, rfl, Below.refl _ _, by rw [List.take_zero, numV_nil, digB_zero]; exact Ow.nil _ _ _ _ _⟩
 case round =>
  obtain ⟨k, c, n, A, hk, rfl, rfl, hb0, ho⟩ := hrel
  have hnl := ho.len_eq
  have hnk := HLen.out k hk
  obtain ⟨V, hV⟩ : ∃ V, V = numV 0 (t.take k) := ⟨_, rfl⟩
  obtain ⟨D, hD⟩ : ∃ D, D = digB 65536 V := ⟨_, rfl⟩
  rw [← hV, ← hD] at ho hnl hnk
  have HDl : As (∀ x ∈ D, x < 65536) := ⟨by rw [hD]; exact digB_lt _ (by omega) V⟩
  have HDv : As (valB 65536 D = V) := ⟨by rw [hD]; exact digB_val _ (by omega) V⟩
  have hnc : n ≤ c := by obtain ⟨A', c', e, h1, _⟩ := ho.form; simp only [Value.slice.injEq] at e; omega
  have Hnl := As.mk hnl
  have hn30 : n ≤ 1073741824 := by omega
  by_cases h : k < s.size
  · have hbyte := isD_of (HD.out (s[k]'h) (by have := byte_mem s k h; rwa [← Ht.out] at this))
    obtain ⟨x, hx⟩ : ∃ x, x = (s[k]'h).toNat := ⟨_, rfl⟩
    rw [← hx] at hbyte
    have hx1 : ¬ (x : Int) < 48 := by omega
    have hx2 : ¬ (57 : Int) < (x : Int) := by omega
    obtain ⟨d, hdd⟩ : ∃ d, d = x - 48 := ⟨_, rfl⟩
    have hd9 : d < 10 := by omega
    have ed : (x : Int) - 48 = (d : Int) := by omega
    have ed64 : IntKind.i64.wrap (d : Int) = (d : Int) := IntWalk.i64_in _ (by omega)
    have ed8 : IntKind.u8.wrap (d : Int) = (d : Int) := IntWalk.u8_in _ (by omega)
    have hcx : ((s[k]'h).toNat : Int) = (x : Int) := by rw [hx]
    obtain ⟨E, hE⟩ : ∃ E, E = digB 65536 (V * 10) := ⟨_, rfl⟩
    have hEl : E.length ≤ n + 1 := by
     rw [hE]
     refine digB_len_lt 65536 (by omega) _ _ ?_
     have h1 := lt_pow_len 65536 (by omega) V
     rw [← hD, ← hnl] at h1
     rw [Nat.pow_succ]
     exact Nat.mul_lt_mul_of_lt_of_le h1 (by omega) (by omega)
    have HMul : As (∀ (W : World) (gg : Nat) (BB : Blk W gg ([10].map valI) 3) (hb : Below wr.heap.size wr W), Calls Tryz.prog 73 #[.slice A n c, .slice (some ⟨gg, 0, none⟩) 1 1] W (Gives W fun v w' => Ow encI 1 3 W.heap.size w' v E)) := ⟨fun W gg BB hb => by
     have := rmul_any D [10] n 1 Hnl.out.symm rfl A (some ⟨gg, 0, none⟩) c 1 W ((ho.below hb).rd lenI) (BB.rdm encI_one) ⟨HDl.out, fun y hy => by simp only [List.mem_singleton] at hy; omega⟩ hnc (Nat.le_refl _) (by omega) (by omega)
     rwa [HDv.out, show valB 65536 [10] = 10 by decide, ← hE] at this⟩
    have HAdd : As (∀ (W : World) (Am : Option Addr) (cm gg base : Nat) (om : Ow encI 1 3 base W (.slice Am E.length cm) E) (hcm : E.length ≤ cm) (BB : Blk W gg ([d].map valI) 3), Calls Tryz.prog 72 #[.slice Am E.length cm, .slice (some ⟨gg, 0, none⟩) 1 1] W (Gives W fun v w' => Ow encI 1 3 W.heap.size w' v (digB 65536 (V * 10 + d)))) := ⟨fun W Am cm gg base om hcm BB => by
     have := radd_any E [d] E.length 1 rfl rfl Am (some ⟨gg, 0, none⟩) cm 1 W (om.rd lenI) (BB.rdm encI_one) (by rw [hE]; exact digB_lt _ (by omega) _) (fun y hy => by simp only [List.mem_singleton] at hy; omega) hcm (Nat.le_refl _) (by omega) (by omega)
     rwa [hE, digB_val 65536 (by omega), show valB 65536 [d] = d by simp [valB], ← hE] at this⟩
    have hVn : V * 10 + d = numV 0 (t.take (k + 1)) := by
     have hkt : k < t.length := by rw [HSL.out]; exact h
     rw [List.take_succ_eq_append_getElem hkt, numV_snoc, ← hV, hdd, hx]
     congr 3
     simp only [Ht.out, ByteArray.getElem_eq_getElem_data, Array.getElem_toList]
    have HNew : As (∀ (W : World) (Aa : Option Addr) (na ca : Nat), Ow encI 1 3 w.heap.size W (.slice Aa na ca) (digB 65536 (V * 10 + d)) → Ow encI 1 3 w.heap.size W (.slice Aa na ca) (digB 65536 (numV 0 (t.take (k + 1))))) := ⟨fun W Aa na ca f => by rw [← hVn]; exact f⟩
    replace HNew : As (∀ (W : World) (Aa : Option Addr) (ca : Nat) {na : Nat}, Ow encI 1 3 w.heap.size W (.slice Aa na ca) (digB 65536 (V * 10 + d)) → Ow encI 1 3 w.heap.size W (.slice Aa na ca) (digB 65536 (numV 0 (t.take (k + 1))))) := ⟨fun W Aa ca na f => HNew.out W Aa na ca f⟩
    clear hx hdd hE hVn hV hD hnl hnk
    go_wp2
    have hcur := (Below.refl wr.heap.size wr).drew
    refine wp_gen2 (fun Q7 hQ7 => ?_)
    refine wp_region_held_drew (S := fun W => Below wr.heap.size wr W) (by kernel_rfl) hcur (fun hHeld => ?_)
    clear hHeld
    refine wpAnyH_take (i := 0) (oi := _) (v := .slice A n c) rfl (by kernel_rfl) (by kernel_rfl) (by kernel_rfl) (fun _ _ _ h => h) (Or.inl ⟨by kernel_rfl, fun W hSw => by ((try dsimp only at hSw); go_simp; try (with_reducible rfl))⟩) hcur ?_
    (try simp only [Act.put, List.setIfInBounds_toArray, List.set_cons_zero, List.set_cons_succ])
    refine wpAnyH_take (i := 3) (oi := _) (v := .string s) rfl (by kernel_rfl) (by kernel_rfl) (by kernel_rfl) (fun _ _ _ h => h) (Or.inl ⟨by kernel_rfl, fun W hSw => by ((try dsimp only at hSw); go_simp; try (with_reducible rfl))⟩) hcur ?_
    (try simp only [Act.put, List.setIfInBounds_toArray, List.set_cons_zero, List.set_cons_succ])
    refine wpAnyH_take (i := 4) (oi := _) (v := .int .i64 (k : Int)) rfl (by kernel_rfl) (by kernel_rfl) (by kernel_rfl) (fun _ _ _ h => h) (Or.inl ⟨by kernel_rfl, fun W hSw => by ((try dsimp only at hSw); go_simp; try (with_reducible rfl))⟩) hcur ?_
    (try simp only [Act.put, List.setIfInBounds_toArray, List.set_cons_zero, List.set_cons_succ])
    refine wpAnyH_take (i := 5) (oi := _) (v := .int .u8 (x : Int)) rfl (by kernel_rfl) (by kernel_rfl) (by kernel_rfl) (fun _ _ _ h => h) (Or.inl ⟨by kernel_rfl, fun W hSw => by ((try dsimp only at hSw); go_simp; try (with_reducible rfl))⟩) hcur ?_
    (try simp only [Act.put, List.setIfInBounds_toArray, List.set_cons_zero, List.set_cons_succ])
    refine wpAnyH_take (i := 6) (oi := _) (v := .int .u8 (d : Int)) rfl (by kernel_rfl) (by kernel_rfl) (by kernel_rfl) (fun _ _ _ h => h) (Or.inl ⟨by kernel_rfl, fun W hSw => by ((try dsimp only at hSw); go_simp; try (with_reducible rfl))⟩) hcur ?_
    (try simp only [Act.put, List.setIfInBounds_toArray, List.set_cons_zero, List.set_cons_succ])
    refine wpAnyH_take (i := 7) (oi := _) (v := .int .i64 (d : Int)) rfl (by kernel_rfl) (by kernel_rfl) (by kernel_rfl) (fun _ _ _ h => h) (Or.inl ⟨by kernel_rfl, fun W hSw => by ((try dsimp only at hSw); go_simp; try (with_reducible rfl))⟩) hcur ?_
    (try simp only [Act.put, List.setIfInBounds_toArray, List.set_cons_zero, List.set_cons_succ])
    refine wpAnyH_ready (rs := [1, 8]) (by kernel_rfl) (by simp) ?_
    refine AllReadyH.cons (o := _) rfl (fun K hK => ?_) ?_
    · refine st_lit (v := fun g => .slice (some ⟨g, 0, none⟩) 1 1) 23 rfl (cs := [10].map valI) (t := 3) (by go_simp; try rfl) ?_; intro g23 wn hb B23 hg23; replace hcur := bthen hcur hb
      refine hK.out _ _ hcur (fun hHeld => ?_)
      clear hK K hHeld
      (try simp only [Act.put, List.setIfInBounds_toArray, List.set_cons_zero, List.set_cons_succ])
      refine wpAnyH_ready (rs := [2, 8]) (by kernel_rfl) (by simp) ?_
      refine AllReadyH.cons (o := _) rfl (fun K hK => ?_) ?_
      · go_simp; (with_reducible refine (HMul.out _ _ B23 hcur).mono ?_); rintro e wn ⟨vm, rfl, om, hb⟩; obtain ⟨Am, cm, rfl, hm1, hm2⟩ := om.form; replace hcur := bthen hcur hb; go_wp2_with fail
        refine hK.out _ _ hcur (fun hHeld => ?_)
        clear hK K hHeld
        (try simp only [Act.put, List.setIfInBounds_toArray, List.set_cons_zero, List.set_cons_succ])
        refine wpAnyH_ready (rs := [8]) (by kernel_rfl) (by simp) ?_
        refine AllReadyH.cons (o := _) rfl (fun K hK => ?_) ?_
        · refine st_lit (v := fun g => .slice (some ⟨g, 0, none⟩) 1 1) 30 rfl (cs := [d].map valI) (t := 3) (by go_simp; try rfl) ?_; intro g30 wn hb B30 hg30; replace om := om.below hb; replace hcur := bthen hcur hb
          refine hK.out _ _ hcur (fun hHeld => ?_)
          clear hK K hHeld
          (try simp only [Act.put, List.setIfInBounds_toArray, List.set_cons_zero, List.set_cons_succ])
          refine wpAnyH_ready (rs := [9]) (by kernel_rfl) (by simp) ?_
          refine AllReadyH.cons (o := _) rfl (fun K hK => ?_) ?_
          · go_simp; (with_reducible refine (HAdd.out _ Am cm _ _ om hm1 B30).mono ?_); rintro e wn ⟨va, rfl, oa, hb⟩; obtain ⟨Aa, ca, rfl, ha1, ha2⟩ := oa.form; replace oa := oa.lower hcur.size; replace hcur := bthen hcur hb; go_wp2_with fail
            refine hK.out _ _ hcur (fun hHeld => ?_)
            clear hK K hHeld
            (try simp only [Act.put, List.setIfInBounds_toArray, List.set_cons_zero, List.set_cons_succ])
            refine wpAnyH_ready (rs := [10]) (by kernel_rfl) (by simp) ?_
            refine AllReadyH.cons (o := _) rfl (fun K hK => ?_) ?_
            · go_simp
              refine hK.out _ _ hcur (fun hHeld => ?_)
              clear hK K hHeld
              (try simp only [Act.put, List.setIfInBounds_toArray, List.set_cons_zero, List.set_cons_succ])
              refine wpAnyH_done (by kernel_rfl) ?_ _
              refine NoPanic.normal ?_
              obtain ⟨rfl⟩ := hQ7
              (go_wp2_with fail)
              refine ⟨⟨k + 1, ca, _, Aa, by omega, rfl, by go_num, bthen hb0 hcur, HNew.out _ _ _ (oa.lower hb0.size)⟩, by simp [intOf]; omega⟩
            exact AllReadyH.nil
          exact AllReadyH.nil
        exact AllReadyH.nil
      refine AllReadyH.cons (o := _) rfl (fun K hK => ?_) ?_
      · refine st_lit (v := fun g => .slice (some ⟨g, 0, none⟩) 1 1) 30 rfl (cs := [d].map valI) (t := 3) (by go_simp; try rfl) ?_; intro g30 wn hb B30 hg30; replace B23 := B23.below hb; replace hcur := bthen hcur hb
        refine hK.out _ _ hcur (fun hHeld => ?_)
        clear hK K hHeld
        (try simp only [Act.put, List.setIfInBounds_toArray, List.set_cons_zero, List.set_cons_succ])
        refine wpAnyH_ready (rs := [2]) (by kernel_rfl) (by simp) ?_
        refine AllReadyH.cons (o := _) rfl (fun K hK => ?_) ?_
        · go_simp; (with_reducible refine (HMul.out _ _ B23 hcur).mono ?_); rintro e wn ⟨vm, rfl, om, hb⟩; obtain ⟨Am, cm, rfl, hm1, hm2⟩ := om.form; replace B30 := B30.below hb; replace hcur := bthen hcur hb; go_wp2_with fail
          refine hK.out _ _ hcur (fun hHeld => ?_)
          clear hK K hHeld
          (try simp only [Act.put, List.setIfInBounds_toArray, List.set_cons_zero, List.set_cons_succ])
          refine wpAnyH_ready (rs := [9]) (by kernel_rfl) (by simp) ?_
          refine AllReadyH.cons (o := _) rfl (fun K hK => ?_) ?_
          · go_simp; (with_reducible refine (HAdd.out _ Am cm _ _ om hm1 B30).mono ?_); rintro e wn ⟨va, rfl, oa, hb⟩; obtain ⟨Aa, ca, rfl, ha1, ha2⟩ := oa.form; replace oa := oa.lower hcur.size; replace hcur := bthen hcur hb; go_wp2_with fail
            refine hK.out _ _ hcur (fun hHeld => ?_)
            clear hK K hHeld
            (try simp only [Act.put, List.setIfInBounds_toArray, List.set_cons_zero, List.set_cons_succ])
            refine wpAnyH_ready (rs := [10]) (by kernel_rfl) (by simp) ?_
            refine AllReadyH.cons (o := _) rfl (fun K hK => ?_) ?_
            · go_simp
              refine hK.out _ _ hcur (fun hHeld => ?_)
              clear hK K hHeld
              (try simp only [Act.put, List.setIfInBounds_toArray, List.set_cons_zero, List.set_cons_succ])
              refine wpAnyH_done (by kernel_rfl) ?_ _
              refine NoPanic.normal ?_
              obtain ⟨rfl⟩ := hQ7
              (go_wp2_with fail)
              refine ⟨⟨k + 1, ca, _, Aa, by omega, rfl, by go_num, bthen hb0 hcur, HNew.out _ _ _ (oa.lower hb0.size)⟩, by simp [intOf]; omega⟩
            exact AllReadyH.nil
          exact AllReadyH.nil
        exact AllReadyH.nil
      exact AllReadyH.nil
    refine AllReadyH.cons (o := _) rfl (fun K hK => ?_) ?_
    · refine st_lit (v := fun g => .slice (some ⟨g, 0, none⟩) 1 1) 30 rfl (cs := [d].map valI) (t := 3) (by go_simp; try rfl) ?_; intro g30 wn hb B30 hg30; replace hcur := bthen hcur hb
      refine hK.out _ _ hcur (fun hHeld => ?_)
      clear hK K hHeld
      (try simp only [Act.put, List.setIfInBounds_toArray, List.set_cons_zero, List.set_cons_succ])
      refine wpAnyH_ready (rs := [1]) (by kernel_rfl) (by simp) ?_
      refine AllReadyH.cons (o := _) rfl (fun K hK => ?_) ?_
      · refine st_lit (v := fun g => .slice (some ⟨g, 0, none⟩) 1 1) 23 rfl (cs := [10].map valI) (t := 3) (by go_simp; try rfl) ?_; intro g23 wn hb B23 hg23; replace B30 := B30.below hb; replace hcur := bthen hcur hb
        refine hK.out _ _ hcur (fun hHeld => ?_)
        clear hK K hHeld
        (try simp only [Act.put, List.setIfInBounds_toArray, List.set_cons_zero, List.set_cons_succ])
        refine wpAnyH_ready (rs := [2]) (by kernel_rfl) (by simp) ?_
        refine AllReadyH.cons (o := _) rfl (fun K hK => ?_) ?_
        · go_simp; (with_reducible refine (HMul.out _ _ B23 hcur).mono ?_); rintro e wn ⟨vm, rfl, om, hb⟩; obtain ⟨Am, cm, rfl, hm1, hm2⟩ := om.form; replace B30 := B30.below hb; replace hcur := bthen hcur hb; go_wp2_with fail
          refine hK.out _ _ hcur (fun hHeld => ?_)
          clear hK K hHeld
          (try simp only [Act.put, List.setIfInBounds_toArray, List.set_cons_zero, List.set_cons_succ])
          refine wpAnyH_ready (rs := [9]) (by kernel_rfl) (by simp) ?_
          refine AllReadyH.cons (o := _) rfl (fun K hK => ?_) ?_
          · go_simp; (with_reducible refine (HAdd.out _ Am cm _ _ om hm1 B30).mono ?_); rintro e wn ⟨va, rfl, oa, hb⟩; obtain ⟨Aa, ca, rfl, ha1, ha2⟩ := oa.form; replace oa := oa.lower hcur.size; replace hcur := bthen hcur hb; go_wp2_with fail
            refine hK.out _ _ hcur (fun hHeld => ?_)
            clear hK K hHeld
            (try simp only [Act.put, List.setIfInBounds_toArray, List.set_cons_zero, List.set_cons_succ])
            refine wpAnyH_ready (rs := [10]) (by kernel_rfl) (by simp) ?_
            refine AllReadyH.cons (o := _) rfl (fun K hK => ?_) ?_
            · go_simp
              refine hK.out _ _ hcur (fun hHeld => ?_)
              clear hK K hHeld
              (try simp only [Act.put, List.setIfInBounds_toArray, List.set_cons_zero, List.set_cons_succ])
              refine wpAnyH_done (by kernel_rfl) ?_ _
              refine NoPanic.normal ?_
              obtain ⟨rfl⟩ := hQ7
              (go_wp2_with fail)
              refine ⟨⟨k + 1, ca, _, Aa, by omega, rfl, by go_num, bthen hb0 hcur, HNew.out _ _ _ (oa.lower hb0.size)⟩, by simp [intOf]; omega⟩
            exact AllReadyH.nil
          exact AllReadyH.nil
        exact AllReadyH.nil
      exact AllReadyH.nil
    exact AllReadyH.nil
  · obtain rfl : k = s.size := by omega
    have htt : t.take s.size = t := List.take_of_length_le (by rw [HSL.out]; exact Nat.le_refl _)
    rw [htt] at hV
    have HF := As.mk (full_any D n Hnl.out.symm A c wr (ho.rd lenI) HDl.out hnc ho.none (by omega))
    rw [HDv.out, hV] at HF
    have hne : decide ((0 : Int) < (s.size : Int)) = decide (0 < s.size) := by simp
    have Hne := As.mk hne
    clear hV hD htt hnl hne
    go_wp2_with (go_at_call 74; (with_reducible refine HF.out.mono ?_); rintro e w2 ⟨v2, rfl, ho2, hb2⟩)
    go_ret2
    exact ⟨_, rfl, ⟨_, by first | rfl | simp, ho2.lower hb0.size⟩, bthen hb0 hb2⟩
theorem first_bad (l : List UInt8) (h : ¬ ∀ c ∈ l, isD c = true) : ∃ p, ∃ hp : p < l.length, isD (l[p]'hp) = false ∧ ∀ i (hi : i < p), isD (l[i]'(by omega)) = true := by
 induction l with
 | nil => exact absurd (fun c hc => nomatch hc) h
 | cons a l ih =>
   by_cases ha : isD a = true
   · have h2 : ¬ ∀ c ∈ l, isD c = true := fun hh => h (fun c hc => by
      rcases List.mem_cons.1 hc with rfl | hc
      · exact ha
      · exact hh c hc)
     obtain ⟨p, hp, h3, h4⟩ := ih h2
     refine ⟨p + 1, by simp only [List.length_cons]; omega, by simpa using h3, fun i hi => ?_⟩
     cases i with
     | zero => simpa using ha
     | succ i => simpa using h4 i (by omega)
   · exact ⟨0, by simp, by simpa using ha, fun i hi => absurd hi (Nat.not_lt_zero _)⟩
theorem first_badS (s : ByteArray) (h : ¬ ∀ c ∈ s.data.toList, isD c = true) : ∃ p, ∃ hp : p < s.size, isD (s[p]'hp) = false ∧ ∀ i (hi : i < p), isD (s[i]'(by omega)) = true := by
 obtain ⟨p, hp, h1, h2⟩ := first_bad _ h
 have hsl : s.data.toList.length = s.size := by rw [Array.length_toList]; rfl
 refine ⟨p, by omega, by simpa [ByteArray.getElem_eq_getElem_data] using h1, fun i hi => ?_⟩
 simpa [ByteArray.getElem_eq_getElem_data] using h2 i hi
set_option maxRecDepth 8000 in
set_option maxHeartbeats 4000000 in
theorem parse_no (s : ByteArray) (w : World) (hs : s.size ≤ 1073741824) (hd : ¬ ∀ c ∈ s.data.toList, isD c = true) :
 Calls Tryz.prog 59 #[.string s] w (Gives w fun v _ => v = .tuple #[.slice none 0 0, .bool false]) := by
 obtain ⟨p, hp, hbad, hgood⟩ := first_badS s hd
 have HG := As.mk hgood
 have HBr := As.mk (rune_no_digit s p hp hbad)
 clear hd hbad hgood
 go_enter Tryz.func59, Tryz.ntmps59
 go_wp2
 go_loopw [5] (fun _ wr => ∃ pos : Nat, pos ≤ p ∧ As (wr.heap[w.heap.size]? = some (.stringIter s pos)) ∧ Below w.heap.size w wr) (fun _ wr => s.size - wr.iterPos w.heap.size)
 case atStart => exact ⟨0, by omega, ⟨World.iter_heap w s 0⟩, (Below.refl _ _).alloc (Nat.le_refl _) _⟩
 case round =>
  obtain ⟨pos, hpos, hit, hb⟩ := hrel
  have hpos0 := As.mk (iterPos_of hit.out)
  by_cases hpp : pos < p
  · have hps : pos < s.size := by omega
    have hx := isD_of (HG.out pos hpp)
    have hnx := fun ty => Lib.run_next_ascii_at (P := Tryz.prog) wr w.heap.size s pos ty hit.out hps (by omega)
    obtain ⟨x, hxe⟩ : ∃ x, x = (s[pos]'hps).toNat := ⟨_, rfl⟩
    rw [← hxe] at hx hnx
    have hit2 := As.mk (Lib.iterAt_heap wr w.heap.size s pos (pos + 1) hit.out)
    have hb2 := iter_below (s := s) (pos := pos + 1) hb (Nat.le_refl _)
    obtain ⟨W1, hW1⟩ : ∃ W1, W1 = wr.iterAt w.heap.size s (pos + 1) := ⟨_, rfl⟩
    rw [← hW1] at hnx hit2 hb2
    have hx1 : ¬ (x : Int) < 48 := by omega
    have hx2 : ¬ (57 : Int) < (x : Int) := by omega
    clear hW1 hxe hit
    go_wp2
    go_roundw
    case rel => exact ⟨pos + 1, by omega, hit2, hb2⟩
    case measure => rw [iterPos_of hit2.out, hpos0.out]; omega
  · obtain rfl : pos = p := by omega
    have hnx := fun ty => Lib.run_next_any_at (P := Tryz.prog) wr w.heap.size s pos ty hit.out hp
    have hr := HBr.out
    obtain ⟨x, hxe⟩ : ∃ x, x = (Utf8.decode s pos).1 := ⟨_, rfl⟩
    have hb2 := iter_below (s := s) (pos := pos + (Utf8.decode s pos).2) hb (Nat.le_refl _)
    obtain ⟨W1, hW1⟩ : ∃ W1, W1 = wr.iterAt w.heap.size s (pos + (Utf8.decode s pos).2) := ⟨_, rfl⟩
    rw [← hW1] at hnx hb2
    rw [← hxe] at hnx hr
    clear hW1 hxe hit HBr HG
    by_cases hx48 : (x : Int) < 48
    · clear hr
      go_wp2
      go_ret2
      exact ⟨_, rfl, rfl, hb2⟩
    · have hx57 : (57 : Int) < (x : Int) := by omega
      clear hr
      go_wp2
      go_ret2
      exact ⟨_, rfl, rfl, hb2⟩
set_option maxRecDepth 8000 in
set_option maxHeartbeats 4000000 in
theorem rParse_no (s : ByteArray) (w : World) (hs : s.size ≤ 1073741824) (hd : ¬ ∀ c ∈ s.data.toList, isD c = true) :
 Calls Tryz.prog 61 #[.string s] w (Gives w fun v _ => v = .tuple #[.slice none 0 0, .bool false]) := by
 obtain ⟨p, hp, hbad, hgood⟩ := first_badS s hd
 clear hd
 have HG := As.mk hgood
 have HB := As.mk hbad
 obtain ⟨t, ht⟩ : ∃ t, t = s.data.toList := ⟨_, rfl⟩
 have hsl : s.data.toList.length = s.size := by rw [Array.length_toList]; rfl
 rw [← ht] at hsl
 have HSL := As.mk hsl
 have Ht := As.mk ht
 have HT : As (∀ k, k ≤ p → ∀ c ∈ t.take k, isD c = true) := ⟨fun k hk c hc => by
  obtain ⟨i, hi, rfl⟩ := List.getElem_of_mem hc
  have hi2 : i < k := by rw [List.length_take] at hi; omega
  have := hgood i (by omega)
  simpa [ByteArray.getElem_eq_getElem_data, ht] using this⟩
 clear hbad hgood
 have HLen : As (∀ k, k ≤ p → (digB 65536 (numV 0 (t.take k))).length ≤ k) := ⟨fun k hk => by
  refine digB_len_lt 65536 (by omega) k _ ?_
  have h1 := numV_lt0 (t.take k) (HT.out k hk)
  rw [List.length_take, hsl, Nat.min_eq_left (by omega)] at h1
  exact Nat.lt_of_lt_of_le h1 (Nat.pow_le_pow_left (by omega) k)⟩
 clear hsl ht
 go_enter Tryz.func61, Tryz.ntmps61
 go_wp2
 go_loopw [4, 5] (fun v u wr => ∃ (k c n : Nat) (A : Option Addr), k ≤ p ∧ v = .slice A n c ∧ u = .int .i64 (k : Int) ∧ Below w.heap.size w wr ∧ Ow encI 1 3 w.heap.size wr (.slice A n c) (digB 65536 (numV 0 (t.take k)))) (fun _ u _ => s.size - (intOf u).toNat)
 case atStart => exact ⟨0, 0, 0, none, by omega, rfl, rfl, Below.refl _ _, by rw [List.take_zero, numV_nil, digB_zero]; exact Ow.nil _ _ _ _ _⟩
 case round =>
  obtain ⟨k, c, n, A, hk, rfl, rfl, hb0, ho⟩ := hrel
  have hnl := ho.len_eq
  have hnk := HLen.out k hk
  obtain ⟨V, hV⟩ : ∃ V, V = numV 0 (t.take k) := ⟨_, rfl⟩
  obtain ⟨D, hD⟩ : ∃ D, D = digB 65536 V := ⟨_, rfl⟩
  rw [← hV, ← hD] at ho hnl hnk
  have HDl : As (∀ x ∈ D, x < 65536) := ⟨by rw [hD]; exact digB_lt _ (by omega) V⟩
  have HDv : As (valB 65536 D = V) := ⟨by rw [hD]; exact digB_val _ (by omega) V⟩
  have hnc : n ≤ c := by obtain ⟨A', c', e, h1, _⟩ := ho.form; simp only [Value.slice.injEq] at e; omega
  have Hnl := As.mk hnl
  have hn30 : n ≤ 1073741824 := by omega
  by_cases hkp : k < p
  · have h : k < s.size := by omega
    have hbyte := isD_of (HG.out k hkp)
    obtain ⟨x, hx⟩ : ∃ x, x = (s[k]'h).toNat := ⟨_, rfl⟩
    rw [← hx] at hbyte
    have hx1 : ¬ (x : Int) < 48 := by omega
    have hx2 : ¬ (57 : Int) < (x : Int) := by omega
    obtain ⟨d, hdd⟩ : ∃ d, d = x - 48 := ⟨_, rfl⟩
    have hd9 : d < 10 := by omega
    have ed : (x : Int) - 48 = (d : Int) := by omega
    have ed64 : IntKind.i64.wrap (d : Int) = (d : Int) := IntWalk.i64_in _ (by omega)
    have ed8 : IntKind.u8.wrap (d : Int) = (d : Int) := IntWalk.u8_in _ (by omega)
    have hcx : ((s[k]'h).toNat : Int) = (x : Int) := by rw [hx]
    obtain ⟨E, hE⟩ : ∃ E, E = digB 65536 (V * 10) := ⟨_, rfl⟩
    have hEl : E.length ≤ n + 1 := by
     rw [hE]
     refine digB_len_lt 65536 (by omega) _ _ ?_
     have h1 := lt_pow_len 65536 (by omega) V
     rw [← hD, ← hnl] at h1
     rw [Nat.pow_succ]
     exact Nat.mul_lt_mul_of_lt_of_le h1 (by omega) (by omega)
    have HMul : As (∀ (W : World) (gg : Nat) (BB : Blk W gg ([10].map valI) 3) (hb : Below wr.heap.size wr W), Calls Tryz.prog 73 #[.slice A n c, .slice (some ⟨gg, 0, none⟩) 1 1] W (Gives W fun v w' => Ow encI 1 3 W.heap.size w' v E)) := ⟨fun W gg BB hb => by
     have := rmul_any D [10] n 1 Hnl.out.symm rfl A (some ⟨gg, 0, none⟩) c 1 W ((ho.below hb).rd lenI) (BB.rdm encI_one) ⟨HDl.out, fun y hy => by simp only [List.mem_singleton] at hy; omega⟩ hnc (Nat.le_refl _) (by omega) (by omega)
     rwa [HDv.out, show valB 65536 [10] = 10 by decide, ← hE] at this⟩
    have HAdd : As (∀ (W : World) (Am : Option Addr) (cm gg base : Nat) (om : Ow encI 1 3 base W (.slice Am E.length cm) E) (hcm : E.length ≤ cm) (BB : Blk W gg ([d].map valI) 3), Calls Tryz.prog 72 #[.slice Am E.length cm, .slice (some ⟨gg, 0, none⟩) 1 1] W (Gives W fun v w' => Ow encI 1 3 W.heap.size w' v (digB 65536 (V * 10 + d)))) := ⟨fun W Am cm gg base om hcm BB => by
     have := radd_any E [d] E.length 1 rfl rfl Am (some ⟨gg, 0, none⟩) cm 1 W (om.rd lenI) (BB.rdm encI_one) (by rw [hE]; exact digB_lt _ (by omega) _) (fun y hy => by simp only [List.mem_singleton] at hy; omega) hcm (Nat.le_refl _) (by omega) (by omega)
     rwa [hE, digB_val 65536 (by omega), show valB 65536 [d] = d by simp [valB], ← hE] at this⟩
    have hVn : V * 10 + d = numV 0 (t.take (k + 1)) := by
     have hkt : k < t.length := by rw [HSL.out]; exact h
     rw [List.take_succ_eq_append_getElem hkt, numV_snoc, ← hV, hdd, hx]
     congr 3
     simp only [Ht.out, ByteArray.getElem_eq_getElem_data, Array.getElem_toList]
    have HNew : As (∀ (W : World) (Aa : Option Addr) (na ca : Nat), Ow encI 1 3 w.heap.size W (.slice Aa na ca) (digB 65536 (V * 10 + d)) → Ow encI 1 3 w.heap.size W (.slice Aa na ca) (digB 65536 (numV 0 (t.take (k + 1))))) := ⟨fun W Aa na ca f => by rw [← hVn]; exact f⟩
    replace HNew : As (∀ (W : World) (Aa : Option Addr) (ca : Nat) {na : Nat}, Ow encI 1 3 w.heap.size W (.slice Aa na ca) (digB 65536 (V * 10 + d)) → Ow encI 1 3 w.heap.size W (.slice Aa na ca) (digB 65536 (numV 0 (t.take (k + 1))))) := ⟨fun W Aa ca na f => HNew.out W Aa na ca f⟩
    clear hx hdd hE hVn hV hD hnl hnk
    go_wp2
    have hcur := (Below.refl wr.heap.size wr).drew
    refine wp_gen2 (fun Q7 hQ7 => ?_)
    refine wp_region_held_drew (S := fun W => Below wr.heap.size wr W) (by kernel_rfl) hcur (fun hHeld => ?_)
    clear hHeld
    refine wpAnyH_take (i := 0) (oi := _) (v := .slice A n c) rfl (by kernel_rfl) (by kernel_rfl) (by kernel_rfl) (fun _ _ _ h => h) (Or.inl ⟨by kernel_rfl, fun W hSw => by ((try dsimp only at hSw); go_simp; try (with_reducible rfl))⟩) hcur ?_
    (try simp only [Act.put, List.setIfInBounds_toArray, List.set_cons_zero, List.set_cons_succ])
    refine wpAnyH_take (i := 3) (oi := _) (v := .string s) rfl (by kernel_rfl) (by kernel_rfl) (by kernel_rfl) (fun _ _ _ h => h) (Or.inl ⟨by kernel_rfl, fun W hSw => by ((try dsimp only at hSw); go_simp; try (with_reducible rfl))⟩) hcur ?_
    (try simp only [Act.put, List.setIfInBounds_toArray, List.set_cons_zero, List.set_cons_succ])
    refine wpAnyH_take (i := 4) (oi := _) (v := .int .i64 (k : Int)) rfl (by kernel_rfl) (by kernel_rfl) (by kernel_rfl) (fun _ _ _ h => h) (Or.inl ⟨by kernel_rfl, fun W hSw => by ((try dsimp only at hSw); go_simp; try (with_reducible rfl))⟩) hcur ?_
    (try simp only [Act.put, List.setIfInBounds_toArray, List.set_cons_zero, List.set_cons_succ])
    refine wpAnyH_take (i := 5) (oi := _) (v := .int .u8 (x : Int)) rfl (by kernel_rfl) (by kernel_rfl) (by kernel_rfl) (fun _ _ _ h => h) (Or.inl ⟨by kernel_rfl, fun W hSw => by ((try dsimp only at hSw); go_simp; try (with_reducible rfl))⟩) hcur ?_
    (try simp only [Act.put, List.setIfInBounds_toArray, List.set_cons_zero, List.set_cons_succ])
    refine wpAnyH_take (i := 6) (oi := _) (v := .int .u8 (d : Int)) rfl (by kernel_rfl) (by kernel_rfl) (by kernel_rfl) (fun _ _ _ h => h) (Or.inl ⟨by kernel_rfl, fun W hSw => by ((try dsimp only at hSw); go_simp; try (with_reducible rfl))⟩) hcur ?_
    (try simp only [Act.put, List.setIfInBounds_toArray, List.set_cons_zero, List.set_cons_succ])
    refine wpAnyH_take (i := 7) (oi := _) (v := .int .i64 (d : Int)) rfl (by kernel_rfl) (by kernel_rfl) (by kernel_rfl) (fun _ _ _ h => h) (Or.inl ⟨by kernel_rfl, fun W hSw => by ((try dsimp only at hSw); go_simp; try (with_reducible rfl))⟩) hcur ?_
    (try simp only [Act.put, List.setIfInBounds_toArray, List.set_cons_zero, List.set_cons_succ])
    refine wpAnyH_ready (rs := [1, 8]) (by kernel_rfl) (by simp) ?_
    refine AllReadyH.cons (o := _) rfl (fun K hK => ?_) ?_
    · refine st_lit (v := fun g => .slice (some ⟨g, 0, none⟩) 1 1) 23 rfl (cs := [10].map valI) (t := 3) (by go_simp; try rfl) ?_; intro g23 wn hb B23 hg23; replace hcur := bthen hcur hb
      refine hK.out _ _ hcur (fun hHeld => ?_)
      clear hK K hHeld
      (try simp only [Act.put, List.setIfInBounds_toArray, List.set_cons_zero, List.set_cons_succ])
      refine wpAnyH_ready (rs := [2, 8]) (by kernel_rfl) (by simp) ?_
      refine AllReadyH.cons (o := _) rfl (fun K hK => ?_) ?_
      · go_simp; (with_reducible refine (HMul.out _ _ B23 hcur).mono ?_); rintro e wn ⟨vm, rfl, om, hb⟩; obtain ⟨Am, cm, rfl, hm1, hm2⟩ := om.form; replace hcur := bthen hcur hb; go_wp2_with fail
        refine hK.out _ _ hcur (fun hHeld => ?_)
        clear hK K hHeld
        (try simp only [Act.put, List.setIfInBounds_toArray, List.set_cons_zero, List.set_cons_succ])
        refine wpAnyH_ready (rs := [8]) (by kernel_rfl) (by simp) ?_
        refine AllReadyH.cons (o := _) rfl (fun K hK => ?_) ?_
        · refine st_lit (v := fun g => .slice (some ⟨g, 0, none⟩) 1 1) 30 rfl (cs := [d].map valI) (t := 3) (by go_simp; try rfl) ?_; intro g30 wn hb B30 hg30; replace om := om.below hb; replace hcur := bthen hcur hb
          refine hK.out _ _ hcur (fun hHeld => ?_)
          clear hK K hHeld
          (try simp only [Act.put, List.setIfInBounds_toArray, List.set_cons_zero, List.set_cons_succ])
          refine wpAnyH_ready (rs := [9]) (by kernel_rfl) (by simp) ?_
          refine AllReadyH.cons (o := _) rfl (fun K hK => ?_) ?_
          · go_simp; (with_reducible refine (HAdd.out _ Am cm _ _ om hm1 B30).mono ?_); rintro e wn ⟨va, rfl, oa, hb⟩; obtain ⟨Aa, ca, rfl, ha1, ha2⟩ := oa.form; replace oa := oa.lower hcur.size; replace hcur := bthen hcur hb; go_wp2_with fail
            refine hK.out _ _ hcur (fun hHeld => ?_)
            clear hK K hHeld
            (try simp only [Act.put, List.setIfInBounds_toArray, List.set_cons_zero, List.set_cons_succ])
            refine wpAnyH_ready (rs := [10]) (by kernel_rfl) (by simp) ?_
            refine AllReadyH.cons (o := _) rfl (fun K hK => ?_) ?_
            · go_simp
              refine hK.out _ _ hcur (fun hHeld => ?_)
              clear hK K hHeld
              (try simp only [Act.put, List.setIfInBounds_toArray, List.set_cons_zero, List.set_cons_succ])
              refine wpAnyH_done (by kernel_rfl) ?_ _
              refine NoPanic.normal ?_
              obtain ⟨rfl⟩ := hQ7
              (go_wp2_with fail)
              refine ⟨⟨k + 1, ca, _, Aa, by omega, rfl, by go_num, bthen hb0 hcur, HNew.out _ _ _ (oa.lower hb0.size)⟩, by simp [intOf]; omega⟩
            exact AllReadyH.nil
          exact AllReadyH.nil
        exact AllReadyH.nil
      refine AllReadyH.cons (o := _) rfl (fun K hK => ?_) ?_
      · refine st_lit (v := fun g => .slice (some ⟨g, 0, none⟩) 1 1) 30 rfl (cs := [d].map valI) (t := 3) (by go_simp; try rfl) ?_; intro g30 wn hb B30 hg30; replace B23 := B23.below hb; replace hcur := bthen hcur hb
        refine hK.out _ _ hcur (fun hHeld => ?_)
        clear hK K hHeld
        (try simp only [Act.put, List.setIfInBounds_toArray, List.set_cons_zero, List.set_cons_succ])
        refine wpAnyH_ready (rs := [2]) (by kernel_rfl) (by simp) ?_
        refine AllReadyH.cons (o := _) rfl (fun K hK => ?_) ?_
        · go_simp; (with_reducible refine (HMul.out _ _ B23 hcur).mono ?_); rintro e wn ⟨vm, rfl, om, hb⟩; obtain ⟨Am, cm, rfl, hm1, hm2⟩ := om.form; replace B30 := B30.below hb; replace hcur := bthen hcur hb; go_wp2_with fail
          refine hK.out _ _ hcur (fun hHeld => ?_)
          clear hK K hHeld
          (try simp only [Act.put, List.setIfInBounds_toArray, List.set_cons_zero, List.set_cons_succ])
          refine wpAnyH_ready (rs := [9]) (by kernel_rfl) (by simp) ?_
          refine AllReadyH.cons (o := _) rfl (fun K hK => ?_) ?_
          · go_simp; (with_reducible refine (HAdd.out _ Am cm _ _ om hm1 B30).mono ?_); rintro e wn ⟨va, rfl, oa, hb⟩; obtain ⟨Aa, ca, rfl, ha1, ha2⟩ := oa.form; replace oa := oa.lower hcur.size; replace hcur := bthen hcur hb; go_wp2_with fail
            refine hK.out _ _ hcur (fun hHeld => ?_)
            clear hK K hHeld
            (try simp only [Act.put, List.setIfInBounds_toArray, List.set_cons_zero, List.set_cons_succ])
            refine wpAnyH_ready (rs := [10]) (by kernel_rfl) (by simp) ?_
            refine AllReadyH.cons (o := _) rfl (fun K hK => ?_) ?_
            · go_simp
              refine hK.out _ _ hcur (fun hHeld => ?_)
              clear hK K hHeld
              (try simp only [Act.put, List.setIfInBounds_toArray, List.set_cons_zero, List.set_cons_succ])
              refine wpAnyH_done (by kernel_rfl) ?_ _
              refine NoPanic.normal ?_
              obtain ⟨rfl⟩ := hQ7
              (go_wp2_with fail)
              refine ⟨⟨k + 1, ca, _, Aa, by omega, rfl, by go_num, bthen hb0 hcur, HNew.out _ _ _ (oa.lower hb0.size)⟩, by simp [intOf]; omega⟩
            exact AllReadyH.nil
          exact AllReadyH.nil
        exact AllReadyH.nil
      exact AllReadyH.nil
    refine AllReadyH.cons (o := _) rfl (fun K hK => ?_) ?_
    · refine st_lit (v := fun g => .slice (some ⟨g, 0, none⟩) 1 1) 30 rfl (cs := [d].map valI) (t := 3) (by go_simp; try rfl) ?_; intro g30 wn hb B30 hg30; replace hcur := bthen hcur hb
      refine hK.out _ _ hcur (fun hHeld => ?_)
      clear hK K hHeld
      (try simp only [Act.put, List.setIfInBounds_toArray, List.set_cons_zero, List.set_cons_succ])
      refine wpAnyH_ready (rs := [1]) (by kernel_rfl) (by simp) ?_
      refine AllReadyH.cons (o := _) rfl (fun K hK => ?_) ?_
      · refine st_lit (v := fun g => .slice (some ⟨g, 0, none⟩) 1 1) 23 rfl (cs := [10].map valI) (t := 3) (by go_simp; try rfl) ?_; intro g23 wn hb B23 hg23; replace B30 := B30.below hb; replace hcur := bthen hcur hb
        refine hK.out _ _ hcur (fun hHeld => ?_)
        clear hK K hHeld
        (try simp only [Act.put, List.setIfInBounds_toArray, List.set_cons_zero, List.set_cons_succ])
        refine wpAnyH_ready (rs := [2]) (by kernel_rfl) (by simp) ?_
        refine AllReadyH.cons (o := _) rfl (fun K hK => ?_) ?_
        · go_simp; (with_reducible refine (HMul.out _ _ B23 hcur).mono ?_); rintro e wn ⟨vm, rfl, om, hb⟩; obtain ⟨Am, cm, rfl, hm1, hm2⟩ := om.form; replace B30 := B30.below hb; replace hcur := bthen hcur hb; go_wp2_with fail
          refine hK.out _ _ hcur (fun hHeld => ?_)
          clear hK K hHeld
          (try simp only [Act.put, List.setIfInBounds_toArray, List.set_cons_zero, List.set_cons_succ])
          refine wpAnyH_ready (rs := [9]) (by kernel_rfl) (by simp) ?_
          refine AllReadyH.cons (o := _) rfl (fun K hK => ?_) ?_
          · go_simp; (with_reducible refine (HAdd.out _ Am cm _ _ om hm1 B30).mono ?_); rintro e wn ⟨va, rfl, oa, hb⟩; obtain ⟨Aa, ca, rfl, ha1, ha2⟩ := oa.form; replace oa := oa.lower hcur.size; replace hcur := bthen hcur hb; go_wp2_with fail
            refine hK.out _ _ hcur (fun hHeld => ?_)
            clear hK K hHeld
            (try simp only [Act.put, List.setIfInBounds_toArray, List.set_cons_zero, List.set_cons_succ])
            refine wpAnyH_ready (rs := [10]) (by kernel_rfl) (by simp) ?_
            refine AllReadyH.cons (o := _) rfl (fun K hK => ?_) ?_
            · go_simp
              refine hK.out _ _ hcur (fun hHeld => ?_)
              clear hK K hHeld
              (try simp only [Act.put, List.setIfInBounds_toArray, List.set_cons_zero, List.set_cons_succ])
              refine wpAnyH_done (by kernel_rfl) ?_ _
              refine NoPanic.normal ?_
              obtain ⟨rfl⟩ := hQ7
              (go_wp2_with fail)
              refine ⟨⟨k + 1, ca, _, Aa, by omega, rfl, by go_num, bthen hb0 hcur, HNew.out _ _ _ (oa.lower hb0.size)⟩, by simp [intOf]; omega⟩
            exact AllReadyH.nil
          exact AllReadyH.nil
        exact AllReadyH.nil
      exact AllReadyH.nil
    exact AllReadyH.nil
  · obtain rfl : k = p := by omega
    have hbyte := isD_not HB.out
    obtain ⟨x, hx⟩ : ∃ x, x = (s[k]'hp).toNat := ⟨_, rfl⟩
    rw [← hx] at hbyte
    have hcx : ((s[k]'hp).toNat : Int) = (x : Int) := by rw [hx]
    clear hx hD hV hnl hnk
    by_cases hx48 : (x : Int) < 48
    · clear hbyte
      go_wp2
      go_ret2
      exact ⟨_, rfl, rfl, hb0⟩
    · have hx57 : (57 : Int) < (x : Int) := by omega
      clear hbyte
      go_wp2
      go_ret2
      exact ⟨_, rfl, rfl, hb0⟩
end Go.Proofs.YtdapbegadhcpcaaGreatDoor
