/- nat.Cmp, nat.Sub: comparison and difference. -/
import Derived.Test.YtigoofeodbbbhaaDoorNat4
import Derived.BigQuiet
namespace Go.Proofs.YtigoofeodbbbhaaDoor
open Go.RowKit Go.Proofs.YtigoofeodbbbhaaDoorL Go.Proofs.YtigoofeodbbbhaaDoorM
set_option linter.unusedVariables false
set_option linter.unusedSimpArgs false
theorem drew_below {w W : World} {B : Nat} (h : Below B w W) (n : Nat) : Below B w (W.drewN n) := ⟨h.os, h.tape, h.output, h.size, h.block⟩
theorem getD_of_lt {l : List Nat} {j : Nat} (h : j < l.length) : l.getD j 0 = l[j] := by simp [List.getD, List.getElem?_eq_getElem h]
theorem cmpN_lt {a b : Nat} (h : a < b) : cmpN a b = -1 := if_pos h
theorem cmpN_gt {a b : Nat} (h : b < a) : cmpN a b = 1 := by rw [cmpN, if_neg (by omega), if_pos h]
theorem cmpN_eq {a b : Nat} (h : a = b) : cmpN a b = 0 := by rw [cmpN, if_neg (by omega), if_neg (by omega)]
theorem cmpN_range (a b : Nat) : -1 ≤ cmpN a b ∧ cmpN a b ≤ 1 := by unfold cmpN; split; · omega
                                                                    split <;> omega
theorem trimN_any (l L : List Nat) (A : Option Addr) (c : Nat) (w : World) (hL : trimL l = L) (hr : Rd encU 1 w A l) (hc : l.length ≤ c) (hm : l.length ≤ 9223372036854775807) :
    Calls Tryd.prog 73 #[.slice A l.length c] w fun e w' => e = .returned (.slice A L.length c) ∧ w = w' := by
  subst hL; exact trim_any l A c w hr hc hm
set_option maxHeartbeats 1000000 in
theorem natCmp_any (l m : List Nat) (A A2 : Option Addr) (c c2 : Nat) (w : World) (hr : Rd encU 1 w A l) (hr2 : Rd encU 1 w A2 m) (hl : (∀ x ∈ l, x < 4294967296) ∧ (∀ x ∈ m, x < 4294967296)) (hc : l.length ≤ c) (hc2 : m.length ≤ c2) (hm : l.length ≤ 281474976710656) (hm2 : m.length ≤ 281474976710656) :
    Calls Tryd.prog 74 #[.slice A l.length c, .slice A2 m.length c2] w (Gives w fun v w' => v = .int .i64 (cmpN (valB 4294967296 l) (valB 4294967296 m))) := by
  obtain ⟨V, hV⟩ : ∃ V, V = valB 4294967296 l := ⟨_, rfl⟩
  obtain ⟨U, hU⟩ : ∃ U, U = valB 4294967296 m := ⟨_, rfl⟩
  rw [← hV, ← hU]
  obtain ⟨L, hL⟩ : ∃ L, L = digB 4294967296 V := ⟨_, rfl⟩
  obtain ⟨M, hM⟩ : ∃ M, M = digB 4294967296 U := ⟨_, rfl⟩
  have htl : trimL l = L := by rw [hL, hV]; exact trimL_dig 4294967296 (by omega) l hl.1
  have htm : trimL m = M := by rw [hM, hU]; exact trimL_dig 4294967296 (by omega) m hl.2
  have hLle : L.length ≤ l.length := by rw [← htl]; exact trimL_le l
  have hMle : M.length ≤ m.length := by rw [← htm]; exact trimL_le m
  have hrL : Rd encU 1 w A L := by have := Rd.trim hr; rwa [htl] at this
  have hrM : Rd encU 1 w A2 M := by have := Rd.trim hr2; rwa [htm] at this
  have T1 := As.mk (trimN_any l L A c w htl hr hc (by omega))
  have T2 := As.mk (trimN_any m M A2 c2 w htm hr2 hc2 (by omega))
  have HV : As (valB 4294967296 L = V) := ⟨by rw [hL]; exact digB_val _ (by omega) V⟩
  have HU : As (valB 4294967296 M = U) := ⟨by rw [hM]; exact digB_val _ (by omega) U⟩
  have HL : As (∀ x ∈ L, x < 4294967296) := ⟨by rw [hL]; exact digB_lt _ (by omega) V⟩
  have HM : As (∀ x ∈ M, x < 4294967296) := ⟨by rw [hM]; exact digB_lt _ (by omega) U⟩
  have Hlt : As (L.length < M.length → V < U) := ⟨fun h => val_lt_len 4294967296 (by omega) V U (by rw [← hL, ← hM]; exact h)⟩
  have Hgt : As (M.length < L.length → U < V) := ⟨fun h => val_lt_len 4294967296 (by omega) U V (by rw [← hL, ← hM]; exact h)⟩
  clear htl htm hV hU hL hM hl
  by_cases c1 : L.length < M.length
  · have z0 : decide ((L.length : Int) < (M.length : Int)) = true := by simp; omega
    have z1 : decide (L.length < M.length) = true := by simp; omega
    have HR := As.mk (cmpN_lt (Hlt.out c1))
    clear c1
    go_enter Tryd.func74, Tryd.ntmps74
    go_wp2_with (first
      | (go_at_call 73; (with_reducible refine T1.out.mono ?_); rintro e w1 ⟨rfl, rfl⟩)
      | (go_at_call 73; (with_reducible refine T2.out.mono ?_); rintro e w1 ⟨rfl, rfl⟩))
    go_ret
    exact ⟨_, rfl, by rw [HR.out]; rfl, Below.refl _ _⟩
  · by_cases c2' : M.length < L.length
    · have z0 : decide ((L.length : Int) < (M.length : Int)) = false := by simp; omega
      have z1 : decide (L.length < M.length) = false := by simp; omega
      have z2 : decide ((M.length : Int) < (L.length : Int)) = true := by simp; omega
      have z3 : decide (M.length < L.length) = true := by simp; omega
      have HR := As.mk (cmpN_gt (Hgt.out c2'))
      clear c1 c2'
      go_enter Tryd.func74, Tryd.ntmps74
      go_wp2_with (first
        | (go_at_call 73; (with_reducible refine T1.out.mono ?_); rintro e w1 ⟨rfl, rfl⟩)
        | (go_at_call 73; (with_reducible refine T2.out.mono ?_); rintro e w1 ⟨rfl, rfl⟩))
      go_ret
      exact ⟨_, rfl, by rw [HR.out]; rfl, Below.refl _ _⟩
    · have hLM : M.length = L.length := by omega
      have HLM := As.mk hLM
      rw [hLM] at T2 hMle
      have z0 : decide ((L.length : Int) < (L.length : Int)) = false := by simp
      clear hLM c1 c2' Hlt Hgt
      go_enter Tryd.func74, Tryd.ntmps74
      go_wp2_with (first
        | (go_at_call 73; (with_reducible refine T1.out.mono ?_); rintro e w1 ⟨rfl, rfl⟩)
        | (go_at_call 73; (with_reducible refine T2.out.mono ?_); rintro e w1 ⟨rfl, rfl⟩))
      go_loopw [5] (fun v wr => ∃ k : Nat, k ≤ L.length ∧ v = .int .i64 ((k : Int) - 1) ∧ As (L.drop k = M.drop k) ∧ Below w.heap.size w wr) (fun v _ => (intOf v + 1).toNat)
      case atStart => exact ⟨L.length, Nat.le_refl _, by go_num, ⟨by rw [List.drop_length, ← HLM.out, List.drop_length]⟩, Below.refl _ _⟩
      case round =>
        obtain ⟨k, hk, rfl, hd, hb⟩ := hrel
        cases k with
        | zero =>
          have HR : As (cmpN V U = 0) := ⟨cmpN_eq (by have := hd.out; rw [List.drop_zero, List.drop_zero] at this; rw [← HV.out, ← HU.out, this])⟩
          go_wp2
          go_ret
          exact ⟨_, rfl, by rw [HR.out]; rfl, hb⟩
        | succ n =>
          have hnM : n < M.length := by have := HLM.out; omega
          obtain ⟨b, off, rfl⟩ := hr.get (ne_nil_of_lt (i := n) (by omega))
          obtain ⟨b2, off2, rfl⟩ := hr2.get (ne_nil_of_lt (i := n) (by omega))
          have hcell := Rd.u (hrL.below hb) n (by omega)
          have hcell2 := Rd.u (hrM.below hb) n hnM
          have hval := val_lt_at 4294967296 (by omega) L M n HL.out (by omega) hnM hd.out
          have hval2 := val_lt_at 4294967296 (by omega) M L n HM.out hnM (by omega) hd.out.symm
          have hdr1 := drop_cons_of_lt L n (by omega)
          have hdr2 := drop_cons_of_lt M n hnM
          rw [HV.out, HU.out] at hval
          rw [HV.out, HU.out] at hval2
          obtain ⟨x, hx⟩ : ∃ x, x = L[n] := ⟨_, rfl⟩
          obtain ⟨y, hy⟩ : ∃ y, y = M[n] := ⟨_, rfl⟩
          rw [← hx] at hcell hdr1
          rw [← hy] at hcell2 hdr2
          rw [← hx, ← hy] at hval hval2
          have Hval := As.mk hval
          have Hval2 := As.mk hval2
          have Hd1 := As.mk hdr1
          have Hd2 := As.mk hdr2
          have hn1 : n < L.length := by omega
          have hnc : n < c := by omega
          have hnc2 : n < c2 := by omega
          clear hx hy hval hval2 hdr1 hdr2 hnM
          rcases Nat.lt_trichotomy x y with h1 | h1 | h1
          · have HR := As.mk (cmpN_lt (Hval.out h1))
            have z5 : decide ((x : Int) < (y : Int)) = true := by simp; omega
            have z6 : decide (x < y) = true := by simp; omega
            clear h1
            go_wp2
            go_quiet (fail)
            go_wp2
            go_ret
            exact ⟨_, rfl, by rw [HR.out]; rfl, drew_below hb _⟩
          · subst h1
            have Hd3 : As (L.drop n = M.drop n) := ⟨by rw [Hd1.out, Hd2.out, hd.out]⟩
            have z5 : decide ((x : Int) < (x : Int)) = false := by simp
            go_wp2
            go_quiet (fail)
            go_wp2
            go_quiet (fail)
            go_wp2
            go_roundw
            case rel => exact ⟨n, by omega, by go_num, Hd3, drew_below hb _⟩
            case measure => simp [intOf]
          · have HR := As.mk (cmpN_gt (Hval2.out h1))
            have z5 : decide ((x : Int) < (y : Int)) = false := by simp; omega
            have z6 : decide (x < y) = false := by simp; omega
            have z7 : decide ((y : Int) < (x : Int)) = true := by simp; omega
            have z8 : decide (y < x) = true := by simp; omega
            clear h1
            go_wp2
            go_quiet (fail)
            go_wp2
            go_quiet (fail)
            go_wp2
            go_ret
            exact ⟨_, rfl, by rw [HR.out]; rfl, drew_below (drew_below hb _) _⟩
set_option maxHeartbeats 1000000 in
theorem natSub_any (l m : List Nat) (A A2 : Option Addr) (c c2 : Nat) (w : World) (hr : Rd encU 1 w A l) (hr2 : Rd encU 1 w A2 m) (hl : (∀ x ∈ l, x < 4294967296) ∧ (∀ x ∈ m, x < 4294967296)) (hc : l.length ≤ c) (hc2 : m.length ≤ c2) (hm : l.length ≤ 17592186044416) (hm2 : m.length ≤ 17592186044416) :
    Calls Tryd.prog 70 #[.slice A l.length c, .slice A2 m.length c2] w (Gives w fun v w' => (valB 4294967296 l < valB 4294967296 m → v = .tuple #[.slice none 0 0, .bool false]) ∧
      (valB 4294967296 m ≤ valB 4294967296 l → ∃ q, v = .tuple #[q, .bool true] ∧ Ow encU 1 62 w.heap.size w' q (digB 4294967296 (valB 4294967296 l - valB 4294967296 m)))) := by
  have hcmp := natCmp_any l m A A2 c c2 w hr hr2 hl hc hc2 (by omega) (by omega)
  obtain ⟨V, hV⟩ : ∃ V, V = valB 4294967296 l := ⟨_, rfl⟩
  obtain ⟨U, hU⟩ : ∃ U, U = valB 4294967296 m := ⟨_, rfl⟩
  rw [← hV, ← hU] at hcmp ⊢
  by_cases hlt : V < U
  · rw [cmpN_lt hlt] at hcmp
    have HC := As.mk hcmp
    have Hlt := As.mk hlt
    clear hlt hV hU hcmp
    go_enter Tryd.func70, Tryd.ntmps70
    go_wp2_with (go_at_call 74; (with_reducible refine HC.out.mono ?_); rintro e w1 ⟨v1, rfl, rfl, hb1⟩)
    go_ret2
    exact ⟨_, rfl, ⟨fun _ => rfl, fun h => absurd Hlt.out (by omega)⟩, hb1⟩
  · have hge : decide (cmpN V U < 0) = false := by
      rw [decide_eq_false_iff_not]
      rcases Nat.lt_or_ge U V with h | h
      · rw [cmpN_gt h]; omega
      · rw [cmpN_eq (by omega)]; omega
    have hcr := cmpN_range V U
    obtain ⟨cv, hcv⟩ : ∃ cv, cv = cmpN V U := ⟨_, rfl⟩
    rw [← hcv] at hcmp hge hcr
    obtain ⟨L, hL⟩ : ∃ L, L = digB 4294967296 V := ⟨_, rfl⟩
    obtain ⟨M, hM⟩ : ∃ M, M = digB 4294967296 U := ⟨_, rfl⟩
    have htl : trimL l = L := by rw [hL, hV]; exact trimL_dig 4294967296 (by omega) l hl.1
    have htm : trimL m = M := by rw [hM, hU]; exact trimL_dig 4294967296 (by omega) m hl.2
    have hLle : L.length ≤ l.length := by rw [← htl]; exact trimL_le l
    have hMle : M.length ≤ m.length := by rw [← htm]; exact trimL_le m
    have hrL : Rd encU 1 w A L := by have := Rd.trim hr; rwa [htl] at this
    have hrM : Rd encU 1 w A2 M := by have := Rd.trim hr2; rwa [htm] at this
    have T1 := As.mk (fun w1 (hb : Below w.heap.size w w1) => trimN_any l L A c w1 htl (hr.below hb) hc (by omega))
    have T2 := As.mk (fun w1 (hb : Below w.heap.size w w1) => trimN_any m M A2 c2 w1 htm (hr2.below hb) hc2 (by omega))
    have HV : As (valB 4294967296 L = V) := ⟨by rw [hL]; exact digB_val _ (by omega) V⟩
    have HU : As (valB 4294967296 M = U) := ⟨by rw [hM]; exact digB_val _ (by omega) U⟩
    have HL : As (∀ x ∈ L, x < 4294967296) := ⟨by rw [hL]; exact digB_lt _ (by omega) V⟩
    have HM : As (∀ x ∈ M, x < 4294967296) := ⟨by rw [hM]; exact digB_lt _ (by omega) U⟩
    have hML : M.length ≤ L.length := by rw [hL, hM]; exact digB_mono8 4294967296 (by omega) (by omega)
    have Hge : As (U ≤ V) := ⟨by omega⟩
    have HC := As.mk hcmp
    clear hlt hV hU hcmp hL hM htl htm hl hcv
    go_enter Tryd.func70, Tryd.ntmps70
    go_wp2_with (first
      | (go_at_call 74; (with_reducible refine HC.out.mono ?_); rintro e w1 ⟨v1, rfl, rfl, hb1⟩)
      | (go_at_call 73; (with_reducible refine (T1.out _ hb1).mono ?_); rintro e w2 ⟨rfl, rfl⟩)
      | (go_at_call 73; (with_reducible refine (T2.out _ hb1).mono ?_); rintro e w2 ⟨rfl, rfl⟩)
      | ((with_reducible refine g_dst 22 ?_); go_must (refine ev_make 22 rfl Tryd.underlying24 infoU rfl (n := L.length) rfl rfl (by omega) (by omega) ?_); intro g w3 hb3 B3 hg3; replace hg3 := Nat.le_trans hb1.size hg3; replace hb3 := bthen hb1 hb3))
    clear hge hcr
    go_loopw [7, 25, 8, 9, 10, 11] (fun v u _ _ _ _ wr => ∃ k cy : Nat, ∃ S : List Nat, k ≤ L.length ∧ cy ≤ 1 ∧ S.length = k ∧ v = .int .u64 (cy : Int) ∧ u = .int .i64 (k : Int) ∧ As (∀ x ∈ S, x < 4294967296) ∧ As (valB 4294967296 S + valB 4294967296 (M.take k) = valB 4294967296 (L.take k) + 4294967296 ^ k * cy) ∧ Below w.heap.size w wr ∧ Blk wr g ((S ++ List.replicate (L.length - k) 0).map valU) 62) (fun v u _ _ _ _ _ => L.length - (intOf u).toNat)
    case atStart => exact ⟨0, 0, [], by omega, by omega, rfl, rfl, rfl, ⟨by simp⟩, ⟨by simp [valB]⟩, hb3, by simpa [valU] using B3⟩
    case round =>
      obtain ⟨k, cy, S, hk, hcy, hS, rfl, rfl, hSl, hV, hb, B⟩ := hrel
      by_cases h : k < L.length
      · obtain ⟨b, off, rfl⟩ := hr.get (ne_nil_of_lt (i := k) (by omega))
        have hcell := Rd.u (hrL.below hb) k h
        have hx := HL.out _ (List.getElem_mem h)
        have hgx : L.getD k 0 = L[k] := by simp [List.getD, List.getElem?_eq_getElem h]
        have hrep : L.length - k = (L.length - (k + 1)) + 1 := by omega
        rw [hrep] at B
        clear hrep
        obtain ⟨x, hxe⟩ : ∃ x, x = L[k] := ⟨_, rfl⟩
        rw [← hxe] at hcell hx hgx
        have hy := getD_lt 4294967296 (by omega) M HM.out k
        obtain ⟨y, hye⟩ : ∃ y, y = M.getD k 0 := ⟨_, rfl⟩
        rw [← hye] at hy
        obtain ⟨d, c3, hd, hd2, hc3⟩ : ∃ d c3 : Nat, d + y + cy = x + 4294967296 * c3 ∧ d < 4294967296 ∧ c3 ≤ 1 := by
          by_cases hh : y + cy ≤ x
          · exact ⟨x - y - cy, 0, by omega, by omega, by omega⟩
          · exact ⟨x + 4294967296 - y - cy, 1, by omega, by omega, by omega⟩
        have hst := sub_step 4294967296 L M S k cy d c3 hS hV.out (by rw [hgx, ← hye]; exact hd)
        obtain ⟨D, hD⟩ : ∃ D : Nat, D = d + (18446744073709551616 - 4294967296) * c3 := ⟨_, rfl⟩
        have hDb : D < 18446744073709551616 := by omega
        have e1 : IntKind.u32.wrap (D : Int) = (d : Int) := by
          have : (D : Int) % 4294967296 = (d : Int) := by omega
          simpa [IntKind.wrap, IntKind.bits, IntKind.signed] using this
        have e2 : ((D : Int) / 9223372036854775808) = (c3 : Int) := by omega
        have hS2 := As.mk (snoc_lt hSl.out hd2)
        have Hst := As.mk hst
        have HS := As.mk hS
        have hput : k < (S ++ List.replicate (L.length - (k + 1) + 1) 0).length := by simp; omega
        have hfill : (S ++ List.replicate (L.length - (k + 1) + 1) 0).set k d = (S ++ [d]) ++ List.replicate (L.length - (k + 1)) 0 := fill_up 0 d _ S k hS
        have Hfill := As.mk hfill
        have Hput := As.mk hput
        clear hst hS hxe hgx hV hSl hfill hput
        by_cases h2 : k < M.length
        · obtain ⟨b2, off2, rfl⟩ := hr2.get (ne_nil_of_lt (i := k) (by omega))
          have hcell2 := Rd.u (hrM.below hb) k h2
          have hy2 : M[k] = y := by rw [hye]; simp [List.getD, List.getElem?_eq_getElem h2]
          rw [hy2] at hcell2
          have e0 : IntKind.u64.wrap ((x : Int) - ((cy : Int) + (y : Int))) = (D : Int) := by
            have : ((x : Int) - ((cy : Int) + (y : Int))) % 18446744073709551616 = (D : Int) := by omega
            simpa [IntKind.wrap, IntKind.bits, IntKind.signed] using this
          have HD := As.mk hD
          clear hye hy2 hd hD
          go_wp2_with ((with_reducible refine g_store 50 ?_); go_must (refine ev_set rfl (by go_simp) B (u := d) (by go_simp; rfl) infoU Hput.out (by rfl) ?_); intro w2 ho B2; rw [Hfill.out] at B2)
          go_roundw
          case rel => exact ⟨k + 1, c3, S ++ [d], by omega, hc3, by rw [List.length_append, HS.out]; rfl, by go_num, by go_num, hS2, Hst, hb.trans (ho.below hg3), B2⟩
          case measure => simp [intOf]; omega
        · have hy2 : y = 0 := by rw [hye]; simp [List.getD, List.getElem?_eq_none (Nat.le_of_not_lt h2)]
          have e0 : IntKind.u64.wrap ((x : Int) - (cy : Int)) = (D : Int) := by
            have : ((x : Int) - (cy : Int)) % 18446744073709551616 = (D : Int) := by omega
            simpa [IntKind.wrap, IntKind.bits, IntKind.signed] using this
          have HD := As.mk hD
          clear hye hy2 hd hD
          go_wp2_with ((with_reducible refine g_store 50 ?_); go_must (refine ev_set rfl (by go_simp) B (u := d) (by go_simp; rfl) infoU Hput.out (by rfl) ?_); intro w2 ho B2; rw [Hfill.out] at B2)
          go_roundw
          case rel => exact ⟨k + 1, c3, S ++ [d], by omega, hc3, by rw [List.length_append, HS.out]; rfl, by go_num, by go_num, hS2, Hst, hb.trans (ho.below hg3), B2⟩
          case measure => simp [intOf]; omega
      · have hkl : k = L.length := by omega
        subst hkl
        have hv := hV.out
        rw [List.take_of_length_le (Nat.le_refl _), List.take_of_length_le (i := L.length) hML, HV.out, HU.out] at hv
        have hv2 := sub_end 4294967296 (by omega) S V U cy hSl.out (by rw [hS]; exact hv) Hge.out
        have htr : trimL S = digB 4294967296 (V - U) := by
          rw [trimL_dig 4294967296 (by omega) _ hSl.out, hv2]
        rw [Nat.sub_self, List.replicate_zero, List.append_nil] at B
        have Htr := As.mk htr
        have HS := As.mk hS
        have hrd' := B.rdm encU_one
        clear htr hv hv2 hS hV hSl
        go_wp2_with (go_at_call 73; (with_reducible refine (trim_n S L.length HS.out _ _ _ hrd' (by omega) (by omega)).mono ?_); rintro e w3 ⟨rfl, rfl⟩)
        go_ret2
        refine ⟨_, rfl, ⟨fun h => absurd h (by have := Hge.out; omega), fun _ => ⟨_, rfl, ?_⟩⟩, hb⟩
        have := B.ow (base := w.heap.size) encU_one hg3 (by rw [HS.out]; simp only [maxLen]; omega) (trimL S).length (trimL_le _)
        rw [← trimL_take, Htr.out, HS.out] at this
        rw [Htr.out]
        exact this
end Go.Proofs.YtigoofeodbbbhaaDoor
