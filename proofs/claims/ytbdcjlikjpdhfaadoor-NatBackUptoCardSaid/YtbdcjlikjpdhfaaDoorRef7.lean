/- tandemref01.Bits, Parse. -/
import Derived.Test.YtbdcjlikjpdhfaaDoorRef5
import Derived.Test.YtbdcjlikjpdhfaaDoorParse1
import Derived.Test.YtbdcjlikjpdhfaaDoorMath7
import Derived.Deep.RegionHeld3
namespace Go.Proofs.YtbdcjlikjpdhfaaDoor
open Go.RowKit Go.Proofs.YtbdcjlikjpdhfaaDoorL Go.Proofs.YtbdcjlikjpdhfaaDoorM
set_option linter.unusedVariables false
set_option linter.unusedSimpArgs false
set_option maxHeartbeats 1000000 in
theorem rBits_any (l : List Nat) (A : Option Addr) (c : Nat) (w : World) (h : Sl.Good ⟨A, c, l⟩ w) :
    Calls Tryd.prog 24 #[.slice A l.length c] w (Gives w fun v _ => v = .int .i64 ((bitN (valB 4294967296 l) : Nat) : Int)) := by
  obtain ⟨V, hV⟩ : ∃ V, V = valB 4294967296 l := ⟨_, rfl⟩
  have q1 := half_len3 l h.lt h.max
  have H1 := As.mk (half_any l _ rfl A c w h.rd h.lt h.cap (Nat.le_trans h.max (by omega)))
  rw [← hV] at H1 q1 ⊢
  obtain ⟨L, hL⟩ : ∃ L, L = digB 65536 V := ⟨_, rfl⟩
  rw [← hL] at H1 q1
  by_cases h0 : L = []
  · have hb0 : As (bitN V = 0) := ⟨by rw [bitN_eq_zero, ← digB_eq_nil 65536 V (by omega), ← hL]; exact h0⟩
    subst h0
    clear hV hL
    go_enter Tryd.func24, Tryd.ntmps24
    go_wp2_with (go_at_call 40; (with_reducible refine H1.out.mono ?_); rintro e w1 ⟨v1, rfl, ho1, hb1⟩; obtain ⟨A1, k1, rfl, h11, h12⟩ := ho1.form)
    go_ret
    exact ⟨_, rfl, by rw [hb0.out]; rfl, hb1⟩
  · obtain ⟨m, hm1⟩ : ∃ m, L.length = m + 1 := ⟨L.length - 1, by have : L.length ≠ 0 := fun e => h0 (List.eq_nil_of_length_eq_zero e); omega⟩
    have hz : ((L.length : Int) == 0) = false := by simp; exact h0
    have hmL : m < L.length := by omega
    obtain ⟨x, hx⟩ : ∃ x, x = L[m]'hmL := ⟨_, rfl⟩
    have hx2 : x < 65536 := by rw [hx]; have := List.getElem_mem (show m < L.length by omega); exact (hL ▸ digB_lt 65536 (by omega) V) _ this
    have hbits : As (bitN V = 16 * m + bitN x) := ⟨by
      have hk := bitN_limbs 16 V (by omega) (by rw [show (2 : Nat) ^ 16 = 65536 from rfl, ← hL]; exact h0)
      simp only [show (2 : Nat) ^ 16 = 65536 from rfl, ← hL] at hk
      rw [hk, hm1, Nat.add_sub_cancel, List.getLast_eq_getElem, hx]
      simp only [hm1, Nat.add_sub_cancel]⟩
    have Hne := As.mk h0
    have Hx := As.mk hx
    have hml : m < 549755813888 := by omega
    have em : ((L.length : Int) - 1) = (m : Int) := by omega
    clear hV hL h0 hx hm1
    go_enter Tryd.func24, Tryd.ntmps24
    go_wp2_with (go_at_call 40; (with_reducible refine H1.out.mono ?_); rintro e w1 ⟨v1, rfl, ho1, hb1⟩; obtain ⟨A1, k1, rfl, h11, h12⟩ := ho1.form; obtain ⟨b, off, rfl⟩ := (ho1.rd lenI).get Hne.out; have hcell := Rd.i (ho1.rd lenI) m hmL; rw [← Hx.out] at hcell; have hmk : m < k1 := Nat.lt_of_lt_of_le hmL h11)
    go_loopw [4, 5] (fun v u wr => ∃ n y : Nat, v = .int .i64 (n : Int) ∧ u = .int .i64 (y : Int) ∧ y < 65536 ∧ n ≤ 8796093022208 + 16 ∧ As (n + bitN y = bitN V) ∧ n + y ≤ 8796093022208 + 65552 ∧ w1 = wr) (fun _ u _ => (intOf u).toNat)
    case atStart => exact ⟨16 * m, x, by go_num, rfl, hx2, by omega, hbits.out.symm |> As.mk, by omega, rfl⟩
    case round =>
      obtain ⟨n, y, rfl, rfl, hy, hn, hny, hs, rfl⟩ := hrel
      by_cases h : 0 < y
      · have hh : As (n + 1 + bitN (y / 2) = bitN V) := ⟨by rw [← hny.out, bitN_half y h]; omega⟩
        have e2 : (y : Int) / 2 = ((y / 2 : Nat) : Int) := rfl
        have h' : (0 : Int) < (y : Int) := by omega
        obtain ⟨z, hzz⟩ : ∃ z, z = y / 2 := ⟨_, rfl⟩
        rw [← hzz] at hh e2
        have hz1 : z < y := by omega
        have hbn : bitN V ≤ 16 * m + 16 := by rw [hbits.out]; have : bitN x ≤ 16 := digB_len_lt 2 (by omega) 16 x (by omega); omega
        have hn1 : n + 1 ≤ 8796093022208 + 16 := by have := hh.out; omega
        clear hzz hny hbn
        go_wp2
        go_roundw
        case rel => exact ⟨n + 1, z, by go_num, by go_num, by omega, hn1, hh, by omega, trivial⟩
        case measure => simp [intOf]; omega
      · obtain rfl : y = 0 := by omega
        have hh : As (bitN V = n) := ⟨by rw [← hny.out, bitN_zero]; rfl⟩
        clear hny
        go_wp2
        go_ret
        exact ⟨_, rfl, by rw [hh.out]; rfl, hb1⟩
theorem valI_10 : ([10].map valI) = [valI 10] := rfl
set_option maxRecDepth 8000 in
set_option maxHeartbeats 4000000 in
theorem rParse_yes (s : ByteArray) (w : World) (hs : s.size ≤ 1073741824) (hd : ∀ c ∈ s.data.toList, isD c = true) :
    Calls Tryd.prog 20 #[.string s] w (Gives w fun v w' => ∃ q, v = .tuple #[q, .bool (decide (0 < s.size))] ∧ Ow encU 1 36 w.heap.size w' q (digB 4294967296 (numV 0 s.data.toList))) := by
  obtain ⟨t, ht⟩ : ∃ t, t = s.data.toList := ⟨_, rfl⟩
  have hsl : s.data.toList.length = s.size := by rw [Array.length_toList]; rfl
  rw [← ht] at hsl hd ⊢
  have HD := As.mk hd
  have HSL := As.mk hsl
  have Ht := As.mk ht
  have HLen : As (∀ k, k ≤ s.size → (digB 65536 (numV 0 (t.take k))).length ≤ k) := ⟨fun k hk => by
    refine digB_len_lt 65536 (by omega) k _ ?_
    have h1 := numV_lt0 (t.take k) (fun c hc => hd c (List.mem_of_mem_take hc))
    rw [List.length_take, hsl, Nat.min_eq_left hk] at h1
    exact Nat.lt_of_lt_of_le h1 (Nat.pow_le_pow_left (by omega) k)⟩
  clear hd hsl ht
  go_enter Tryd.func20, Tryd.ntmps20
  go_wp2
  go_loopw [4, 5] (fun v u wr => ∃ (k c n : Nat) (A : Option Addr), k ≤ s.size ∧ v = .slice A n c ∧ u = .int .i64 (k : Int) ∧ Below w.heap.size w wr ∧ Ow encI 1 3 w.heap.size wr (.slice A n c) (digB 65536 (numV 0 (t.take k)))) (fun _ u _ => s.size - (intOf u).toNat)
  case atStart => exact ⟨0, 0, 0, none, by omega, rfl, rfl, Below.refl _ _, by rw [List.take_zero, numV_nil, digB_zero]; exact Ow.nil _ _ _ _ _⟩
  case round =>
    obtain ⟨k, c, n, A, hk, rfl, rfl, hb0, ho⟩ := hrel
    have hnl := ho.len_eq
    have hnk := HLen.out k hk
    obtain ⟨V, hV⟩ : ∃ V, V = numV 0 (t.take k) := ⟨_, rfl⟩
    obtain ⟨D, hD⟩ : ∃ D, D = digB 65536 V := ⟨_, rfl⟩
    rw [← hV, ← hD] at ho hnl hnk
    have HDl : As (∀ x ∈ D, x < 65536) := ⟨by rw [hD]; exact digB_lt _ (by omega) V⟩
    have HDv : As (valB 65536 D = V) := ⟨by rw [hD]; exact digB_val _ (by omega) V⟩
    have hnc : n ≤ c := by obtain ⟨A', c', e, h1, _⟩ := ho.form; simp only [Value.slice.injEq] at e; omega
    have Hnl := As.mk hnl
    have hn30 : n ≤ 1073741824 := by omega
    by_cases h : k < s.size
    · have hbyte := isD_of (HD.out (s[k]'h) (by have := byte_mem s k h; rwa [← Ht.out] at this))
      obtain ⟨x, hx⟩ : ∃ x, x = (s[k]'h).toNat := ⟨_, rfl⟩
      rw [← hx] at hbyte
      have hx1 : ¬ (x : Int) < 48 := by omega
      have hx2 : ¬ (57 : Int) < (x : Int) := by omega
      obtain ⟨d, hdd⟩ : ∃ d, d = x - 48 := ⟨_, rfl⟩
      have hd9 : d < 10 := by omega
      have ed : (x : Int) - 48 = (d : Int) := by omega
      have ed64 : IntKind.i64.wrap (d : Int) = (d : Int) := IntWalk.i64_in _ (by omega)
      have ed8 : IntKind.u8.wrap (d : Int) = (d : Int) := IntWalk.u8_in _ (by omega)
      have hcx : ((s[k]'h).toNat : Int) = (x : Int) := by rw [hx]
      obtain ⟨E, hE⟩ : ∃ E, E = digB 65536 (V * 10) := ⟨_, rfl⟩
      have hEl : E.length ≤ n + 1 := by
        rw [hE]
        refine digB_len_lt 65536 (by omega) _ _ ?_
        have h1 := lt_pow_len 65536 (by omega) V
        rw [← hD, ← hnl] at h1
        rw [Nat.pow_succ]
        exact Nat.mul_lt_mul_of_lt_of_le h1 (by omega) (by omega)
      have HMul : As (∀ (W : World) (gg : Nat) (BB : Blk W gg ([10].map valI) 3) (hb : Below wr.heap.size wr W), Calls Tryd.prog 45 #[.slice A n c, .slice (some ⟨gg, 0, none⟩) 1 1] W (Gives W fun v w' => Ow encI 1 3 W.heap.size w' v E)) := ⟨fun W gg BB hb => by
        have := rmul_any D [10] n 1 Hnl.out.symm rfl A (some ⟨gg, 0, none⟩) c 1 W ((ho.below hb).rd lenI) (BB.rdm encI_one) ⟨HDl.out, fun y hy => by simp only [List.mem_singleton] at hy; omega⟩ hnc (Nat.le_refl _) (by omega) (by omega)
        rwa [HDv.out, show valB 65536 [10] = 10 by decide, ← hE] at this⟩
      have HAdd : As (∀ (W : World) (Am : Option Addr) (cm gg base : Nat) (om : Ow encI 1 3 base W (.slice Am E.length cm) E) (hcm : E.length ≤ cm) (BB : Blk W gg ([d].map valI) 3), Calls Tryd.prog 39 #[.slice Am E.length cm, .slice (some ⟨gg, 0, none⟩) 1 1] W (Gives W fun v w' => Ow encI 1 3 W.heap.size w' v (digB 65536 (V * 10 + d)))) := ⟨fun W Am cm gg base om hcm BB => by
        have := radd_any E [d] E.length 1 rfl rfl Am (some ⟨gg, 0, none⟩) cm 1 W (om.rd lenI) (BB.rdm encI_one) (by rw [hE]; exact digB_lt _ (by omega) _) (fun y hy => by simp only [List.mem_singleton] at hy; omega) hcm (Nat.le_refl _) (by omega) (by omega)
        rwa [hE, digB_val 65536 (by omega), show valB 65536 [d] = d by simp [valB], ← hE] at this⟩
      have hVn : V * 10 + d = numV 0 (t.take (k + 1)) := by
        have hkt : k < t.length := by rw [HSL.out]; exact h
        rw [List.take_succ_eq_append_getElem hkt, numV_snoc, ← hV, hdd, hx]
        congr 3
        simp only [Ht.out, ByteArray.getElem_eq_getElem_data, Array.getElem_toList]
      have HNew : As (∀ (W : World) (Aa : Option Addr) (na ca : Nat), Ow encI 1 3 w.heap.size W (.slice Aa na ca) (digB 65536 (V * 10 + d)) → Ow encI 1 3 w.heap.size W (.slice Aa na ca) (digB 65536 (numV 0 (t.take (k + 1))))) := ⟨fun W Aa na ca f => by rw [← hVn]; exact f⟩
      replace HNew : As (∀ (W : World) (Aa : Option Addr) (ca : Nat) {na : Nat}, Ow encI 1 3 w.heap.size W (.slice Aa na ca) (digB 65536 (V * 10 + d)) → Ow encI 1 3 w.heap.size W (.slice Aa na ca) (digB 65536 (numV 0 (t.take (k + 1))))) := ⟨fun W Aa ca na f => HNew.out W Aa na ca f⟩
      clear hx hdd hE hVn hV hD hnl hnk
      go_wp2
      have hcur := (Below.refl wr.heap.size wr).drew
      refine wp_gen2 (fun Q7 hQ7 => ?_)
      refine wp_region_held_drew (S := fun W => Below wr.heap.size wr W) (by kernel_rfl) hcur (fun hHeld => ?_)
      clear hHeld
      refine wpAnyH_take (i := 0) (oi := _) (v := .slice A n c) rfl (by kernel_rfl) (by kernel_rfl) (by kernel_rfl) (fun _ _ _ h => h) (Or.inl ⟨by kernel_rfl, fun W hSw => by ((try dsimp only at hSw); go_simp; try (with_reducible rfl))⟩) hcur ?_
      (try simp only [Act.put, List.setIfInBounds_toArray, List.set_cons_zero, List.set_cons_succ])
      refine wpAnyH_take (i := 3) (oi := _) (v := .string s) rfl (by kernel_rfl) (by kernel_rfl) (by kernel_rfl) (fun _ _ _ h => h) (Or.inl ⟨by kernel_rfl, fun W hSw => by ((try dsimp only at hSw); go_simp; try (with_reducible rfl))⟩) hcur ?_
      (try simp only [Act.put, List.setIfInBounds_toArray, List.set_cons_zero, List.set_cons_succ])
      refine wpAnyH_take (i := 4) (oi := _) (v := .int .i64 (k : Int)) rfl (by kernel_rfl) (by kernel_rfl) (by kernel_rfl) (fun _ _ _ h => h) (Or.inl ⟨by kernel_rfl, fun W hSw => by ((try dsimp only at hSw); go_simp; try (with_reducible rfl))⟩) hcur ?_
      (try simp only [Act.put, List.setIfInBounds_toArray, List.set_cons_zero, List.set_cons_succ])
      refine wpAnyH_take (i := 5) (oi := _) (v := .int .u8 (x : Int)) rfl (by kernel_rfl) (by kernel_rfl) (by kernel_rfl) (fun _ _ _ h => h) (Or.inl ⟨by kernel_rfl, fun W hSw => by ((try dsimp only at hSw); go_simp; try (with_reducible rfl))⟩) hcur ?_
      (try simp only [Act.put, List.setIfInBounds_toArray, List.set_cons_zero, List.set_cons_succ])
      refine wpAnyH_take (i := 6) (oi := _) (v := .int .u8 (d : Int)) rfl (by kernel_rfl) (by kernel_rfl) (by kernel_rfl) (fun _ _ _ h => h) (Or.inl ⟨by kernel_rfl, fun W hSw => by ((try dsimp only at hSw); go_simp; try (with_reducible rfl))⟩) hcur ?_
      (try simp only [Act.put, List.setIfInBounds_toArray, List.set_cons_zero, List.set_cons_succ])
      refine wpAnyH_take (i := 7) (oi := _) (v := .int .i64 (d : Int)) rfl (by kernel_rfl) (by kernel_rfl) (by kernel_rfl) (fun _ _ _ h => h) (Or.inl ⟨by kernel_rfl, fun W hSw => by ((try dsimp only at hSw); go_simp; try (with_reducible rfl))⟩) hcur ?_
      (try simp only [Act.put, List.setIfInBounds_toArray, List.set_cons_zero, List.set_cons_succ])
      refine wpAnyH_ready (rs := [1, 8]) (by kernel_rfl) (by simp) ?_
      refine AllReadyH.cons (o := _) rfl (fun K hK => ?_) ?_
      · refine st_lit (v := fun g => .slice (some ⟨g, 0, none⟩) 1 1) 23 rfl (cs := [10].map valI) (t := 3) (by go_simp; try rfl) ?_; intro g23 wn hb B23 hg23; replace hcur := bthen hcur hb
        refine hK.out _ _ hcur (fun hHeld => ?_)
        clear hK K hHeld
        (try simp only [Act.put, List.setIfInBounds_toArray, List.set_cons_zero, List.set_cons_succ])
        refine wpAnyH_ready (rs := [2, 8]) (by kernel_rfl) (by simp) ?_
        refine AllReadyH.cons (o := _) rfl (fun K hK => ?_) ?_
        · go_simp; (with_reducible refine (HMul.out _ _ B23 hcur).mono ?_); rintro e wn ⟨vm, rfl, om, hb⟩; obtain ⟨Am, cm, rfl, hm1, hm2⟩ := om.form; replace hcur := bthen hcur hb; go_wp2_with fail
          refine hK.out _ _ hcur (fun hHeld => ?_)
          clear hK K hHeld
          (try simp only [Act.put, List.setIfInBounds_toArray, List.set_cons_zero, List.set_cons_succ])
          refine wpAnyH_ready (rs := [8]) (by kernel_rfl) (by simp) ?_
          refine AllReadyH.cons (o := _) rfl (fun K hK => ?_) ?_
          · refine st_lit (v := fun g => .slice (some ⟨g, 0, none⟩) 1 1) 30 rfl (cs := [d].map valI) (t := 3) (by go_simp; try rfl) ?_; intro g30 wn hb B30 hg30; replace om := om.below hb; replace hcur := bthen hcur hb
            refine hK.out _ _ hcur (fun hHeld => ?_)
            clear hK K hHeld
            (try simp only [Act.put, List.setIfInBounds_toArray, List.set_cons_zero, List.set_cons_succ])
            refine wpAnyH_ready (rs := [9]) (by kernel_rfl) (by simp) ?_
            refine AllReadyH.cons (o := _) rfl (fun K hK => ?_) ?_
            · go_simp; (with_reducible refine (HAdd.out _ Am cm _ _ om hm1 B30).mono ?_); rintro e wn ⟨va, rfl, oa, hb⟩; obtain ⟨Aa, ca, rfl, ha1, ha2⟩ := oa.form; replace oa := oa.lower hcur.size; replace hcur := bthen hcur hb; go_wp2_with fail
              refine hK.out _ _ hcur (fun hHeld => ?_)
              clear hK K hHeld
              (try simp only [Act.put, List.setIfInBounds_toArray, List.set_cons_zero, List.set_cons_succ])
              refine wpAnyH_ready (rs := [10]) (by kernel_rfl) (by simp) ?_
              refine AllReadyH.cons (o := _) rfl (fun K hK => ?_) ?_
              · go_simp
                refine hK.out _ _ hcur (fun hHeld => ?_)
                clear hK K hHeld
                (try simp only [Act.put, List.setIfInBounds_toArray, List.set_cons_zero, List.set_cons_succ])
                refine wpAnyH_done (by kernel_rfl) ?_ _
                refine NoPanic.normal ?_
                obtain ⟨rfl⟩ := hQ7
                (go_wp2_with fail)
                refine ⟨⟨k + 1, ca, _, Aa, by omega, rfl, by go_num, bthen hb0 hcur, HNew.out _ _ _ (oa.lower hb0.size)⟩, by simp [intOf]; omega⟩
              exact AllReadyH.nil
            exact AllReadyH.nil
          exact AllReadyH.nil
        refine AllReadyH.cons (o := _) rfl (fun K hK => ?_) ?_
        · refine st_lit (v := fun g => .slice (some ⟨g, 0, none⟩) 1 1) 30 rfl (cs := [d].map valI) (t := 3) (by go_simp; try rfl) ?_; intro g30 wn hb B30 hg30; replace B23 := B23.below hb; replace hcur := bthen hcur hb
          refine hK.out _ _ hcur (fun hHeld => ?_)
          clear hK K hHeld
          (try simp only [Act.put, List.setIfInBounds_toArray, List.set_cons_zero, List.set_cons_succ])
          refine wpAnyH_ready (rs := [2]) (by kernel_rfl) (by simp) ?_
          refine AllReadyH.cons (o := _) rfl (fun K hK => ?_) ?_
          · go_simp; (with_reducible refine (HMul.out _ _ B23 hcur).mono ?_); rintro e wn ⟨vm, rfl, om, hb⟩; obtain ⟨Am, cm, rfl, hm1, hm2⟩ := om.form; replace B30 := B30.below hb; replace hcur := bthen hcur hb; go_wp2_with fail
            refine hK.out _ _ hcur (fun hHeld => ?_)
            clear hK K hHeld
            (try simp only [Act.put, List.setIfInBounds_toArray, List.set_cons_zero, List.set_cons_succ])
            refine wpAnyH_ready (rs := [9]) (by kernel_rfl) (by simp) ?_
            refine AllReadyH.cons (o := _) rfl (fun K hK => ?_) ?_
            · go_simp; (with_reducible refine (HAdd.out _ Am cm _ _ om hm1 B30).mono ?_); rintro e wn ⟨va, rfl, oa, hb⟩; obtain ⟨Aa, ca, rfl, ha1, ha2⟩ := oa.form; replace oa := oa.lower hcur.size; replace hcur := bthen hcur hb; go_wp2_with fail
              refine hK.out _ _ hcur (fun hHeld => ?_)
              clear hK K hHeld
              (try simp only [Act.put, List.setIfInBounds_toArray, List.set_cons_zero, List.set_cons_succ])
              refine wpAnyH_ready (rs := [10]) (by kernel_rfl) (by simp) ?_
              refine AllReadyH.cons (o := _) rfl (fun K hK => ?_) ?_
              · go_simp
                refine hK.out _ _ hcur (fun hHeld => ?_)
                clear hK K hHeld
                (try simp only [Act.put, List.setIfInBounds_toArray, List.set_cons_zero, List.set_cons_succ])
                refine wpAnyH_done (by kernel_rfl) ?_ _
                refine NoPanic.normal ?_
                obtain ⟨rfl⟩ := hQ7
                (go_wp2_with fail)
                refine ⟨⟨k + 1, ca, _, Aa, by omega, rfl, by go_num, bthen hb0 hcur, HNew.out _ _ _ (oa.lower hb0.size)⟩, by simp [intOf]; omega⟩
              exact AllReadyH.nil
            exact AllReadyH.nil
          exact AllReadyH.nil
        exact AllReadyH.nil
      refine AllReadyH.cons (o := _) rfl (fun K hK => ?_) ?_
      · refine st_lit (v := fun g => .slice (some ⟨g, 0, none⟩) 1 1) 30 rfl (cs := [d].map valI) (t := 3) (by go_simp; try rfl) ?_; intro g30 wn hb B30 hg30; replace hcur := bthen hcur hb
        refine hK.out _ _ hcur (fun hHeld => ?_)
        clear hK K hHeld
        (try simp only [Act.put, List.setIfInBounds_toArray, List.set_cons_zero, List.set_cons_succ])
        refine wpAnyH_ready (rs := [1]) (by kernel_rfl) (by simp) ?_
        refine AllReadyH.cons (o := _) rfl (fun K hK => ?_) ?_
        · refine st_lit (v := fun g => .slice (some ⟨g, 0, none⟩) 1 1) 23 rfl (cs := [10].map valI) (t := 3) (by go_simp; try rfl) ?_; intro g23 wn hb B23 hg23; replace B30 := B30.below hb; replace hcur := bthen hcur hb
          refine hK.out _ _ hcur (fun hHeld => ?_)
          clear hK K hHeld
          (try simp only [Act.put, List.setIfInBounds_toArray, List.set_cons_zero, List.set_cons_succ])
          refine wpAnyH_ready (rs := [2]) (by kernel_rfl) (by simp) ?_
          refine AllReadyH.cons (o := _) rfl (fun K hK => ?_) ?_
          · go_simp; (with_reducible refine (HMul.out _ _ B23 hcur).mono ?_); rintro e wn ⟨vm, rfl, om, hb⟩; obtain ⟨Am, cm, rfl, hm1, hm2⟩ := om.form; replace B30 := B30.below hb; replace hcur := bthen hcur hb; go_wp2_with fail
            refine hK.out _ _ hcur (fun hHeld => ?_)
            clear hK K hHeld
            (try simp only [Act.put, List.setIfInBounds_toArray, List.set_cons_zero, List.set_cons_succ])
            refine wpAnyH_ready (rs := [9]) (by kernel_rfl) (by simp) ?_
            refine AllReadyH.cons (o := _) rfl (fun K hK => ?_) ?_
            · go_simp; (with_reducible refine (HAdd.out _ Am cm _ _ om hm1 B30).mono ?_); rintro e wn ⟨va, rfl, oa, hb⟩; obtain ⟨Aa, ca, rfl, ha1, ha2⟩ := oa.form; replace oa := oa.lower hcur.size; replace hcur := bthen hcur hb; go_wp2_with fail
              refine hK.out _ _ hcur (fun hHeld => ?_)
              clear hK K hHeld
              (try simp only [Act.put, List.setIfInBounds_toArray, List.set_cons_zero, List.set_cons_succ])
              refine wpAnyH_ready (rs := [10]) (by kernel_rfl) (by simp) ?_
              refine AllReadyH.cons (o := _) rfl (fun K hK => ?_) ?_
              · go_simp
                refine hK.out _ _ hcur (fun hHeld => ?_)
                clear hK K hHeld
                (try simp only [Act.put, List.setIfInBounds_toArray, List.set_cons_zero, List.set_cons_succ])
                refine wpAnyH_done (by kernel_rfl) ?_ _
                refine NoPanic.normal ?_
                obtain ⟨rfl⟩ := hQ7
                (go_wp2_with fail)
                refine ⟨⟨k + 1, ca, _, Aa, by omega, rfl, by go_num, bthen hb0 hcur, HNew.out _ _ _ (oa.lower hb0.size)⟩, by simp [intOf]; omega⟩
              exact AllReadyH.nil
            exact AllReadyH.nil
          exact AllReadyH.nil
        exact AllReadyH.nil
      exact AllReadyH.nil
    · obtain rfl : k = s.size := by omega
      have htt : t.take s.size = t := List.take_of_length_le (by rw [HSL.out]; exact Nat.le_refl _)
      rw [htt] at hV
      have HF := As.mk (full_any D n Hnl.out.symm A c wr (ho.rd lenI) HDl.out hnc ho.none (by omega))
      rw [HDv.out, hV] at HF
      have hne : decide ((0 : Int) < (s.size : Int)) = decide (0 < s.size) := by simp
      have Hne := As.mk hne
      clear hV hD htt hnl hne
      go_wp2_with (go_at_call 41; (with_reducible refine HF.out.mono ?_); rintro e w2 ⟨v2, rfl, ho2, hb2⟩)
      go_ret2
      exact ⟨_, rfl, ⟨_, by first | rfl | simp, ho2.lower hb0.size⟩, bthen hb0 hb2⟩
end Go.Proofs.YtbdcjlikjpdhfaaDoor
