/- nat.Parse and tandemref01.Parse of a text that is not all digits. -/
import Derived.Test.YtbdcjlikjpdhfaaDoorRef7
namespace Go.Proofs.YtbdcjlikjpdhfaaDoor
open Go.RowKit Go.Proofs.YtbdcjlikjpdhfaaDoorL Go.Proofs.YtbdcjlikjpdhfaaDoorM
set_option linter.unusedVariables false
set_option linter.unusedSimpArgs false
theorem first_bad (l : List UInt8) (h : ¬ ∀ c ∈ l, isD c = true) : ∃ p, ∃ hp : p < l.length, isD (l[p]'hp) = false ∧ ∀ i (hi : i < p), isD (l[i]'(by omega)) = true := by
  induction l with
  | nil => exact absurd (fun c hc => nomatch hc) h
  | cons a l ih =>
    by_cases ha : isD a = true
    · have h2 : ¬ ∀ c ∈ l, isD c = true := fun hh => h (fun c hc => by
        rcases List.mem_cons.1 hc with rfl | hc
        · exact ha
        · exact hh c hc)
      obtain ⟨p, hp, h3, h4⟩ := ih h2
      refine ⟨p + 1, by simp only [List.length_cons]; omega, by simpa using h3, fun i hi => ?_⟩
      cases i with
      | zero => simpa using ha
      | succ i => simpa using h4 i (by omega)
    · exact ⟨0, by simp, by simpa using ha, fun i hi => absurd hi (Nat.not_lt_zero _)⟩
theorem first_badS (s : ByteArray) (h : ¬ ∀ c ∈ s.data.toList, isD c = true) : ∃ p, ∃ hp : p < s.size, isD (s[p]'hp) = false ∧ ∀ i (hi : i < p), isD (s[i]'(by omega)) = true := by
  obtain ⟨p, hp, h1, h2⟩ := first_bad _ h
  have hsl : s.data.toList.length = s.size := by rw [Array.length_toList]; rfl
  refine ⟨p, by omega, by simpa [ByteArray.getElem_eq_getElem_data] using h1, fun i hi => ?_⟩
  simpa [ByteArray.getElem_eq_getElem_data] using h2 i hi
set_option maxRecDepth 8000 in
set_option maxHeartbeats 4000000 in
theorem parse_no (s : ByteArray) (w : World) (hs : s.size ≤ 1073741824) (hd : ¬ ∀ c ∈ s.data.toList, isD c = true) :
    Calls Tryd.prog 19 #[.string s] w (Gives w fun v _ => v = .tuple #[.slice none 0 0, .bool false]) := by
  obtain ⟨p, hp, hbad, hgood⟩ := first_badS s hd
  have HG := As.mk hgood
  have HBr := As.mk (rune_no_digit s p hp hbad)
  clear hd hbad hgood
  go_enter Tryd.func19, Tryd.ntmps19
  go_wp2
  go_loopw [5] (fun _ wr => ∃ pos : Nat, pos ≤ p ∧ As (wr.heap[w.heap.size]? = some (.stringIter s pos)) ∧ Below w.heap.size w wr) (fun _ wr => s.size - wr.iterPos w.heap.size)
  case atStart => exact ⟨0, by omega, ⟨World.iter_heap w s 0⟩, (Below.refl _ _).alloc (Nat.le_refl _) _⟩
  case round =>
    obtain ⟨pos, hpos, hit, hb⟩ := hrel
    have hpos0 := As.mk (iterPos_of hit.out)
    by_cases hpp : pos < p
    · have hps : pos < s.size := by omega
      have hx := isD_of (HG.out pos hpp)
      have hnx := fun ty => Lib.run_next_ascii_at (P := Tryd.prog) wr w.heap.size s pos ty hit.out hps (by omega)
      obtain ⟨x, hxe⟩ : ∃ x, x = (s[pos]'hps).toNat := ⟨_, rfl⟩
      rw [← hxe] at hx hnx
      have hit2 := As.mk (Lib.iterAt_heap wr w.heap.size s pos (pos + 1) hit.out)
      have hb2 := iter_below (s := s) (pos := pos + 1) hb (Nat.le_refl _)
      obtain ⟨W1, hW1⟩ : ∃ W1, W1 = wr.iterAt w.heap.size s (pos + 1) := ⟨_, rfl⟩
      rw [← hW1] at hnx hit2 hb2
      have hx1 : ¬ (x : Int) < 48 := by omega
      have hx2 : ¬ (57 : Int) < (x : Int) := by omega
      clear hW1 hxe hit
      go_wp2
      go_roundw
      case rel => exact ⟨pos + 1, by omega, hit2, hb2⟩
      case measure => rw [iterPos_of hit2.out, hpos0.out]; omega
    · obtain rfl : pos = p := by omega
      have hnx := fun ty => Lib.run_next_any_at (P := Tryd.prog) wr w.heap.size s pos ty hit.out hp
      have hr := HBr.out
      obtain ⟨x, hxe⟩ : ∃ x, x = (Utf8.decode s pos).1 := ⟨_, rfl⟩
      have hb2 := iter_below (s := s) (pos := pos + (Utf8.decode s pos).2) hb (Nat.le_refl _)
      obtain ⟨W1, hW1⟩ : ∃ W1, W1 = wr.iterAt w.heap.size s (pos + (Utf8.decode s pos).2) := ⟨_, rfl⟩
      rw [← hW1] at hnx hb2
      rw [← hxe] at hnx hr
      clear hW1 hxe hit HBr HG
      by_cases hx48 : (x : Int) < 48
      · clear hr
        go_wp2
        go_ret2
        exact ⟨_, rfl, rfl, hb2⟩
      · have hx57 : (57 : Int) < (x : Int) := by omega
        clear hr
        go_wp2
        go_ret2
        exact ⟨_, rfl, rfl, hb2⟩
/- rParse_no -/
set_option maxRecDepth 8000 in
set_option maxHeartbeats 4000000 in
theorem rParse_no (s : ByteArray) (w : World) (hs : s.size ≤ 1073741824) (hd : ¬ ∀ c ∈ s.data.toList, isD c = true) :
    Calls Tryd.prog 20 #[.string s] w (Gives w fun v _ => v = .tuple #[.slice none 0 0, .bool false]) := by
  obtain ⟨p, hp, hbad, hgood⟩ := first_badS s hd
  clear hd
  have HG := As.mk hgood
  have HB := As.mk hbad
  obtain ⟨t, ht⟩ : ∃ t, t = s.data.toList := ⟨_, rfl⟩
  have hsl : s.data.toList.length = s.size := by rw [Array.length_toList]; rfl
  rw [← ht] at hsl
  have HSL := As.mk hsl
  have Ht := As.mk ht
  have HT : As (∀ k, k ≤ p → ∀ c ∈ t.take k, isD c = true) := ⟨fun k hk c hc => by
    obtain ⟨i, hi, rfl⟩ := List.getElem_of_mem hc
    have hi2 : i < k := by rw [List.length_take] at hi; omega
    have := hgood i (by omega)
    simpa [ByteArray.getElem_eq_getElem_data, ht] using this⟩
  clear hbad hgood
  have HLen : As (∀ k, k ≤ p → (digB 65536 (numV 0 (t.take k))).length ≤ k) := ⟨fun k hk => by
    refine digB_len_lt 65536 (by omega) k _ ?_
    have h1 := numV_lt0 (t.take k) (HT.out k hk)
    rw [List.length_take, hsl, Nat.min_eq_left (by omega)] at h1
    exact Nat.lt_of_lt_of_le h1 (Nat.pow_le_pow_left (by omega) k)⟩
  clear hsl ht
  go_enter Tryd.func20, Tryd.ntmps20
  go_wp2
  go_loopw [4, 5] (fun v u wr => ∃ (k c n : Nat) (A : Option Addr), k ≤ p ∧ v = .slice A n c ∧ u = .int .i64 (k : Int) ∧ Below w.heap.size w wr ∧ Ow encI 1 3 w.heap.size wr (.slice A n c) (digB 65536 (numV 0 (t.take k)))) (fun _ u _ => s.size - (intOf u).toNat)
  case atStart => exact ⟨0, 0, 0, none, by omega, rfl, rfl, Below.refl _ _, by rw [List.take_zero, numV_nil, digB_zero]; exact Ow.nil _ _ _ _ _⟩
  case round =>
    obtain ⟨k, c, n, A, hk, rfl, rfl, hb0, ho⟩ := hrel
    have hnl := ho.len_eq
    have hnk := HLen.out k hk
    obtain ⟨V, hV⟩ : ∃ V, V = numV 0 (t.take k) := ⟨_, rfl⟩
    obtain ⟨D, hD⟩ : ∃ D, D = digB 65536 V := ⟨_, rfl⟩
    rw [← hV, ← hD] at ho hnl hnk
    have HDl : As (∀ x ∈ D, x < 65536) := ⟨by rw [hD]; exact digB_lt _ (by omega) V⟩
    have HDv : As (valB 65536 D = V) := ⟨by rw [hD]; exact digB_val _ (by omega) V⟩
    have hnc : n ≤ c := by obtain ⟨A', c', e, h1, _⟩ := ho.form; simp only [Value.slice.injEq] at e; omega
    have Hnl := As.mk hnl
    have hn30 : n ≤ 1073741824 := by omega
    by_cases hkp : k < p
    · have h : k < s.size := by omega
      have hbyte := isD_of (HG.out k hkp)
      obtain ⟨x, hx⟩ : ∃ x, x = (s[k]'h).toNat := ⟨_, rfl⟩
      rw [← hx] at hbyte
      have hx1 : ¬ (x : Int) < 48 := by omega
      have hx2 : ¬ (57 : Int) < (x : Int) := by omega
      obtain ⟨d, hdd⟩ : ∃ d, d = x - 48 := ⟨_, rfl⟩
      have hd9 : d < 10 := by omega
      have ed : (x : Int) - 48 = (d : Int) := by omega
      have ed64 : IntKind.i64.wrap (d : Int) = (d : Int) := IntWalk.i64_in _ (by omega)
      have ed8 : IntKind.u8.wrap (d : Int) = (d : Int) := IntWalk.u8_in _ (by omega)
      have hcx : ((s[k]'h).toNat : Int) = (x : Int) := by rw [hx]
      obtain ⟨E, hE⟩ : ∃ E, E = digB 65536 (V * 10) := ⟨_, rfl⟩
      have hEl : E.length ≤ n + 1 := by
        rw [hE]
        refine digB_len_lt 65536 (by omega) _ _ ?_
        have h1 := lt_pow_len 65536 (by omega) V
        rw [← hD, ← hnl] at h1
        rw [Nat.pow_succ]
        exact Nat.mul_lt_mul_of_lt_of_le h1 (by omega) (by omega)
      have HMul : As (∀ (W : World) (gg : Nat) (BB : Blk W gg ([10].map valI) 3) (hb : Below wr.heap.size wr W), Calls Tryd.prog 45 #[.slice A n c, .slice (some ⟨gg, 0, none⟩) 1 1] W (Gives W fun v w' => Ow encI 1 3 W.heap.size w' v E)) := ⟨fun W gg BB hb => by
        have := rmul_any D [10] n 1 Hnl.out.symm rfl A (some ⟨gg, 0, none⟩) c 1 W ((ho.below hb).rd lenI) (BB.rdm encI_one) ⟨HDl.out, fun y hy => by simp only [List.mem_singleton] at hy; omega⟩ hnc (Nat.le_refl _) (by omega) (by omega)
        rwa [HDv.out, show valB 65536 [10] = 10 by decide, ← hE] at this⟩
      have HAdd : As (∀ (W : World) (Am : Option Addr) (cm gg base : Nat) (om : Ow encI 1 3 base W (.slice Am E.length cm) E) (hcm : E.length ≤ cm) (BB : Blk W gg ([d].map valI) 3), Calls Tryd.prog 39 #[.slice Am E.length cm, .slice (some ⟨gg, 0, none⟩) 1 1] W (Gives W fun v w' => Ow encI 1 3 W.heap.size w' v (digB 65536 (V * 10 + d)))) := ⟨fun W Am cm gg base om hcm BB => by
        have := radd_any E [d] E.length 1 rfl rfl Am (some ⟨gg, 0, none⟩) cm 1 W (om.rd lenI) (BB.rdm encI_one) (by rw [hE]; exact digB_lt _ (by omega) _) (fun y hy => by simp only [List.mem_singleton] at hy; omega) hcm (Nat.le_refl _) (by omega) (by omega)
        rwa [hE, digB_val 65536 (by omega), show valB 65536 [d] = d by simp [valB], ← hE] at this⟩
      have hVn : V * 10 + d = numV 0 (t.take (k + 1)) := by
        have hkt : k < t.length := by rw [HSL.out]; exact h
        rw [List.take_succ_eq_append_getElem hkt, numV_snoc, ← hV, hdd, hx]
        congr 3
        simp only [Ht.out, ByteArray.getElem_eq_getElem_data, Array.getElem_toList]
      have HNew : As (∀ (W : World) (Aa : Option Addr) (na ca : Nat), Ow encI 1 3 w.heap.size W (.slice Aa na ca) (digB 65536 (V * 10 + d)) → Ow encI 1 3 w.heap.size W (.slice Aa na ca) (digB 65536 (numV 0 (t.take (k + 1))))) := ⟨fun W Aa na ca f => by rw [← hVn]; exact f⟩
      replace HNew : As (∀ (W : World) (Aa : Option Addr) (ca : Nat) {na : Nat}, Ow encI 1 3 w.heap.size W (.slice Aa na ca) (digB 65536 (V * 10 + d)) → Ow encI 1 3 w.heap.size W (.slice Aa na ca) (digB 65536 (numV 0 (t.take (k + 1))))) := ⟨fun W Aa ca na f => HNew.out W Aa na ca f⟩
      clear hx hdd hE hVn hV hD hnl hnk
      go_wp2
      have hcur := (Below.refl wr.heap.size wr).drew
      refine wp_gen2 (fun Q7 hQ7 => ?_)
      refine wp_region_held_drew (S := fun W => Below wr.heap.size wr W) (by kernel_rfl) hcur (fun hHeld => ?_)
      clear hHeld
      refine wpAnyH_take (i := 0) (oi := _) (v := .slice A n c) rfl (by kernel_rfl) (by kernel_rfl) (by kernel_rfl) (fun _ _ _ h => h) (Or.inl ⟨by kernel_rfl, fun W hSw => by ((try dsimp only at hSw); go_simp; try (with_reducible rfl))⟩) hcur ?_
      (try simp only [Act.put, List.setIfInBounds_toArray, List.set_cons_zero, List.set_cons_succ])
      refine wpAnyH_take (i := 3) (oi := _) (v := .string s) rfl (by kernel_rfl) (by kernel_rfl) (by kernel_rfl) (fun _ _ _ h => h) (Or.inl ⟨by kernel_rfl, fun W hSw => by ((try dsimp only at hSw); go_simp; try (with_reducible rfl))⟩) hcur ?_
      (try simp only [Act.put, List.setIfInBounds_toArray, List.set_cons_zero, List.set_cons_succ])
      refine wpAnyH_take (i := 4) (oi := _) (v := .int .i64 (k : Int)) rfl (by kernel_rfl) (by kernel_rfl) (by kernel_rfl) (fun _ _ _ h => h) (Or.inl ⟨by kernel_rfl, fun W hSw => by ((try dsimp only at hSw); go_simp; try (with_reducible rfl))⟩) hcur ?_
      (try simp only [Act.put, List.setIfInBounds_toArray, List.set_cons_zero, List.set_cons_succ])
      refine wpAnyH_take (i := 5) (oi := _) (v := .int .u8 (x : Int)) rfl (by kernel_rfl) (by kernel_rfl) (by kernel_rfl) (fun _ _ _ h => h) (Or.inl ⟨by kernel_rfl, fun W hSw => by ((try dsimp only at hSw); go_simp; try (with_reducible rfl))⟩) hcur ?_
      (try simp only [Act.put, List.setIfInBounds_toArray, List.set_cons_zero, List.set_cons_succ])
      refine wpAnyH_take (i := 6) (oi := _) (v := .int .u8 (d : Int)) rfl (by kernel_rfl) (by kernel_rfl) (by kernel_rfl) (fun _ _ _ h => h) (Or.inl ⟨by kernel_rfl, fun W hSw => by ((try dsimp only at hSw); go_simp; try (with_reducible rfl))⟩) hcur ?_
      (try simp only [Act.put, List.setIfInBounds_toArray, List.set_cons_zero, List.set_cons_succ])
      refine wpAnyH_take (i := 7) (oi := _) (v := .int .i64 (d : Int)) rfl (by kernel_rfl) (by kernel_rfl) (by kernel_rfl) (fun _ _ _ h => h) (Or.inl ⟨by kernel_rfl, fun W hSw => by ((try dsimp only at hSw); go_simp; try (with_reducible rfl))⟩) hcur ?_
      (try simp only [Act.put, List.setIfInBounds_toArray, List.set_cons_zero, List.set_cons_succ])
      refine wpAnyH_ready (rs := [1, 8]) (by kernel_rfl) (by simp) ?_
      refine AllReadyH.cons (o := _) rfl (fun K hK => ?_) ?_
      · refine st_lit (v := fun g => .slice (some ⟨g, 0, none⟩) 1 1) 23 rfl (cs := [10].map valI) (t := 3) (by go_simp; try rfl) ?_; intro g23 wn hb B23 hg23; replace hcur := bthen hcur hb
        refine hK.out _ _ hcur (fun hHeld => ?_)
        clear hK K hHeld
        (try simp only [Act.put, List.setIfInBounds_toArray, List.set_cons_zero, List.set_cons_succ])
        refine wpAnyH_ready (rs := [2, 8]) (by kernel_rfl) (by simp) ?_
        refine AllReadyH.cons (o := _) rfl (fun K hK => ?_) ?_
        · go_simp; (with_reducible refine (HMul.out _ _ B23 hcur).mono ?_); rintro e wn ⟨vm, rfl, om, hb⟩; obtain ⟨Am, cm, rfl, hm1, hm2⟩ := om.form; replace hcur := bthen hcur hb; go_wp2_with fail
          refine hK.out _ _ hcur (fun hHeld => ?_)
          clear hK K hHeld
          (try simp only [Act.put, List.setIfInBounds_toArray, List.set_cons_zero, List.set_cons_succ])
          refine wpAnyH_ready (rs := [8]) (by kernel_rfl) (by simp) ?_
          refine AllReadyH.cons (o := _) rfl (fun K hK => ?_) ?_
          · refine st_lit (v := fun g => .slice (some ⟨g, 0, none⟩) 1 1) 30 rfl (cs := [d].map valI) (t := 3) (by go_simp; try rfl) ?_; intro g30 wn hb B30 hg30; replace om := om.below hb; replace hcur := bthen hcur hb
            refine hK.out _ _ hcur (fun hHeld => ?_)
            clear hK K hHeld
            (try simp only [Act.put, List.setIfInBounds_toArray, List.set_cons_zero, List.set_cons_succ])
            refine wpAnyH_ready (rs := [9]) (by kernel_rfl) (by simp) ?_
            refine AllReadyH.cons (o := _) rfl (fun K hK => ?_) ?_
            · go_simp; (with_reducible refine (HAdd.out _ Am cm _ _ om hm1 B30).mono ?_); rintro e wn ⟨va, rfl, oa, hb⟩; obtain ⟨Aa, ca, rfl, ha1, ha2⟩ := oa.form; replace oa := oa.lower hcur.size; replace hcur := bthen hcur hb; go_wp2_with fail
              refine hK.out _ _ hcur (fun hHeld => ?_)
              clear hK K hHeld
              (try simp only [Act.put, List.setIfInBounds_toArray, List.set_cons_zero, List.set_cons_succ])
              refine wpAnyH_ready (rs := [10]) (by kernel_rfl) (by simp) ?_
              refine AllReadyH.cons (o := _) rfl (fun K hK => ?_) ?_
              · go_simp
                refine hK.out _ _ hcur (fun hHeld => ?_)
                clear hK K hHeld
                (try simp only [Act.put, List.setIfInBounds_toArray, List.set_cons_zero, List.set_cons_succ])
                refine wpAnyH_done (by kernel_rfl) ?_ _
                refine NoPanic.normal ?_
                obtain ⟨rfl⟩ := hQ7
                (go_wp2_with fail)
                refine ⟨⟨k + 1, ca, _, Aa, by omega, rfl, by go_num, bthen hb0 hcur, HNew.out _ _ _ (oa.lower hb0.size)⟩, by simp [intOf]; omega⟩
              exact AllReadyH.nil
            exact AllReadyH.nil
          exact AllReadyH.nil
        refine AllReadyH.cons (o := _) rfl (fun K hK => ?_) ?_
        · refine st_lit (v := fun g => .slice (some ⟨g, 0, none⟩) 1 1) 30 rfl (cs := [d].map valI) (t := 3) (by go_simp; try rfl) ?_; intro g30 wn hb B30 hg30; replace B23 := B23.below hb; replace hcur := bthen hcur hb
          refine hK.out _ _ hcur (fun hHeld => ?_)
          clear hK K hHeld
          (try simp only [Act.put, List.setIfInBounds_toArray, List.set_cons_zero, List.set_cons_succ])
          refine wpAnyH_ready (rs := [2]) (by kernel_rfl) (by simp) ?_
          refine AllReadyH.cons (o := _) rfl (fun K hK => ?_) ?_
          · go_simp; (with_reducible refine (HMul.out _ _ B23 hcur).mono ?_); rintro e wn ⟨vm, rfl, om, hb⟩; obtain ⟨Am, cm, rfl, hm1, hm2⟩ := om.form; replace B30 := B30.below hb; replace hcur := bthen hcur hb; go_wp2_with fail
            refine hK.out _ _ hcur (fun hHeld => ?_)
            clear hK K hHeld
            (try simp only [Act.put, List.setIfInBounds_toArray, List.set_cons_zero, List.set_cons_succ])
            refine wpAnyH_ready (rs := [9]) (by kernel_rfl) (by simp) ?_
            refine AllReadyH.cons (o := _) rfl (fun K hK => ?_) ?_
            · go_simp; (with_reducible refine (HAdd.out _ Am cm _ _ om hm1 B30).mono ?_); rintro e wn ⟨va, rfl, oa, hb⟩; obtain ⟨Aa, ca, rfl, ha1, ha2⟩ := oa.form; replace oa := oa.lower hcur.size; replace hcur := bthen hcur hb; go_wp2_with fail
              refine hK.out _ _ hcur (fun hHeld => ?_)
              clear hK K hHeld
              (try simp only [Act.put, List.setIfInBounds_toArray, List.set_cons_zero, List.set_cons_succ])
              refine wpAnyH_ready (rs := [10]) (by kernel_rfl) (by simp) ?_
              refine AllReadyH.cons (o := _) rfl (fun K hK => ?_) ?_
              · go_simp
                refine hK.out _ _ hcur (fun hHeld => ?_)
                clear hK K hHeld
                (try simp only [Act.put, List.setIfInBounds_toArray, List.set_cons_zero, List.set_cons_succ])
                refine wpAnyH_done (by kernel_rfl) ?_ _
                refine NoPanic.normal ?_
                obtain ⟨rfl⟩ := hQ7
                (go_wp2_with fail)
                refine ⟨⟨k + 1, ca, _, Aa, by omega, rfl, by go_num, bthen hb0 hcur, HNew.out _ _ _ (oa.lower hb0.size)⟩, by simp [intOf]; omega⟩
              exact AllReadyH.nil
            exact AllReadyH.nil
          exact AllReadyH.nil
        exact AllReadyH.nil
      refine AllReadyH.cons (o := _) rfl (fun K hK => ?_) ?_
      · refine st_lit (v := fun g => .slice (some ⟨g, 0, none⟩) 1 1) 30 rfl (cs := [d].map valI) (t := 3) (by go_simp; try rfl) ?_; intro g30 wn hb B30 hg30; replace hcur := bthen hcur hb
        refine hK.out _ _ hcur (fun hHeld => ?_)
        clear hK K hHeld
        (try simp only [Act.put, List.setIfInBounds_toArray, List.set_cons_zero, List.set_cons_succ])
        refine wpAnyH_ready (rs := [1]) (by kernel_rfl) (by simp) ?_
        refine AllReadyH.cons (o := _) rfl (fun K hK => ?_) ?_
        · refine st_lit (v := fun g => .slice (some ⟨g, 0, none⟩) 1 1) 23 rfl (cs := [10].map valI) (t := 3) (by go_simp; try rfl) ?_; intro g23 wn hb B23 hg23; replace B30 := B30.below hb; replace hcur := bthen hcur hb
          refine hK.out _ _ hcur (fun hHeld => ?_)
          clear hK K hHeld
          (try simp only [Act.put, List.setIfInBounds_toArray, List.set_cons_zero, List.set_cons_succ])
          refine wpAnyH_ready (rs := [2]) (by kernel_rfl) (by simp) ?_
          refine AllReadyH.cons (o := _) rfl (fun K hK => ?_) ?_
          · go_simp; (with_reducible refine (HMul.out _ _ B23 hcur).mono ?_); rintro e wn ⟨vm, rfl, om, hb⟩; obtain ⟨Am, cm, rfl, hm1, hm2⟩ := om.form; replace B30 := B30.below hb; replace hcur := bthen hcur hb; go_wp2_with fail
            refine hK.out _ _ hcur (fun hHeld => ?_)
            clear hK K hHeld
            (try simp only [Act.put, List.setIfInBounds_toArray, List.set_cons_zero, List.set_cons_succ])
            refine wpAnyH_ready (rs := [9]) (by kernel_rfl) (by simp) ?_
            refine AllReadyH.cons (o := _) rfl (fun K hK => ?_) ?_
            · go_simp; (with_reducible refine (HAdd.out _ Am cm _ _ om hm1 B30).mono ?_); rintro e wn ⟨va, rfl, oa, hb⟩; obtain ⟨Aa, ca, rfl, ha1, ha2⟩ := oa.form; replace oa := oa.lower hcur.size; replace hcur := bthen hcur hb; go_wp2_with fail
              refine hK.out _ _ hcur (fun hHeld => ?_)
              clear hK K hHeld
              (try simp only [Act.put, List.setIfInBounds_toArray, List.set_cons_zero, List.set_cons_succ])
              refine wpAnyH_ready (rs := [10]) (by kernel_rfl) (by simp) ?_
              refine AllReadyH.cons (o := _) rfl (fun K hK => ?_) ?_
              · go_simp
                refine hK.out _ _ hcur (fun hHeld => ?_)
                clear hK K hHeld
                (try simp only [Act.put, List.setIfInBounds_toArray, List.set_cons_zero, List.set_cons_succ])
                refine wpAnyH_done (by kernel_rfl) ?_ _
                refine NoPanic.normal ?_
                obtain ⟨rfl⟩ := hQ7
                (go_wp2_with fail)
                refine ⟨⟨k + 1, ca, _, Aa, by omega, rfl, by go_num, bthen hb0 hcur, HNew.out _ _ _ (oa.lower hb0.size)⟩, by simp [intOf]; omega⟩
              exact AllReadyH.nil
            exact AllReadyH.nil
          exact AllReadyH.nil
        exact AllReadyH.nil
      exact AllReadyH.nil
    · obtain rfl : k = p := by omega
      have hbyte := isD_not HB.out
      obtain ⟨x, hx⟩ : ∃ x, x = (s[k]'hp).toNat := ⟨_, rfl⟩
      rw [← hx] at hbyte
      have hcx : ((s[k]'hp).toNat : Int) = (x : Int) := by rw [hx]
      clear hx hD hV hnl hnk
      by_cases hx48 : (x : Int) < 48
      · clear hbyte
        go_wp2
        go_ret2
        exact ⟨_, rfl, rfl, hb0⟩
      · have hx57 : (57 : Int) < (x : Int) := by omega
        clear hbyte
        go_wp2
        go_ret2
        exact ⟨_, rfl, rfl, hb0⟩
end Go.Proofs.YtbdcjlikjpdhfaaDoor
