/- tandemref01: cmp, sub, Cmp, Sub: comparison and difference. -/
import Derived.Test.YtigoofeodbbbhaaDoorNat5
namespace Go.Proofs.YtigoofeodbbbhaaDoor
open Go.RowKit Go.Proofs.YtigoofeodbbbhaaDoorL Go.Proofs.YtigoofeodbbbhaaDoorM
set_option linter.unusedVariables false
set_option linter.unusedSimpArgs false
set_option maxHeartbeats 1000000 in
theorem rcmp_any (l m : List Nat) (n n2 : Nat) (hn : l.length = n) (hn2 : m.length = n2) (A A2 : Option Addr) (c c2 : Nat) (w : World) (hr : Rd encI 1 w A l) (hr2 : Rd encI 1 w A2 m) (hl : (∀ x ∈ l, x < 65536) ∧ (∀ x ∈ m, x < 65536)) (hc : n ≤ c) (hc2 : n2 ≤ c2) (hA : A = none → c = 0) (hA2 : A2 = none → c2 = 0) (hm : n ≤ 8796093022208) (hm2 : n2 ≤ 8796093022208) :
    Calls Tryd.prog 83 #[.slice A n c, .slice A2 n2 c2] w (Gives w fun v w' => v = .int .i64 (cmpN (valB 65536 l) (valB 65536 m))) := by
  subst hn hn2
  obtain ⟨V, hV⟩ : ∃ V, V = valB 65536 l := ⟨_, rfl⟩
  obtain ⟨U, hU⟩ : ∃ U, U = valB 65536 m := ⟨_, rfl⟩
  rw [← hV, ← hU]
  obtain ⟨L, hL⟩ : ∃ L, L = digB 65536 V := ⟨_, rfl⟩
  obtain ⟨M, hM⟩ : ∃ M, M = digB 65536 U := ⟨_, rfl⟩
  have htl : trimL l = L := by rw [hL, hV]; exact trimL_dig 65536 (by omega) l hl.1
  have htm : trimL m = M := by rw [hM, hU]; exact trimL_dig 65536 (by omega) m hl.2
  have hLle : L.length ≤ l.length := by rw [← htl]; exact trimL_le l
  have hMle : M.length ≤ m.length := by rw [← htm]; exact trimL_le m
  have T1 := As.mk (htl ▸ rtrim_any l l.length rfl A c w hr hc hA (by omega))
  have T2 := As.mk (fun w1 (hb : Below w.heap.size w w1) => htm ▸ rtrim_any m m.length rfl A2 c2 w1 (hr2.below hb) hc2 hA2 (by omega))
  have HV : As (valB 65536 L = V) := ⟨by rw [hL]; exact digB_val _ (by omega) V⟩
  have HU : As (valB 65536 M = U) := ⟨by rw [hM]; exact digB_val _ (by omega) U⟩
  have HL : As (∀ x ∈ L, x < 65536) := ⟨by rw [hL]; exact digB_lt _ (by omega) V⟩
  have HM : As (∀ x ∈ M, x < 65536) := ⟨by rw [hM]; exact digB_lt _ (by omega) U⟩
  have Hlt : As (L.length < M.length → V < U) := ⟨fun h => val_lt_len 65536 (by omega) V U (by rw [← hL, ← hM]; exact h)⟩
  have Hgt : As (M.length < L.length → U < V) := ⟨fun h => val_lt_len 65536 (by omega) U V (by rw [← hL, ← hM]; exact h)⟩
  clear htl htm hV hU hL hM hl
  by_cases c1 : L.length < M.length
  · have z0 : decide ((L.length : Int) < (M.length : Int)) = true := by simp; omega
    have z1 : decide (L.length < M.length) = true := by simp; omega
    have z2 : ((L.length : Int) == (M.length : Int)) = false := by simp; omega
    have z3 : ((L.length : Int) != (M.length : Int)) = true := by simp; omega
    have HR := As.mk (cmpN_lt (Hlt.out c1))
    clear c1
    go_enter Tryd.func83, Tryd.ntmps83
    go_wp2_with (first
      | (go_at_call 82; (with_reducible refine T1.out.mono ?_); rintro e w1 ⟨v1, rfl, ho1, hb1⟩; obtain ⟨A1, k1, rfl, h11, h12⟩ := ho1.form)
      | (go_at_call 82; (with_reducible refine (T2.out _ hb1).mono ?_); rintro e w2 ⟨v2, rfl, ho2, hb2⟩; obtain ⟨A3, k3, rfl, h31, h32⟩ := ho2.form; have hb := bthen hb1 hb2))
    go_ret
    exact ⟨_, rfl, by rw [HR.out]; rfl, hb⟩
  · by_cases c2' : M.length < L.length
    · have z0 : decide ((L.length : Int) < (M.length : Int)) = false := by simp; omega
      have z1 : decide (L.length < M.length) = false := by simp; omega
      have z2 : ((L.length : Int) == (M.length : Int)) = false := by simp; omega
      have z3 : ((L.length : Int) != (M.length : Int)) = true := by simp; omega
      have HR := As.mk (cmpN_gt (Hgt.out c2'))
      clear c1 c2'
      go_enter Tryd.func83, Tryd.ntmps83
      go_wp2_with (first
        | (go_at_call 82; (with_reducible refine T1.out.mono ?_); rintro e w1 ⟨v1, rfl, ho1, hb1⟩; obtain ⟨A1, k1, rfl, h11, h12⟩ := ho1.form)
        | (go_at_call 82; (with_reducible refine (T2.out _ hb1).mono ?_); rintro e w2 ⟨v2, rfl, ho2, hb2⟩; obtain ⟨A3, k3, rfl, h31, h32⟩ := ho2.form; have hb := bthen hb1 hb2))
      go_ret
      exact ⟨_, rfl, by rw [HR.out]; rfl, hb⟩
    · have hLM : M.length = L.length := by omega
      have HLM := As.mk hLM
      have z2 : ((L.length : Int) == (L.length : Int)) = true := by simp
      clear c1 c2' Hlt Hgt
      go_enter Tryd.func83, Tryd.ntmps83
      go_wp2_with (first
        | (go_at_call 82; (with_reducible refine T1.out.mono ?_); rintro e w1 ⟨v1, rfl, ho1, hb1⟩; obtain ⟨A1, k1, rfl, h11, h12⟩ := ho1.form)
        | (go_at_call 82; (with_reducible refine (T2.out _ hb1).mono ?_); rintro e w2 ⟨v2, rfl, ho2, hb2⟩; obtain ⟨A3, k3, rfl, h31, h32⟩ := ho2.form; have hb := bthen hb1 hb2; have hrL := (ho1.below hb2).rd lenI; have hrM := ho2.rd lenI; clear ho1 ho2 hb1 hb2; rw [HLM.out] at h31; rw [HLM.out]))
      clear hLM
      go_loopw [5] (fun v wr => ∃ k : Nat, k ≤ L.length ∧ v = .int .i64 ((k : Int) - 1) ∧ As (L.drop k = M.drop k) ∧ Below w2.heap.size w2 wr) (fun v _ => (intOf v + 1).toNat)
      case atStart => exact ⟨L.length, Nat.le_refl _, by go_num, ⟨by rw [List.drop_length, ← HLM.out, List.drop_length]⟩, Below.refl _ _⟩
      case round =>
        obtain ⟨k, hk, rfl, hd, hbq⟩ := hrel
        cases k with
        | zero =>
          have HR : As (cmpN V U = 0) := ⟨cmpN_eq (by have := hd.out; rw [List.drop_zero, List.drop_zero] at this; rw [← HV.out, ← HU.out, this])⟩
          go_wp2
          go_ret
          exact ⟨_, rfl, by rw [HR.out]; rfl, bthen hb hbq⟩
        | succ n =>
          have hnM : n < M.length := by have := HLM.out; omega
          obtain ⟨b, off, rfl⟩ := hrL.get (ne_nil_of_lt (i := n) (by omega))
          obtain ⟨b2, off2, rfl⟩ := hrM.get (ne_nil_of_lt (i := n) (by omega))
          have hcell := Rd.i (hrL.below hbq) n (by omega)
          have hcell2 := Rd.i (hrM.below hbq) n hnM
          have hval := val_lt_at 65536 (by omega) L M n HL.out (by omega) hnM hd.out
          have hval2 := val_lt_at 65536 (by omega) M L n HM.out hnM (by omega) hd.out.symm
          have hdr1 := drop_cons_of_lt L n (by omega)
          have hdr2 := drop_cons_of_lt M n hnM
          rw [HV.out, HU.out] at hval
          rw [HV.out, HU.out] at hval2
          obtain ⟨x, hx⟩ : ∃ x, x = L[n] := ⟨_, rfl⟩
          obtain ⟨y, hy⟩ : ∃ y, y = M[n] := ⟨_, rfl⟩
          rw [← hx] at hcell hdr1
          rw [← hy] at hcell2 hdr2
          rw [← hx, ← hy] at hval hval2
          have Hval := As.mk hval
          have Hval2 := As.mk hval2
          have Hd1 := As.mk hdr1
          have Hd2 := As.mk hdr2
          have hn1 : n < L.length := by omega
          have hnc : n < k1 := by omega
          have hnc2 : n < k3 := by omega
          clear hx hy hval hval2 hdr1 hdr2 hnM
          rcases Nat.lt_trichotomy x y with h1 | h1 | h1
          · have HR := As.mk (cmpN_lt (Hval.out h1))
            have z5 : decide ((x : Int) < (y : Int)) = true := by simp; omega
            have z6 : decide (x < y) = true := by simp; omega
            clear h1
            go_wp2
            go_quiet (fail)
            go_wp2
            go_ret
            exact ⟨_, rfl, by rw [HR.out]; rfl, drew_below (bthen hb hbq) _⟩
          · subst h1
            have Hd3 : As (L.drop n = M.drop n) := ⟨by rw [Hd1.out, Hd2.out, hd.out]⟩
            have z5 : decide ((x : Int) < (x : Int)) = false := by simp
            go_wp2
            go_quiet (fail)
            go_wp2
            go_quiet (fail)
            go_wp2
            go_roundw
            case rel => exact ⟨n, by omega, by go_num, Hd3, drew_below hbq _⟩
            case measure => simp [intOf]
          · have HR := As.mk (cmpN_gt (Hval2.out h1))
            have z5 : decide ((x : Int) < (y : Int)) = false := by simp; omega
            have z6 : decide (x < y) = false := by simp; omega
            have z7 : decide ((y : Int) < (x : Int)) = true := by simp; omega
            have z8 : decide (y < x) = true := by simp; omega
            clear h1
            go_wp2
            go_quiet (fail)
            go_wp2
            go_quiet (fail)
            go_wp2
            go_ret
            exact ⟨_, rfl, by rw [HR.out]; rfl, drew_below (drew_below (bthen hb hbq) _) _⟩
set_option maxHeartbeats 1000000 in
theorem rsub_any (l m : List Nat) (n n2 : Nat) (hn : l.length = n) (hn2 : m.length = n2) (A A2 : Option Addr) (c c2 : Nat) (w : World) (hr : Rd encI 1 w A l) (hr2 : Rd encI 1 w A2 m) (hl : (∀ x ∈ l, x < 65536) ∧ (∀ x ∈ m, x < 65536)) (hc : n ≤ c) (hc2 : n2 ≤ c2) (hm : n ≤ 8796093022208) (hmn : n2 ≤ n) (hle : valB 65536 m ≤ valB 65536 l) :
    Calls Tryd.prog 85 #[.slice A n c, .slice A2 n2 c2] w (Gives w fun v w' => Ow encI 1 3 w.heap.size w' v (digB 65536 (valB 65536 l - valB 65536 m))) := by
  subst hn hn2
  have HL := As.mk hl
  have Hle := As.mk hle
  clear hl hle
  go_enter Tryd.func85, Tryd.ntmps85
  go_wp2
  go_loopw [5, 6, 7, 8] (fun v y u z wr => ∃ k cy : Nat, ∃ S : List Nat, k ≤ l.length ∧ cy ≤ 1 ∧ S.length = k ∧ y = .int .i64 (cy : Int) ∧ u = .int .i64 (k : Int) ∧ As (∀ x ∈ S, x < 65536) ∧ As (valB 65536 S + valB 65536 (m.take k) = valB 65536 (l.take k) + 65536 ^ k * cy) ∧ Below w.heap.size w wr ∧ Ow encI 1 3 w.heap.size wr v S) (fun v y u z _ => l.length - (intOf u).toNat)
  case atStart => exact ⟨0, 0, [], by omega, by omega, rfl, rfl, rfl, ⟨by simp⟩, ⟨by simp [valB]⟩, Below.refl _ _, Ow.nil _ _ _ _ _⟩
  case round =>
    obtain ⟨k, cy, S, hk, hcy, hS, rfl, rfl, hSl, hV, hb, ho⟩ := hrel
    have HB := As.mk (show (S.length + 1) * 8 ≤ 140737488355328 from by rw [hS]; omega)
    have HM := As.mk (show S.length + 1 ≤ maxLen from by rw [hS]; simp only [maxLen]; omega)
    have HS := As.mk hS
    clear hS
    by_cases h : k < l.length
    · obtain ⟨b, off, rfl⟩ := hr.get (ne_nil_of_lt h)
      have hd := (Below.refl wr.heap.size wr).drew
      have hcell := Rd.i (hr.below (hb.trans (hd.mono hb.size))) k h
      have hx := HL.out.1 _ (List.getElem_mem h)
      have hgx := getD_of_lt h
      obtain ⟨x, hxe⟩ : ∃ x, x = l[k] := ⟨_, rfl⟩
      rw [← hxe] at hcell hx hgx
      have hy := getD_lt 65536 (by omega) m HL.out.2 k
      have hat := fun w1 (hb1 : Below w.heap.size w w1) => at_any m m.length rfl A2 c2 k w1 (hr2.below hb1) hc2 (by omega) (by omega)
      obtain ⟨y, hye⟩ : ∃ y, y = m.getD k 0 := ⟨_, rfl⟩
      rw [← hye] at hy
      simp only [← hye] at hat
      have Hat := As.mk hat
      have hbd := hb.trans (hd.mono hb.size)
      have hod := ho.below hd
      by_cases hh : y + cy ≤ x
      · obtain ⟨d, hdd⟩ : ∃ d, d = x - y - cy := ⟨_, rfl⟩
        have hst := As.mk (sub_step 65536 l m S k cy d 0 HS.out hV.out (by rw [hgx, ← hye]; omega))
        have hd2 : d < 65536 := by omega
        have e0 : (x : Int) - (y : Int) - (cy : Int) = (d : Int) := by omega
        have z1 : decide ((d : Int) < 0) = false := by simp
        have ew1 : IntKind.i64.wrap ((x : Int) - (y : Int)) = (x : Int) - (y : Int) := IntWalk.i64_in _ (by omega)
        have ew2 : IntKind.i64.wrap ((x : Int) - (y : Int) - (cy : Int)) = (d : Int) := by rw [e0]; exact IntWalk.i64_in _ (by omega)
        have ew3 : IntKind.i64.wrap (d : Int) = (d : Int) := IntWalk.i64_in _ (by omega)
        have hS2 := As.mk (snoc_lt hSl.out hd2)
        clear hxe hgx hye hat hdd hh hV hSl hb ho
        go_wp2
        go_region_held3 (fun w' => w'.cell? ⟨b, off + k, none⟩ = some (.int .i64 (x : Nat))) (first | assumption) (first
          | (go_at_call 99; (with_reducible refine (Hat.out _ hbd).mono ?_); rintro e w2 ⟨rfl, rfl⟩))
        generalize wr.drew = wd at hbd hod ⊢
        go_wp2_with (first
          | ((with_reducible refine g_dst 31 ?_); go_must (refine ev_lit (v := fun g => .slice (some ⟨g, 0, none⟩) 1 1) 31 rfl (cs := [valI d]) (t := 3) (by go_simp; rfl) ?_); intro g2 w2 hb2 B2 hg2; replace hod := hod.below hb2; have hbw2 := bthen hbd hb2; clear hb2)
          | ((with_reducible refine g_dst 32 ?_); go_must (refine ev_append 32 rfl Tryd.underlying80 infoI rfl (by decide) rfl hod rfl rfl (B2.rdm (l := [d]) encI_one) lenI oneI (fun h => by cases h) HB.out HM.out hbw2.size ?_); intro v3 w3 ho3 hg3; have hbw3 := hod.grown hbw2 hg3 (Nat.le_refl _) hbw2.size))
        go_roundw
        case rel => exact ⟨k + 1, 0, S ++ [d], by omega, by omega, by rw [List.length_append, HS.out]; rfl, by go_num, by go_num, hS2, hst, hbw3, ho3⟩
        case measure => simp [intOf]; omega
      · obtain ⟨d, hdd⟩ : ∃ d, d = x + 65536 - y - cy := ⟨_, rfl⟩
        have hst := As.mk (sub_step 65536 l m S k cy d 1 HS.out hV.out (by rw [hgx, ← hye]; omega))
        have hd2 : d < 65536 := by omega
        have e0 : (x : Int) - (y : Int) - (cy : Int) + 65536 = (d : Int) := by omega
        have z1 : decide ((x : Int) - (y : Int) - (cy : Int) < 0) = true := by simp; omega
        have ew1 : IntKind.i64.wrap ((x : Int) - (y : Int)) = (x : Int) - (y : Int) := IntWalk.i64_in _ (by omega)
        have ew2 : IntKind.i64.wrap ((x : Int) - (y : Int) - (cy : Int)) = (x : Int) - (y : Int) - (cy : Int) := IntWalk.i64_in _ (by omega)
        have ew3 : IntKind.i64.wrap (d : Int) = (d : Int) := IntWalk.i64_in _ (by omega)
        have hS2 := As.mk (snoc_lt hSl.out hd2)
        clear hxe hgx hye hat hdd hh hV hSl hb ho
        go_wp2
        go_region_held3 (fun w' => w'.cell? ⟨b, off + k, none⟩ = some (.int .i64 (x : Nat))) (first | assumption) (first
          | (go_at_call 99; (with_reducible refine (Hat.out _ hbd).mono ?_); rintro e w2 ⟨rfl, rfl⟩))
        generalize wr.drew = wd at hbd hod ⊢
        go_wp2_with (first
          | ((with_reducible refine g_dst 31 ?_); go_must (refine ev_lit (v := fun g => .slice (some ⟨g, 0, none⟩) 1 1) 31 rfl (cs := [valI d]) (t := 3) (by go_simp; rfl) ?_); intro g2 w2 hb2 B2 hg2; replace hod := hod.below hb2; have hbw2 := bthen hbd hb2; clear hb2)
          | ((with_reducible refine g_dst 32 ?_); go_must (refine ev_append 32 rfl Tryd.underlying80 infoI rfl (by decide) rfl hod rfl rfl (B2.rdm (l := [d]) encI_one) lenI oneI (fun h => by cases h) HB.out HM.out hbw2.size ?_); intro v3 w3 ho3 hg3; have hbw3 := hod.grown hbw2 hg3 (Nat.le_refl _) hbw2.size))
        go_roundw
        case rel => exact ⟨k + 1, 1, S ++ [d], by omega, by omega, by rw [List.length_append, HS.out]; rfl, by go_num, by go_num, hS2, hst, hbw3, ho3⟩
        case measure => simp [intOf]; omega
    · have hkl : k = l.length := by omega
      subst hkl
      have hv := hV.out
      rw [List.take_of_length_le (Nat.le_refl _), List.take_of_length_le (i := l.length) hmn] at hv
      have hv2 := sub_end 65536 (by omega) S _ _ cy hSl.out (by rw [HS.out]; exact hv) Hle.out
      have htr : trimL S = digB 65536 (valB 65536 l - valB 65536 m) := by rw [trimL_dig 65536 (by omega) _ hSl.out, hv2]
      have Htr := As.mk htr
      obtain ⟨A', c', rfl, h1, h2⟩ := ho.form
      have hrd := ho.rd lenI
      have hn := ho.none
      clear htr hv hv2 hV hSl
      go_wp2_with (go_at_call 82; (with_reducible refine (rtrim_any S _ rfl _ _ _ hrd h1 hn (by rw [HS.out]; omega)).mono ?_); rintro e w2 ⟨v2, rfl, ho2, hb2⟩)
      go_ret
      exact ⟨_, rfl, by rw [← Htr.out]; exact ho2.lower hb.size, bthen hb hb2⟩
theorem half_len3 (l : List Nat) (h : ∀ x ∈ l, x < 4294967296) (hl : l.length ≤ 274877906944) : (digB 65536 (valB 4294967296 l)).length ≤ 549755813888 := by
  rw [← trim_halves l h]
  refine Nat.le_trans (trimL_le _) ?_
  rw [halves_len]; omega
set_option maxHeartbeats 400000 in
theorem rCmp_any (l m : List Nat) (A A2 : Option Addr) (c c2 : Nat) (w : World) (h : Sl.Good ⟨A, c, l⟩ w) (h2 : Sl.Good ⟨A2, c2, m⟩ w) :
    Calls Tryd.prog 98 #[.slice A l.length c, .slice A2 m.length c2] w (Gives w fun v w' => v = .int .i64 (cmpN (valB 4294967296 l) (valB 4294967296 m))) := by
  obtain ⟨V, hV⟩ : ∃ V, V = valB 4294967296 l := ⟨_, rfl⟩
  obtain ⟨U, hU⟩ : ∃ U, U = valB 4294967296 m := ⟨_, rfl⟩
  have q1 := half_len l h.lt h.max
  have q2 := half_len m h2.lt h2.max
  have H1 := As.mk (half_any l _ rfl A c w h.rd h.lt h.cap (Nat.le_trans h.max (by omega)))
  have H2 := As.mk (fun w1 (hb : Below w.heap.size w w1) => half_any m _ rfl A2 c2 w1 (h2.rd.below hb) h2.lt h2.cap (Nat.le_trans h2.max (by omega)))
  rw [← hV] at H1 q1 ⊢
  rw [← hU] at H2 q2 ⊢
  obtain ⟨L, hL⟩ : ∃ L, L = digB 65536 V := ⟨_, rfl⟩
  obtain ⟨M, hM⟩ : ∃ M, M = digB 65536 U := ⟨_, rfl⟩
  rw [← hL] at H1 q1
  rw [← hM] at H2 q2
  have HV : As (valB 65536 L = V) := ⟨by rw [hL]; exact digB_val _ (by omega) V⟩
  have HU : As (valB 65536 M = U) := ⟨by rw [hM]; exact digB_val _ (by omega) U⟩
  have HL : As ((∀ x ∈ L, x < 65536) ∧ (∀ x ∈ M, x < 65536)) := ⟨by rw [hL]; exact digB_lt _ (by omega) V, by rw [hM]; exact digB_lt _ (by omega) U⟩
  clear hV hU hL hM
  go_enter Tryd.func98, Tryd.ntmps98
  go_wp2_with (first
    | (go_at_call 81; (with_reducible refine H1.out.mono ?_); rintro e w1 ⟨v1, rfl, ho1, hb1⟩; obtain ⟨A1, k1, rfl, h11, h12⟩ := ho1.form)
    | (go_at_call 81; (with_reducible refine (H2.out _ hb1).mono ?_); rintro e w2 ⟨v2, rfl, ho2, hb2⟩; obtain ⟨A3, k3, rfl, h31, h32⟩ := ho2.form; have hb := bthen hb1 hb2; have ho12 := ho1.below hb2)
    | (go_at_call 83; (with_reducible refine (rcmp_any L M _ _ rfl rfl _ _ _ _ _ (ho12.rd lenI) (ho2.rd lenI) HL.out h11 h31 ho12.none ho2.none (by omega) (by omega)).mono ?_); rintro e w3 ⟨v3, rfl, rfl, hb3⟩))
  go_ret
  exact ⟨_, rfl, by rw [HV.out, HU.out]; rfl, bthen hb hb3⟩
set_option maxHeartbeats 400000 in
theorem rSub_any (l m : List Nat) (A A2 : Option Addr) (c c2 : Nat) (w : World) (h : Sl.Good ⟨A, c, l⟩ w) (h2 : Sl.Good ⟨A2, c2, m⟩ w) :
    Calls Tryd.prog 72 #[.slice A l.length c, .slice A2 m.length c2] w (Gives w fun v w' => (valB 4294967296 l < valB 4294967296 m → v = .tuple #[.slice none 0 0, .bool false]) ∧
      (valB 4294967296 m ≤ valB 4294967296 l → ∃ q, v = .tuple #[q, .bool true] ∧ Ow encU 1 62 w.heap.size w' q (digB 4294967296 (valB 4294967296 l - valB 4294967296 m)))) := by
  obtain ⟨V, hV⟩ : ∃ V, V = valB 4294967296 l := ⟨_, rfl⟩
  obtain ⟨U, hU⟩ : ∃ U, U = valB 4294967296 m := ⟨_, rfl⟩
  have q1 := half_len3 l h.lt h.max
  have q2 := half_len3 m h2.lt h2.max
  have HC := As.mk (rCmp_any l m A A2 c c2 w h h2)
  have H1 := As.mk (fun w1 (hb : Below w.heap.size w w1) => half_any l _ rfl A c w1 (h.rd.below hb) h.lt h.cap (Nat.le_trans h.max (by omega)))
  have H2 := As.mk (fun w1 (hb : Below w.heap.size w w1) => half_any m _ rfl A2 c2 w1 (h2.rd.below hb) h2.lt h2.cap (Nat.le_trans h2.max (by omega)))
  rw [← hV] at H1 q1 HC ⊢
  rw [← hU] at H2 q2 HC ⊢
  obtain ⟨L, hL⟩ : ∃ L, L = digB 65536 V := ⟨_, rfl⟩
  obtain ⟨M, hM⟩ : ∃ M, M = digB 65536 U := ⟨_, rfl⟩
  rw [← hL] at H1 q1
  rw [← hM] at H2 q2
  by_cases hlt : V < U
  · rw [cmpN_lt hlt] at HC
    have Hlt := As.mk hlt
    clear hlt hV hU hL hM
    go_enter Tryd.func72, Tryd.ntmps72
    go_wp2_with (go_at_call 98; (with_reducible refine HC.out.mono ?_); rintro e w1 ⟨v1, rfl, rfl, hb1⟩)
    go_ret2
    exact ⟨_, rfl, ⟨fun _ => rfl, fun h => absurd Hlt.out (by omega)⟩, hb1⟩
  · have hge : decide (cmpN V U < 0) = false := by
      rw [decide_eq_false_iff_not]
      rcases Nat.lt_or_ge U V with h | h
      · rw [cmpN_gt h]; omega
      · rw [cmpN_eq (by omega)]; omega
    have hcr := cmpN_range V U
    obtain ⟨cv, hcv⟩ : ∃ cv, cv = cmpN V U := ⟨_, rfl⟩
    rw [← hcv] at HC hge hcr
    have HV : As (valB 65536 L = V) := ⟨by rw [hL]; exact digB_val _ (by omega) V⟩
    have HU : As (valB 65536 M = U) := ⟨by rw [hM]; exact digB_val _ (by omega) U⟩
    have HL : As ((∀ x ∈ L, x < 65536) ∧ (∀ x ∈ M, x < 65536)) := ⟨by rw [hL]; exact digB_lt _ (by omega) V, by rw [hM]; exact digB_lt _ (by omega) U⟩
    have hML : M.length ≤ L.length := by rw [hL, hM]; exact digB_mono8 65536 (by omega) (by omega)
    have hdl : (digB 65536 (V - U)).length ≤ 549755813888 := Nat.le_trans (digB_mono8 65536 (by omega) (Nat.sub_le V U)) (hL ▸ q1)
    have Hge : As (U ≤ V) := ⟨by omega⟩
    obtain ⟨D, hD⟩ : ∃ D, D = digB 65536 (V - U) := ⟨_, rfl⟩
    have HD := As.mk hD
    rw [← hD] at hdl
    have hsub := fun (w1 : World) A3 k3 A4 k4 (r1 : Rd encI 1 w1 A3 L) (r2 : Rd encI 1 w1 A4 M) (g1 : L.length ≤ k3) (g2 : M.length ≤ k4) => rsub_any L M _ _ rfl rfl A3 A4 k3 k4 w1 r1 r2 HL.out g1 g2 (by omega) hML (by rw [HV.out, HU.out]; exact Hge.out)
    rw [HV.out, HU.out, ← hD] at hsub
    have HS := As.mk hsub
    clear hlt hV hU hL hM hcv hD hsub
    go_enter Tryd.func72, Tryd.ntmps72
    go_wp2_with (first
      | (go_at_call 98; (with_reducible refine HC.out.mono ?_); rintro e w0 ⟨v0, rfl, rfl, hb0⟩)
      | (go_at_call 81; (with_reducible refine (H1.out _ hb0).mono ?_); rintro e w1 ⟨v1, rfl, ho1, hb1⟩; obtain ⟨A1, k1, rfl, h11, h12⟩ := ho1.form; have hb01 := bthen hb0 hb1)
      | (go_at_call 81; (with_reducible refine (H2.out _ hb01).mono ?_); rintro e w2 ⟨v2, rfl, ho2, hb2⟩; obtain ⟨A3, k3, rfl, h31, h32⟩ := ho2.form; have hb := bthen hb01 hb2; have ho12 := ho1.below hb2)
      | (go_at_call 85; (with_reducible refine (HS.out _ _ _ _ _ (ho12.rd lenI) (ho2.rd lenI) h11 h31).mono ?_); rintro e w3 ⟨v3, rfl, ho3, hb3⟩; obtain ⟨A4, k4, rfl, h41, h42⟩ := ho3.form; have hb4 := bthen hb hb3)
      | (go_at_call 86; (with_reducible refine (full_any D _ rfl _ _ _ (ho3.rd lenI) (by rw [HD.out]; exact digB_lt _ (by omega) _) h41 ho3.none (by omega)).mono ?_); rintro e w5 ⟨v5, rfl, ho5, hb5⟩))
    go_ret2
    refine ⟨_, rfl, ⟨fun h => absurd h (by have := Hge.out; omega), fun _ => ⟨_, rfl, ?_⟩⟩, bthen hb4 hb5⟩
    have := ho5.lower hb4.size
    rw [HD.out, digB_val 65536 (by omega)] at this
    exact this
end Go.Proofs.YtigoofeodbbbhaaDoor
