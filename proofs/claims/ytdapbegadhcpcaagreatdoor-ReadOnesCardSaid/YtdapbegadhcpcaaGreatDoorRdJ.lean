/- A part of the proof. -/
import Derived.Test.YtdapbegadhcpcaaGreatDoorRdI
import Derived.Test.YtdapbegadhcpcaaGreatDoorMH
import Derived.Test.YtdapbegadhcpcaaGreatDoorMD
set_option linter.unusedVariables false
set_option linter.unusedSimpArgs false
namespace Go.Proofs.YtdapbegadhcpcaaGreatDoor
open Go.RowKit Go.Proofs.YtdapbegadhcpcaaGreatDoorL Go.Proofs.YtdapbegadhcpcaaGreatDoorM
theorem sB_nat5 (L : List UInt8) : sB (L.map UInt8.toNat) = ⟨L.toArray⟩ := by
 unfold sB strOfNums
 simp [Function.comp_def]
theorem Upg.belowB {g B : Nat} {w W w1 : World} (h : Upg g w W) (hb : Below B W w1) (hB : w.heap.size ≤ B) : Upg g w w1 :=
 ⟨hb.os.trans h.os, hb.tape.trans h.tape, hb.output.trans h.output, Nat.le_trans h.size hb.size, fun k hk hne => (hb.block k (by omega)).trans (h.block k hk hne)⟩
theorem blkB {w w1 : World} {g B : Nat} {cs : List Value} {t : TypeId} (f : Blk w g cs t) (hb : Below B w w1) (hg : g < B) : Blk w1 g cs t := ⟨(hb.block g hg).trans f.h⟩
theorem conv_acc {w : World} {A : Option Addr} {n c base : Nat} {acc : List UInt8} (ho : Ow encB 1 5 base w (.slice A n c) (acc.map UInt8.toNat)) : (convert 67 9 (.slice A n c)).run Tryz.prog w = .ok (.string ⟨acc.toArray⟩) w := by
 have hn := ho.len_eq
 subst hn
 cases A with
 | none =>
   have h0 : acc.map UInt8.toNat = [] := by
    rcases ho.own.2 with ⟨_, h⟩ | ⟨g, cap, cur, h, _⟩
    · exact List.eq_nil_of_length_eq_zero h
    · simp only [Value.slice.injEq] at h; cases h.1
   have h1 : acc = [] := by simpa using h0
   subst h1
   exact run_convert_bytes_nil _ 67 5 Tryz.underlying67 Tryz.underlying5 _ _ 9 Tryz.underlying9
 | some a =>
   rcases ho.own.2 with ⟨h, _⟩ | ⟨g, cap, cur, h, _⟩
   · simp only [Value.slice.injEq] at h; cases h.1
   · simp only [Value.slice.injEq, Option.some.injEq] at h
     obtain ⟨rfl, _, _⟩ := h
     rw [conv_bytes Tryz.underlying67 Tryz.underlying5 Tryz.underlying9 (ho.rd lenB), sB_nat5]
def strQ : Except (Nat × Nat) (List UInt8 × Nat) → Rs
 | .ok (t, e) => .ok (dStr t, e)
 | .error p => .error p
theorem strQ_is (s : List UInt8) (i : Nat) : strR s i = strQ (strF s (i + 1) []) := by
 unfold strR strQ
 cases strF s (i + 1) [] <;> rfl
theorem strF_in {s : List UInt8} {j : Nat} {c : UInt8} (h : s[j]? = some c) (acc : List UInt8) (h2 : c ≠ 92) : strF s j acc = if c = 34 then .ok (acc, j + 1) else strF s (j + 1) (acc ++ [c]) := by
 obtain ⟨hl, rfl⟩ := List.getElem?_eq_some_iff.1 h
 rw [strF, dif_pos hl]
 by_cases h1 : s[j] = 34
 · rw [if_pos h1, if_pos h1]
 · rw [if_neg h1, if_neg h1, if_neg h2]
theorem escF_err {s : List UInt8} {i p c : Nat} (h : escF s i = .error (p, c)) : c ≠ 0 := by
 unfold escF at h
 split at h
 · cases h; decide
 · split at h
   · split at h
     · cases h; decide
     · cases h; decide
     · cases h
   · split at h
     · cases h
     · cases h; decide
theorem escF_gt {s : List UInt8} {i v e : Nat} (h : escF s i = .ok (v, e)) : i < e ∧ e < s.length := by
 unfold escF at h
 split at h
 · cases h
 · rename_i c hc
   have hl := (List.getElem?_eq_some_iff.1 hc).1
   split at h
   · split at h
     · cases h
     · cases h
     · rename_i hcd
       cases h
       have h1 := codeF_gt s _ _ _ hcd
       refine ⟨by omega, ?_⟩
       unfold codeF at hcd
       split at hcd
       · cases hcd
       · split at hcd
         · cases hcd
         · split at hcd
           · cases hcd
           · rename_i h3
             have h4 := (List.getElem?_eq_some_iff.1 h3).1
             split at hcd
             · cases hcd; exact h4
             · split at hcd
               · cases hcd
               · split at hcd
                 · cases hcd
                 · rename_i h5
                   have h6 := (List.getElem?_eq_some_iff.1 h5).1
                   split at hcd
                   · cases hcd; exact h6
                   · cases hcd
   · split at h
     · cases h; omega
     · cases h
set_option maxRecDepth 8000 in
set_option maxHeartbeats 4000000 in
theorem string_any {w : World} {g i : Nat} {T : ByteArray} (R : RB w g T i 0 0) (hi : i < T.size) (hT : T.size ≤ 65536) (r : Rs) (hr : r = strR T.data.toList i) :
 Calls Tryz.prog 26 #[.pointer (some ⟨g, 0, none⟩)] w fun x w' => ∃ v, x = .returned v ∧ Upg g w w' ∧ Aft w' g T r ∧ IsD w.heap.size w' r v := by
 have C := R.out.cells
 have hu := Upg.refl g w
 have hsl := size_list T
 have hg0 := R.lt
 obtain ⟨S, hS⟩ : ∃ S, S = strF T.data.toList (i + 1) [] := ⟨_, rfl⟩
 have HSr : As (r = strQ S) := ⟨by rw [hr, strQ_is, hS]⟩
 have HS := As.mk hS
 clear hS hr
 go_enter Tryz.func26, Tryz.ntmps26
 go_wp2_with (first
  | ((with_reducible refine g_dst 2 ?_); go_must (refine ev_alloc 2 rfl infoD (cs := [.int .i64 0, .int .i64 0, .bool false, .slice none 0 0, .string ⟨#[]⟩, .slice none 0 0, .slice none 0 0]) rfl ?_); intro g2 wn hb B2 hg2; have hs2 := Nat.le_trans hu.size hg2; have hne2 : g2 ≠ g := (fun h => by have := R.lt; omega); clear hg2; replace R := R.below hb; clear C; have C := R.out.cells; replace hu := hu.trans (Upg.of_below hb); clear hb)
  | ((with_reducible refine g_store 15 ?_); go_must (refine ev_store rfl rfl R.out (news := [.int .i64 ((i + 1 : Nat) : Int)]) (by first | rfl | (go_simp; first | rfl | go_num | (simp; omega))) infoI (by simp) (by simp [Value.oneCell']) ?_); intro wn ho Bn; simp only [zI, zA, zC, zD, zE, zF, zH, zB, zG, Nat.reduceAdd] at Bn; have R2 : RB wn g T (i + 1) 0 0 := ⟨Bn⟩; clear Bn; have hq := Upg.of_only ho; clear C R; have R := R2; clear R2; have C := R.out.cells; replace hu := hu.trans hq; replace B2 := blk_upg B2 hq hne2; clear hq; clear ho))
 have hgb : g < g2 + 1 := by omega
 have hwb : w.heap.size ≤ g2 + 1 := by omega
 go_loopw [3] (fun b wr => ∃ (acc : List UInt8) (j : Nat), Ow encB 1 5 (g2 + 1) wr b (acc.map UInt8.toNat) ∧ acc.length ≤ j ∧ j ≤ T.size ∧ RB wr g T j 0 0 ∧ Upg g w wr ∧ Blk wr g2 [.int .i64 0, .int .i64 0, .bool false, .slice none 0 0, .string ⟨#[]⟩, .slice none 0 0, .slice none 0 0] 35 ∧ As (S = strF T.data.toList j acc)) (fun _ wr => T.size - atOf wr g)
 case atStart => exact ⟨[], i + 1, Ow.nil _ _ _ _ _, by simp, by omega, R, hu, B2, HS⟩
 case round =>
  clear R C hu B2 HS
  obtain ⟨acc, j, hoW, haj, hj, R, hu, B2, HS⟩ := hrel
  have C := R.out.cells
  have hat := As.mk R.at_
  obtain ⟨A, cc, rfl, ha1, ha2⟩ := hoW.form
  simp only [List.length_map] at hoW
  have Ha : As (acc.length ≤ j ∧ j ≤ 65536) := ⟨haj, by omega⟩
  clear haj ha1 ha2
  by_cases hm : j < T.size
  · have d1 : decide (j < T.size) = true := decide_eq_true hm
    obtain ⟨c, hc⟩ := get_size T hm
    obtain ⟨x, hx⟩ : ∃ x, x = c.toNat := ⟨_, rfl⟩
    have hcx : ((T[j]'hm).toNat : Int) = (x : Int) := by
     have := (List.getElem?_eq_some_iff.1 hc).2
     rw [hx, ← this, ByteArray.getElem_eq_getElem_data]; simp
    have hmi : (j : Int) < (T.size : Int) := by omega
    by_cases h92 : c = 92
    · subst h92
      have b1 : ((x : Int) == 34) = false := by rw [hx]; rfl
      have b2 : ((x : Int) == 92) = true := by rw [hx]; rfl
      have hE := strF_E hc acc
      rw [← HS.out] at hE
      clear hx HS
      cases he : escF T.data.toList j with
      | error pc =>
        obtain ⟨p, c0⟩ := pc
        have HE := As.mk he
        have Hr : As (r = .error (p, c0)) := ⟨by rw [HSr.out, hE, he]; rfl⟩
        have HC0 := As.mk (escF_err he)
        have hz : ((c0 : Int) != 0) = true := by simpa using escF_err he
        clear he hE hc
        go_wp2_with (first
         | (go_at_call 13; (with_reducible refine (more_b R true d1).mono ?_); rintro e wn ⟨vn, rfl, rfl, hb⟩; replace R := R.below hb; clear C; have C := R.out.cells; replace hu := hu.trans (Upg.of_below hb); replace B2 := B2.below hb; replace hoW := hoW.below hb; clear hb))
        go_quiet (fail)
        have hb := dr (Below.refl (World.heap wn).size wn) nq
        generalize wn.drewN nq = w9 at hb ⊢
        replace R := R.below hb
        clear C
        have C := R.out.cells
        replace hu := hu.trans (Upg.of_below hb)
        replace B2 := B2.below hb
        replace hoW := hoW.below hb
        clear hb
        go_wp2_with (first
         | (go_at_call 42; (with_reducible refine (escape_any R hm hT).mono ?_); rintro e wn ⟨vn, rfl, hq, hcp⟩; rw [HE.out] at hcp; obtain ⟨rfl, _, j2, R2⟩ : _ ∧ c0 ≠ 0 ∧ ∃ j2, RB wn g T j2 (p : Int) (c0 : Int) := hcp; replace hu := hu.trans hq; replace B2 := blk_upg B2 hq hne2; replace hoW := ow_upg hoW hq hgb; clear C hq R; have R := R2; clear R2; have C := R.out.cells)
         | ((with_reducible refine g_store 2 ?_); go_must (refine ev_store rfl rfl B2 (news := [.int .i64 0, .int .i64 0, .bool false, .slice none 0 0, .string ⟨#[]⟩, .slice none 0 0, .slice none 0 0]) (by first | rfl | (go_simp; try rfl)) infoD (by simp) (by simp [Value.oneCell']) ?_); intro wn ho2 Bn; simp only [encD, zA, zB, zC, zD, zE, zF, zG, zH] at Bn; replace hu := hu.only_new ho2 hs2; have R2 : RB wn g T _ _ _ := ⟨R.out.only ho2 (Ne.symm hne2)⟩; clear C R; have R := R2; clear R2; have C := R.out.cells; replace B2 := Bn; clear Bn ho2))
        refine bodyPost_ret (results_cell_row rfl _ _ g2 35 ([.int .i64 0, .int .i64 0, .bool false, .slice none 0 0, .string ⟨#[]⟩, .slice none 0 0, .slice none 0 0] : List Value).toArray (0, 0) _ rfl B2.h Tryz.underlying35 rfl (by kernel_rfl)) rfl ?_
        exact ⟨_, rfl, hu, by rw [Hr.out]; exact ⟨_, R, HC0.out⟩, ldZ, rfl, good_z _ _ _ (by decide) (by decide) _, fun b hb => (by rw [ldZ, foot_z] at hb; cases hb), fun x e h => by rw [Hr.out] at h; cases h⟩
      | ok ve =>
        obtain ⟨v, e⟩ := ve
        have HE := As.mk he
        obtain ⟨he1, he2⟩ := escF_gt he
        have Hs : As (S = strF T.data.toList (e + 1) (acc ++ [UInt8.ofNat v])) := ⟨by rw [hE, he]⟩
        clear he hE hc
        go_wp2_with (first
         | (go_at_call 13; (with_reducible refine (more_b R true d1).mono ?_); rintro e wn ⟨vn, rfl, rfl, hb⟩; replace R := R.below hb; clear C; have C := R.out.cells; replace hu := hu.trans (Upg.of_below hb); replace B2 := B2.below hb; replace hoW := hoW.below hb; clear hb))
        go_quiet (fail)
        have hb := dr (Below.refl (World.heap wn).size wn) nq
        generalize wn.drewN nq = w9 at hb ⊢
        replace R := R.below hb
        clear C
        have C := R.out.cells
        replace hu := hu.trans (Upg.of_below hb)
        replace B2 := B2.below hb
        replace hoW := hoW.below hb
        clear hb
        go_wp2_with (first
         | (go_at_call 42; (with_reducible refine (escape_any R hm hT).mono ?_); rintro e wn ⟨vn, rfl, hq, hcp⟩; rw [HE.out] at hcp; obtain ⟨rfl, R2, hv⟩ : _ ∧ RB wn g T e 0 0 ∧ v < 256 := hcp; have Hv := As.mk hv; clear hv; replace hu := hu.trans hq; replace B2 := blk_upg B2 hq hne2; replace hoW := ow_upg hoW hq hgb; clear C hq R; have R := R2; clear R2; have C := R.out.cells)
         | ((with_reducible refine g_dst 69 ?_); go_must (refine ev_lit (v := fun g => .slice (some ⟨g, 0, none⟩) 1 1) 69 rfl (cs := [valB8 v]) (t := 5) (by go_simp; rfl) ?_); intro g6 wn hb B6 hg6; replace R := R.below hb; clear C; have C := R.out.cells; replace hu := hu.trans (Upg.of_below hb); replace B2 := B2.below hb; replace hoW := hoW.below hb; clear hb)
         | ((with_reducible refine g_dst 70 ?_); go_must (refine ev_append1 70 Tryz.underlying67 infoB rfl (by decide) rfl hoW (v) rfl B6 rfl (oneB _) (by rw [List.length_map]; have := Ha.out; omega) (by rw [List.length_map]; simp only [maxLen]; have := Ha.out; omega) B2.lt ?_); intro v7 wn ho7 hg7 hor7; have hb := hoW.grown (Below.refl (g2 + 1) _) hg7 (Nat.le_refl _) B2.lt; replace R : RB wn g T _ _ _ := ⟨blkB R.out hb hgb⟩; replace B2 := blkB B2 hb (Nat.lt_succ_self _); replace hu := hu.belowB hb hwb; replace hoW := ho7; clear C hb hg7 hor7 ho7 B6; have C := R.out.cells)
         | ((with_reducible refine g_store 28 ?_); go_must (refine ev_store rfl rfl R.out (news := [.int .i64 ((e + 1 : Nat) : Int)]) (by first | rfl | (go_simp; first | rfl | go_num | (simp; omega))) infoI (by simp) (by simp [Value.oneCell']) ?_); intro wn ho Bn; simp only [zI, zA, zC, zD, zE, zF, zH, zB, zG, Nat.reduceAdd] at Bn; have R2 : RB wn g T (e + 1) 0 0 := ⟨Bn⟩; clear Bn; have hq := Upg.of_only ho; clear C R; have R := R2; clear R2; have C := R.out.cells; replace hu := hu.trans hq; replace B2 := blk_upg B2 hq hne2; replace hoW := ow_upg hoW hq hgb; clear hq; clear ho))
        go_roundw
        case rel => exact ⟨acc ++ [UInt8.ofNat v], e + 1, by rw [List.map_append, List.map_singleton, UInt8.toNat_ofNat', Nat.mod_eq_of_lt Hv.out]; exact hoW, by rw [List.length_append, List.length_singleton]; have := Ha.out; omega, by omega, R, hu, B2, Hs⟩
        case measure => rw [R.at_, hat.out]; omega
    · have hin := strF_in hc acc h92
      rw [← HS.out] at hin
      have b2 : ((x : Int) == 92) = false := by
       have : ¬ x = 92 := fun h => h92 (UInt8.toNat_inj.1 (by rw [← hx, h]; rfl))
       simp; omega
      by_cases h34 : c = 34
      · have b1 : ((x : Int) == 34) = true := by rw [hx, h34]; rfl
        have Hr : As (r = .ok (dStr acc, j + 1)) := ⟨by rw [HSr.out, hin, if_pos h34]; rfl⟩
        clear hin h34 h92 hx hc
        go_wp2_with (first
         | (go_at_call 13; (with_reducible refine (more_b R true d1).mono ?_); rintro e wn ⟨vn, rfl, rfl, hb⟩; replace R := R.below hb; clear C; have C := R.out.cells; replace hu := hu.trans (Upg.of_below hb); replace B2 := B2.below hb; replace hoW := hoW.below hb; clear hb))
        go_quiet (fail)
        have hb := dr (Below.refl (World.heap wn).size wn) nq
        generalize wn.drewN nq = w9 at hb ⊢
        replace R := R.below hb
        clear C
        have C := R.out.cells
        replace hu := hu.trans (Upg.of_below hb)
        replace B2 := B2.below hb
        replace hoW := hoW.below hb
        clear hb
        go_wp2_with (first
         | ((with_reducible refine g_store 55 ?_); go_must (refine ev_store rfl rfl R.out (news := [.int .i64 ((j + 1 : Nat) : Int)]) (by first | rfl | (go_simp; first | rfl | go_num | (simp; omega))) infoI (by simp) (by simp [Value.oneCell']) ?_); intro wn ho Bn; simp only [zI, zA, zC, zD, zE, zF, zH, zB, zG, Nat.reduceAdd] at Bn; have R2 : RB wn g T (j + 1) 0 0 := ⟨Bn⟩; clear Bn; have hq := Upg.of_only ho; clear C R; have R := R2; clear R2; have C := R.out.cells; replace hu := hu.trans hq; replace B2 := blk_upg B2 hq hne2; replace hoW := ow_upg hoW hq hgb; clear hq; clear ho; have hcv := conv_acc hoW)
         | ((with_reducible refine g_store 2 ?_); go_must (refine ev_store rfl rfl B2 (news := [.int .i64 4, .int .i64 0, .bool false, .slice none 0 0, .string ⟨acc.toArray⟩, .slice none 0 0, .slice none 0 0]) (by first | rfl | (go_simp; try rfl)) infoD (by simp) (by simp [Value.oneCell']) ?_); intro wn ho2 Bn; simp only [encD, zA, zB, zC, zD, zE, zF, zG, zH] at Bn; replace hu := hu.only_new ho2 hs2; have R2 : RB wn g T _ _ _ := ⟨R.out.only ho2 (Ne.symm hne2)⟩; clear C R; have R := R2; clear R2; have C := R.out.cells; replace B2 := Bn; clear Bn ho2))
        refine bodyPost_ret (results_cell_row rfl _ _ g2 35 ([.int .i64 4, .int .i64 0, .bool false, .slice none 0 0, .string ⟨acc.toArray⟩, .slice none 0 0, .slice none 0 0] : List Value).toArray (0, 0) _ rfl B2.h Tryz.underlying35 rfl (by kernel_rfl)) rfl ?_
        exact ⟨_, rfl, hu, by rw [Hr.out]; exact ⟨R, by omega⟩, .mk 4 0 false none 0 [] acc none 0 [] none 0 [], rfl, good_z _ _ _ (by decide) (by decide) _, fun b hb => (by rw [foot_z] at hb; cases hb), fun x e h => by rw [Hr.out] at h; cases h; rfl⟩
      · have b1 : ((x : Int) == 34) = false := by
         have : ¬ x = 34 := fun h => h34 (UInt8.toNat_inj.1 (by rw [← hx, h]; rfl))
         simp; omega
        have Hs : As (S = strF T.data.toList (j + 1) (acc ++ [c])) := ⟨by rw [hin, if_neg h34]⟩
        have Hx := As.mk hx
        clear hin h34 h92 hx hc
        go_wp2_with (first
         | (go_at_call 13; (with_reducible refine (more_b R true d1).mono ?_); rintro e wn ⟨vn, rfl, rfl, hb⟩; replace R := R.below hb; clear C; have C := R.out.cells; replace hu := hu.trans (Upg.of_below hb); replace B2 := B2.below hb; replace hoW := hoW.below hb; clear hb))
        go_quiet (fail)
        have hb := dr (Below.refl (World.heap wn).size wn) nq
        generalize wn.drewN nq = w9 at hb ⊢
        replace R := R.below hb
        clear C
        have C := R.out.cells
        replace hu := hu.trans (Upg.of_below hb)
        replace B2 := B2.below hb
        replace hoW := hoW.below hb
        clear hb
        go_wp2_with (first
         | ((with_reducible refine g_dst 43 ?_); go_must (refine ev_lit (v := fun g => .slice (some ⟨g, 0, none⟩) 1 1) 43 rfl (cs := [valB8 x]) (t := 5) (by go_simp; rfl) ?_); intro g6 wn hb B6 hg6; replace R := R.below hb; clear C; have C := R.out.cells; replace hu := hu.trans (Upg.of_below hb); replace B2 := B2.below hb; replace hoW := hoW.below hb; clear hb)
         | ((with_reducible refine g_dst 44 ?_); go_must (refine ev_append1 44 Tryz.underlying67 infoB rfl (by decide) rfl hoW (x) rfl B6 rfl (oneB _) (by rw [List.length_map]; have := Ha.out; omega) (by rw [List.length_map]; simp only [maxLen]; have := Ha.out; omega) B2.lt ?_); intro v7 wn ho7 hg7 hor7; have hb := hoW.grown (Below.refl (g2 + 1) _) hg7 (Nat.le_refl _) B2.lt; replace R : RB wn g T _ _ _ := ⟨blkB R.out hb hgb⟩; replace B2 := blkB B2 hb (Nat.lt_succ_self _); replace hu := hu.belowB hb hwb; replace hoW := ho7; clear C hb hg7 hor7 ho7 B6; have C := R.out.cells)
         | ((with_reducible refine g_store 28 ?_); go_must (refine ev_store rfl rfl R.out (news := [.int .i64 ((j + 1 : Nat) : Int)]) (by first | rfl | (go_simp; first | rfl | go_num | (simp; omega))) infoI (by simp) (by simp [Value.oneCell']) ?_); intro wn ho Bn; simp only [zI, zA, zC, zD, zE, zF, zH, zB, zG, Nat.reduceAdd] at Bn; have R2 : RB wn g T (j + 1) 0 0 := ⟨Bn⟩; clear Bn; have hq := Upg.of_only ho; clear C R; have R := R2; clear R2; have C := R.out.cells; replace hu := hu.trans hq; replace B2 := blk_upg B2 hq hne2; replace hoW := ow_upg hoW hq hgb; clear hq; clear ho))
        go_roundw
        case rel => exact ⟨acc ++ [c], j + 1, by rw [List.map_append, List.map_singleton, ← Hx.out]; exact hoW, by rw [List.length_append, List.length_singleton]; have := Ha.out; omega, by omega, R, hu, B2, Hs⟩
        case measure => rw [R.at_, hat.out]; omega
  · have d1 : decide (j < T.size) = false := decide_eq_false hm
    have Hr : As (r = .error (T.size, 10)) := ⟨by rw [HSr.out, HS.out, strF, dif_neg (by omega), hsl]; rfl⟩
    go_wp2_with (first
     | (go_at_call 13; (with_reducible refine (more_b R false d1).mono ?_); rintro e wn ⟨vn, rfl, rfl, hb⟩; replace R := R.below hb; clear C; have C := R.out.cells; replace hu := hu.trans (Upg.of_below hb); replace B2 := B2.below hb; replace hoW := hoW.below hb; clear hb)
     | (go_at_call 36; (with_reducible refine (end_ok R).mono ?_); rintro e wn ⟨rfl, ho, R2⟩; have hq := Upg.of_only ho; clear C R; have R := R2; clear R2; have C := R.out.cells; replace hu := hu.trans hq; replace B2 := blk_upg B2 hq hne2; replace hoW := ow_upg hoW hq hgb; clear hq)
     | ((with_reducible refine g_store 2 ?_); go_must (refine ev_store rfl rfl B2 (news := [.int .i64 0, .int .i64 0, .bool false, .slice none 0 0, .string ⟨#[]⟩, .slice none 0 0, .slice none 0 0]) (by rfl) infoD (by simp) (by simp [Value.oneCell']) ?_); intro wn ho Bn; simp only [encD, zA, zB, zC, zD, zE, zF, zG, zH] at Bn; replace hu := hu.only_new ho hs2; have R2 : RB wn g T _ _ _ := ⟨R.out.only ho (Ne.symm hne2)⟩; clear C R; have R := R2; clear R2; have C := R.out.cells; replace B2 := Bn; clear Bn ho))
    refine bodyPost_ret (results_cell_row rfl _ _ g2 35 ([.int .i64 0, .int .i64 0, .bool false, .slice none 0 0, .string ⟨#[]⟩, .slice none 0 0, .slice none 0 0] : List Value).toArray (0, 0) _ rfl B2.h Tryz.underlying35 rfl (by kernel_rfl)) rfl ?_
    exact ⟨_, rfl, hu, by rw [Hr.out]; exact ⟨_, R, by decide⟩, ldZ, rfl, good_z _ _ _ (by decide) (by decide) _, fun b hb => (by rw [ldZ, foot_z] at hb; cases hb), fun x e h => by rw [Hr.out] at h; cases h⟩
end Go.Proofs.YtdapbegadhcpcaaGreatDoor
