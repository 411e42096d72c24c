/- A part of the proof. -/
import Derived.ScopeJumps
import Derived.WalkMore
import Derived.Test.YtdapbegadhcpcaaGreatDoorMG
set_option linter.unusedVariables false
set_option linter.unusedSimpArgs false
namespace Go.Proofs.YtdapbegadhcpcaaGreatDoor
open Go.RowKit Go.Proofs.YtdapbegadhcpcaaGreatDoorL Go.Proofs.YtdapbegadhcpcaaGreatDoorM
set_option maxRecDepth 16000 in
theorem frame90 (p d u2 u3 u4 u5 u6 u7 u8 u9 u10 u11 u12 u13 u14 u15 u16 u17 u18 u19 u20 u21 u22 u23 u24 u25 u26 u27 u28 u29 u30 u31 u32 u33 u34 u35 u36 u37 u38 u39 u40 u41 u42 u43 u44 u45 u46 u47 u48 u49 u50 u51 u52 u53 u54 u55 u56 u57 u58 u59 u60 u61 u62 u63 u64 u65 u66 u67 u68 u69 u70 u71 u72 u73 u74 u75 u76 u77 u78 u79 u80 u81 u82 u83 u84 u85 u86 u87 u88 u89 : Value) : ∃ u : Nat → Value, ({ tmps := #[p, d, u2, u3, u4, u5, u6, u7, u8, u9, u10, u11, u12, u13, u14, u15, u16, u17, u18, u19, u20, u21, u22, u23, u24, u25, u26, u27, u28, u29, u30, u31, u32, u33, u34, u35, u36, u37, u38, u39, u40, u41, u42, u43, u44, u45, u46, u47, u48, u49, u50, u51, u52, u53, u54, u55, u56, u57, u58, u59, u60, u61, u62, u63, u64, u65, u66, u67, u68, u69, u70, u71, u72, u73, u74, u75, u76, u77, u78, u79, u80, u81, u82, u83, u84, u85, u86, u87, u88, u89], defers := [] } : Act) = { tmps := #[p, d, u 2, u 3, u 4, u 5, u 6, u 7, u 8, u 9, u 10, u 11, u 12, u 13, u 14, u 15, u 16, u 17, u 18, u 19, u 20, u 21, u 22, u 23, u 24, u 25, u 26, u 27, u 28, u 29, u 30, u 31, u 32, u 33, u 34, u 35, u 36, u 37, u 38, u 39, u 40, u 41, u 42, u 43, u 44, u 45, u 46, u 47, u 48, u 49, u 50, u 51, u 52, u 53, u 54, u 55, u 56, u 57, u 58, u 59, u 60, u 61, u 62, u 63, u 64, u 65, u 66, u 67, u 68, u 69, u 70, u 71, u 72, u 73, u 74, u 75, u 76, u 77, u 78, u 79, u 80, u 81, u 82, u 83, u 84, u 85, u 86, u 87, u 88, u 89], defers := [] } :=
 ⟨fun k => (#[p, d, u2, u3, u4, u5, u6, u7, u8, u9, u10, u11, u12, u13, u14, u15, u16, u17, u18, u19, u20, u21, u22, u23, u24, u25, u26, u27, u28, u29, u30, u31, u32, u33, u34, u35, u36, u37, u38, u39, u40, u41, u42, u43, u44, u45, u46, u47, u48, u49, u50, u51, u52, u53, u54, u55, u56, u57, u58, u59, u60, u61, u62, u63, u64, u65, u66, u67, u68, u69, u70, u71, u72, u73, u74, u75, u76, u77, u78, u79, u80, u81, u82, u83, u84, u85, u86, u87, u88, u89] : Array Value).getD k undef, rfl⟩
set_option maxRecDepth 16000 in
set_option maxHeartbeats 4000000 in
theorem blanks_pc (T : ByteArray) (hT : T.size ≤ 65536) (d i : Nat) (IH : ∀ j, wtJ T.data.toList j < wtJ T.data.toList (.blanks d i) → PC T j) : PC T (.blanks d i) := by
 intro w g r hi hd R hr
 have hsl := size_list T
 have IHn := As.mk (fun j (h1 : i ≤ j) (h2 : j < T.size) (h3 : j + 2 ≤ T.size) => IH (.next d (j + 2)) (by simp only [wtJ]; omega))
 clear IH
 go_enter Tryz.func12, Tryz.ntmps12
 go_wp2
 refine wp_scope_jumps 0 (fun a' w' => (∃ u : Nat → Value, a' = { tmps := #[.pointer (some ⟨g, 0, none⟩), .int .i64 (d : Int), u 2, u 3, u 4, u 5, u 6, u 7, u 8, u 9, u 10, u 11, u 12, u 13, u 14, u 15, u 16, u 17, u 18, u 19, u 20, u 21, u 22, u 23, u 24, u 25, u 26, u 27, u 28, u 29, u 30, u 31, u 32, u 33, u 34, u 35, u 36, u 37, u 38, u 39, u 40, u 41, u 42, u 43, u 44, u 45, u 46, u 47, u 48, u 49, u 50, u 51, u 52, u 53, u 54, u 55, u 56, u 57, u 58, u 59, u 60, u 61, u 62, u 63, u 64, u 65, u 66, u 67, u 68, u 69, u 70, u 71, u 72, u 73, u 74, u 75, u 76, u 77, u 78, u 79, u 80, u 81, u 82, u 83, u 84, u 85, u 86, u 87, u 88, u 89], defers := [] }) ∧ BJ w w' g T d i r) (fun _ w' => muB T w' g) rfl ?_ ?_
 · have hu := Upg.refl g w
   obtain ⟨j, rfl⟩ : ∃ j, j = i := ⟨_, rfl⟩
   have hij : j ≤ j := Nat.le_refl _
   have hj := hi
   go_wp2
   go_step3
   have Hat := As.mk R.at_
   have Her := As.mk R.err
   have C := R.out.cells
   by_cases hm : j < T.size
   · have d1 : decide (j < T.size) = true := decide_eq_true hm
     obtain ⟨c, hc⟩ := get_size T hm
     have hf := bcls_facts hc
     have hrr := inv_blanks hr
     have hcx : T[j]'hm = c := by
      have := (List.getElem?_eq_some_iff.1 hc).2
      rw [← this, ByteArray.getElem_eq_getElem_data]; simp
     have hmi : (j : Int) < (T.size : Int) := by omega
     obtain ⟨K, hK⟩ : ∃ K, K = Lib.indexByte [32, 10, 9, 13] c := ⟨_, rfl⟩
     have HK := As.mk hK.symm
     have hbl := blank_is c
     rw [← hK] at hbl
     clear hK hr
     cases hb0 : bcls T.data.toList j with
     | fin => rw [hb0] at hf; exact hf.elim
     | blank =>
       rw [hb0] at hf hrr
       simp only at hf hrr
       rw [hf] at hbl
       have Hr := As.mk hrr
       have hgc := As.mk hc
       clear hrr hb0 hc
       clear hf
       go_wp2_with (first
        | (go_at_call 13; (with_reducible refine (more_b R true d1).mono ?_); rintro e wn ⟨vn, rfl, rfl, hb⟩; replace R := R.below hb; clear C; have C := R.out.cells; replace hu := hu.trans (Upg.of_below hb); clear hb))
       go_still_tail 11, (by kernel_rfl)
       change wpList _ _ _ _ _ (World.drew _)
       have hb := (Below.refl (World.heap wn).size wn).drew
       generalize World.drew wn = w9 at hb ⊢
       replace R := R.below hb
       clear C
       have C := R.out.cells
       replace hu := hu.trans (Upg.of_below hb)
       clear hb
       go_wp2_with (first
        | (go_at_call 20; (with_reducible refine (idx_b [32, 10, 9, 13] c K HK.out _).mono ?_); rintro e wn ⟨rfl, rfl⟩)
        | ((with_reducible refine g_store 40 ?_); go_must (refine ev_store rfl rfl R.out (news := [.int .i64 ((j + 1 : Nat) : Int)]) (by first | rfl | (go_simp; first | rfl | go_num | (simp; omega))) infoI (by simp) (by simp [Value.oneCell']) ?_); intro wn ho Bn; simp only [zI, zA, zC, zD, zE, zF, zH, zB, zG, Nat.reduceAdd] at Bn; have R2 : RB wn g T (j + 1) 0 0 := ⟨Bn⟩; clear Bn; have hq := Upg.of_only ho; clear C R; have R := R2; clear R2; have C := R.out.cells; replace hu := hu.trans hq; clear hq; clear ho))
       go_step3
       exact ⟨rfl, frame90 _ _ _ _ _ _ _ _ _ _ _ _ _ _ _ _ _ _ _ _ _ _ _ _ _ _ _ _ _ _ _ _ _ _ _ _ _ _ _ _ _ _ _ _ _ _ _ _ _ _ _ _ _ _ _ _ _ _ _ _ _ _ _ _ _ _ _ _ _ _ _ _ _ _ _ _ _ _ _ _ _ _ _ _ _ _ _ _ _ _, ⟨hu, .inl ⟨j + 1, by omega, by omega, R, Hr.out⟩⟩⟩
     | line =>
       rw [hb0] at hf hrr
       simp only at hf hrr
       rw [hf.1] at hbl
       have f1 := hf.2
       have hgt0 := lineEnd_gt (s := T.data.toList) (i := j) (by omega) (by rw [bcls_line hb0]; decide)
       have Hgt := As.mk hgt0
       clear hgt0
       have Hr := As.mk hrr
       have hgc := As.mk hc
       clear hrr hb0 hc
       go_wp2_with (first
        | (go_at_call 13; (with_reducible refine (more_b R true d1).mono ?_); rintro e wn ⟨vn, rfl, rfl, hb⟩; replace R := R.below hb; clear C; have C := R.out.cells; replace hu := hu.trans (Upg.of_below hb); clear hb))
       go_still_tail 11, (by kernel_rfl)
       change wpList _ _ _ _ _ (World.drew _)
       have hb := (Below.refl (World.heap wn).size wn).drew
       generalize World.drew wn = w9 at hb ⊢
       replace R := R.below hb
       clear C
       have C := R.out.cells
       replace hu := hu.trans (Upg.of_below hb)
       clear hb
       go_wp2_with (first
        | (go_at_call 20; (with_reducible refine (idx_b [32, 10, 9, 13] c K HK.out _).mono ?_); rintro e wn ⟨rfl, rfl⟩)
        | (go_at_call 21; (with_reducible refine (sees_b R hj [59] true f1).mono ?_); rintro e wn ⟨vn, rfl, rfl, hb⟩; replace R := R.below hb; clear C; have C := R.out.cells; replace hu := hu.trans (Upg.of_below hb); clear hb))
       obtain ⟨wo, rfl⟩ : ∃ wo : World, wo = wn := ⟨_, rfl⟩
       clear C
       go_loopw [] (fun wr => ∃ k : Nat, j ≤ k ∧ k ≤ T.size ∧ As (lineEnd T.data.toList k = lineEnd T.data.toList j) ∧ RB wr g T k 0 0 ∧ Upg g w wr) (fun wr => T.size - atOf wr g)
       case atStart => exact ⟨j, Nat.le_refl _, hj, ⟨rfl⟩, R, hu⟩
       case round =>
        clear R hu
        obtain ⟨k, hjk, hk, hle, R, hu⟩ := hrel
        have C := R.out.cells
        have hatk := As.mk R.at_
        by_cases hmk : k < T.size
        · have d2 : decide (k < T.size) = true := decide_eq_true hmk
          have hli := lineEnd_in (s := T.data.toList) (i := k) (by omega)
          cases a1 : pre T.data.toList k [10] with
          | true =>
            rw [if_pos a1] at hli
            have hlk : lineEnd T.data.toList j = k := by rw [← hle.out, hli]
            replace Hr : As (Run T.data.toList (.blanks d k) r) := ⟨hlk ▸ Hr.out⟩
            have hgt : j < k := hlk ▸ Hgt.out
            clear hli hlk Hgt
            go_wp2_with (first
             | (go_at_call 13; (with_reducible refine (more_b R true d2).mono ?_); rintro e wn ⟨vn, rfl, rfl, hb⟩; replace R := R.below hb; clear C; have C := R.out.cells; replace hu := hu.trans (Upg.of_below hb); clear hb)
             | (go_at_call 21; (with_reducible refine (sees_b R hk [10] true a1).mono ?_); rintro e wn ⟨vn, rfl, rfl, hb⟩; replace R := R.below hb; clear C; have C := R.out.cells; replace hu := hu.trans (Upg.of_below hb); clear hb))
            go_step3
            exact ⟨rfl, frame90 _ _ _ _ _ _ _ _ _ _ _ _ _ _ _ _ _ _ _ _ _ _ _ _ _ _ _ _ _ _ _ _ _ _ _ _ _ _ _ _ _ _ _ _ _ _ _ _ _ _ _ _ _ _ _ _ _ _ _ _ _ _ _ _ _ _ _ _ _ _ _ _ _ _ _ _ _ _ _ _ _ _ _ _ _ _ _ _ _ _, ⟨hu, .inl ⟨k, by omega, by omega, R, Hr.out⟩⟩⟩
          | false =>
            rw [if_neg (by rw [a1]; decide)] at hli
            have Hle : As (lineEnd T.data.toList (k + 1) = lineEnd T.data.toList j) := ⟨by rw [← hli, hle.out]⟩
            clear hli
            go_wp2_with (first
             | (go_at_call 13; (with_reducible refine (more_b R true d2).mono ?_); rintro e wn ⟨vn, rfl, rfl, hb⟩; replace R := R.below hb; clear C; have C := R.out.cells; replace hu := hu.trans (Upg.of_below hb); clear hb)
             | (go_at_call 21; (with_reducible refine (sees_b R hk [10] false a1).mono ?_); rintro e wn ⟨vn, rfl, rfl, hb⟩; replace R := R.below hb; clear C; have C := R.out.cells; replace hu := hu.trans (Upg.of_below hb); clear hb)
             | ((with_reducible refine g_store 65 ?_); go_must (refine ev_store rfl rfl R.out (news := [.int .i64 ((k + 1 : Nat) : Int)]) (by first | rfl | (go_simp; first | rfl | go_num | (simp; omega))) infoI (by simp) (by simp [Value.oneCell']) ?_); intro wn ho Bn; simp only [zI, zA, zC, zD, zE, zF, zH, zB, zG, Nat.reduceAdd] at Bn; have R2 : RB wn g T (k + 1) 0 0 := ⟨Bn⟩; clear Bn; have hq := Upg.of_only ho; clear C R; have R := R2; clear R2; have C := R.out.cells; replace hu := hu.trans hq; clear hq; clear ho))
            go_roundw
            case rel => exact ⟨k + 1, by omega, by omega, Hle, R, hu⟩
            case measure => rw [R.at_, hatk.out]; omega
        · have d2 : decide (k < T.size) = false := decide_eq_false hmk
          have hlk : lineEnd T.data.toList j = k := by rw [← hle.out, lineEnd_len (by omega)]
          replace Hr : As (Run T.data.toList (.blanks d k) r) := ⟨hlk ▸ Hr.out⟩
          have hgt : j < k := hlk ▸ Hgt.out
          clear hlk Hgt
          go_wp2_with (first
           | (go_at_call 13; (with_reducible refine (more_b R false d2).mono ?_); rintro e wn ⟨vn, rfl, rfl, hb⟩; replace R := R.below hb; clear C; have C := R.out.cells; replace hu := hu.trans (Upg.of_below hb); clear hb))
          go_step3
          exact ⟨rfl, frame90 _ _ _ _ _ _ _ _ _ _ _ _ _ _ _ _ _ _ _ _ _ _ _ _ _ _ _ _ _ _ _ _ _ _ _ _ _ _ _ _ _ _ _ _ _ _ _ _ _ _ _ _ _ _ _ _ _ _ _ _ _ _ _ _ _ _ _ _ _ _ _ _ _ _ _ _ _ _ _ _ _ _ _ _ _ _ _ _ _ _, ⟨hu, .inl ⟨k, by omega, by omega, R, Hr.out⟩⟩⟩
     | nest =>
       rw [hb0] at hf hrr
       simp only at hf hrr
       rw [hf.1] at hbl
       obtain ⟨_, f1, f2⟩ := hf
       obtain ⟨N, hN⟩ : ∃ N, N = nestF T.data.toList j 0 := ⟨_, rfl⟩
       rw [← hN] at hrr
       have HN := As.mk hN
       clear hN
       have Hr := As.mk hrr
       have hgc := As.mk hc
       clear hrr hb0 hc
       go_wp2_with (first
        | (go_at_call 13; (with_reducible refine (more_b R true d1).mono ?_); rintro e wn ⟨vn, rfl, rfl, hb⟩; replace R := R.below hb; clear C; have C := R.out.cells; replace hu := hu.trans (Upg.of_below hb); clear hb))
       go_still_tail 11, (by kernel_rfl)
       change wpList _ _ _ _ _ (World.drew _)
       have hb := (Below.refl (World.heap wn).size wn).drew
       generalize World.drew wn = w9 at hb ⊢
       replace R := R.below hb
       clear C
       have C := R.out.cells
       replace hu := hu.trans (Upg.of_below hb)
       clear hb
       go_wp2_with (first
        | (go_at_call 20; (with_reducible refine (idx_b [32, 10, 9, 13] c K HK.out _).mono ?_); rintro e wn ⟨rfl, rfl⟩)
        | (go_at_call 21; (with_reducible refine (sees_b R hj [59] false f1).mono ?_); rintro e wn ⟨vn, rfl, rfl, hb⟩; replace R := R.below hb; clear C; have C := R.out.cells; replace hu := hu.trans (Upg.of_below hb); clear hb)
        | (go_at_call 21; (with_reducible refine (sees_b R hj [35, 124] true f2).mono ?_); rintro e wn ⟨vn, rfl, rfl, hb⟩; replace R := R.below hb; clear C; have C := R.out.cells; replace hu := hu.trans (Upg.of_below hb); clear hb)
        | (go_at_call 22; (with_reducible refine (comment_any R hT f2).mono ?_); rintro e wn ⟨rfl, hq, hn⟩; replace hu := hu.trans hq; clear C hq R))
       rw [← HN.out] at hn
       cases N with
       | some e1 =>
         have R : RB wn g T e1 0 0 := hn
         have h1 := nestF_gt _ _ _ _ HN.out.symm
         have h2 := nestF_le T.data.toList _ _ _ _ (Nat.lt_succ_self _) HN.out.symm
         go_step3
         exact ⟨rfl, frame90 _ _ _ _ _ _ _ _ _ _ _ _ _ _ _ _ _ _ _ _ _ _ _ _ _ _ _ _ _ _ _ _ _ _ _ _ _ _ _ _ _ _ _ _ _ _ _ _ _ _ _ _ _ _ _ _ _ _ _ _ _ _ _ _ _ _ _ _ _ _ _ _ _ _ _ _ _ _ _ _ _ _ _ _ _ _ _ _ _ _, ⟨hu, .inl ⟨e1, by omega, by omega, R, Hr.out⟩⟩⟩
       | none =>
         obtain ⟨j2, R⟩ : ∃ j2, RB wn g T j2 T.size 10 := hn
         have Hr2 : As (r = .error (T.size, 10)) := ⟨by rw [Hr.out, hsl]⟩
         have HC : As ((10 : Nat) ≠ 0) := ⟨by decide⟩
         go_step3
         exact ⟨rfl, frame90 _ _ _ _ _ _ _ _ _ _ _ _ _ _ _ _ _ _ _ _ _ _ _ _ _ _ _ _ _ _ _ _ _ _ _ _ _ _ _ _ _ _ _ _ _ _ _ _ _ _ _ _ _ _ _ _ _ _ _ _ _ _ _ _ _ _ _ _ _ _ _ _ _ _ _ _ _ _ _ _ _ _ _ _ _ _ _ _ _ _, ⟨hu, .inr ⟨_, _, _, Hr2.out, HC.out, R⟩⟩⟩
     | skip =>
       rw [hb0] at hf hrr
       simp only at hf hrr
       rw [hf.1] at hbl
       obtain ⟨_, f1, f2, f3⟩ := hf
       have hj2 := (pre2_lt f3).2.2
       obtain ⟨q, hq, hrr⟩ := hrr
       have Hq := As.mk hq
       clear hq
       have HI := As.mk (IHn.out j hij hm hj2)
       have Hr := As.mk hrr
       have hgc := As.mk hc
       clear hrr hb0 hc
       go_wp2_with (first
        | (go_at_call 13; (with_reducible refine (more_b R true d1).mono ?_); rintro e wn ⟨vn, rfl, rfl, hb⟩; replace R := R.below hb; clear C; have C := R.out.cells; replace hu := hu.trans (Upg.of_below hb); clear hb))
       go_still_tail 11, (by kernel_rfl)
       change wpList _ _ _ _ _ (World.drew _)
       have hb := (Below.refl (World.heap wn).size wn).drew
       generalize World.drew wn = w9 at hb ⊢
       replace R := R.below hb
       clear C
       have C := R.out.cells
       replace hu := hu.trans (Upg.of_below hb)
       clear hb
       go_wp2_with (first
        | (go_at_call 20; (with_reducible refine (idx_b [32, 10, 9, 13] c K HK.out _).mono ?_); rintro e wn ⟨rfl, rfl⟩)
        | (go_at_call 21; (with_reducible refine (sees_b R hj [59] false f1).mono ?_); rintro e wn ⟨vn, rfl, rfl, hb⟩; replace R := R.below hb; clear C; have C := R.out.cells; replace hu := hu.trans (Upg.of_below hb); clear hb)
        | (go_at_call 21; (with_reducible refine (sees_b R hj [35, 124] false f2).mono ?_); rintro e wn ⟨vn, rfl, rfl, hb⟩; replace R := R.below hb; clear C; have C := R.out.cells; replace hu := hu.trans (Upg.of_below hb); clear hb)
        | (go_at_call 21; (with_reducible refine (sees_b R hj [35, 59] true f3).mono ?_); rintro e wn ⟨vn, rfl, rfl, hb⟩; replace R := R.below hb; clear C; have C := R.out.cells; replace hu := hu.trans (Upg.of_below hb); clear hb)
        | ((with_reducible refine g_store 86 ?_); go_must (refine ev_store rfl rfl R.out (news := [.int .i64 ((j + 2 : Nat) : Int)]) (by first | rfl | (go_simp; first | rfl | go_num | (simp; omega))) infoI (by simp) (by simp [Value.oneCell']) ?_); intro wn ho Bn; simp only [zI, zA, zC, zD, zE, zF, zH, zB, zG, Nat.reduceAdd] at Bn; have R2 : RB wn g T (j + 2) 0 0 := ⟨Bn⟩; clear Bn; have hq := Upg.of_only ho; clear C R; have R := R2; clear R2; have C := R.out.cells; replace hu := hu.trans hq; clear hq; clear ho)
        | (go_at_call 18; (with_reducible refine (PC.nextc HI.out hj2 hd R Hq.out).mono ?_); rintro e wn ⟨vn, rfl, hq, haf, _⟩; replace hu := hu.trans hq; clear C hq R))
       cases q with
       | ok xe =>
         obtain ⟨x, e1⟩ := xe
         obtain ⟨R, he1⟩ : RB wn g T e1 0 0 ∧ e1 ≤ T.size := haf
         have h1 : j + 2 < e1 := run_goes Hq.out rfl
         go_step3
         exact ⟨rfl, frame90 _ _ _ _ _ _ _ _ _ _ _ _ _ _ _ _ _ _ _ _ _ _ _ _ _ _ _ _ _ _ _ _ _ _ _ _ _ _ _ _ _ _ _ _ _ _ _ _ _ _ _ _ _ _ _ _ _ _ _ _ _ _ _ _ _ _ _ _ _ _ _ _ _ _ _ _ _ _ _ _ _ _ _ _ _ _ _ _ _ _, ⟨hu, .inl ⟨e1, by omega, by omega, R, Hr.out⟩⟩⟩
       | error pc =>
         obtain ⟨p, c2⟩ := pc
         obtain ⟨j2, R, hc2⟩ : ∃ j2, RB wn g T j2 (p : Int) (c2 : Int) ∧ c2 ≠ 0 := haf
         have HC := As.mk hc2
         go_step3
         exact ⟨rfl, frame90 _ _ _ _ _ _ _ _ _ _ _ _ _ _ _ _ _ _ _ _ _ _ _ _ _ _ _ _ _ _ _ _ _ _ _ _ _ _ _ _ _ _ _ _ _ _ _ _ _ _ _ _ _ _ _ _ _ _ _ _ _ _ _ _ _ _ _ _ _ _ _ _ _ _ _ _ _ _ _ _ _ _ _ _ _ _ _ _ _ _, ⟨hu, .inr ⟨_, _, _, Hr.out, HC.out, R⟩⟩⟩
     | stop =>
       rw [hb0] at hf hrr
       simp only at hf hrr
       obtain ⟨f0, f1, f2, f3⟩ := hf
       rw [f0] at hbl
       have Hr := As.mk hrr
       have hgc := As.mk hc
       clear hrr hb0 hc
       go_wp2_with (first
        | (go_at_call 13; (with_reducible refine (more_b R true d1).mono ?_); rintro e wn ⟨vn, rfl, rfl, hb⟩; replace R := R.below hb; clear C; have C := R.out.cells; replace hu := hu.trans (Upg.of_below hb); clear hb))
       go_still_tail 11, (by kernel_rfl)
       change wpList _ _ _ _ _ (World.drew _)
       have hb := (Below.refl (World.heap wn).size wn).drew
       generalize World.drew wn = w9 at hb ⊢
       replace R := R.below hb
       clear C
       have C := R.out.cells
       replace hu := hu.trans (Upg.of_below hb)
       clear hb
       go_wp2_with (first
        | (go_at_call 20; (with_reducible refine (idx_b [32, 10, 9, 13] c K HK.out _).mono ?_); rintro e wn ⟨rfl, rfl⟩)
        | (go_at_call 21; (with_reducible refine (sees_b R hj [59] false f1).mono ?_); rintro e wn ⟨vn, rfl, rfl, hb⟩; replace R := R.below hb; clear C; have C := R.out.cells; replace hu := hu.trans (Upg.of_below hb); clear hb)
        | (go_at_call 21; (with_reducible refine (sees_b R hj [35, 124] false f2).mono ?_); rintro e wn ⟨vn, rfl, rfl, hb⟩; replace R := R.below hb; clear C; have C := R.out.cells; replace hu := hu.trans (Upg.of_below hb); clear hb)
        | (go_at_call 21; (with_reducible refine (sees_b R hj [35, 59] false f3).mono ?_); rintro e wn ⟨vn, rfl, rfl, hb⟩; replace R := R.below hb; clear C; have C := R.out.cells; replace hu := hu.trans (Upg.of_below hb); clear hb))
       simp only [Exit.jump]
       refine bodyPost_ret (results_none rfl _ _ _) rfl ?_
       exact ⟨rfl, hu, by rw [Hr.out]; exact ⟨R, hj⟩⟩
   · have d1 : decide (j < T.size) = false := decide_eq_false hm
     have hrr := inv_blanks hr
     rw [bcls_ge (by omega)] at hrr
     have Hr : As (r = .ok (d0, j)) := ⟨hrr⟩
     clear hrr hr
     go_wp2_with (first
      | (go_at_call 13; (with_reducible refine (more_b R false d1).mono ?_); rintro e wn ⟨vn, rfl, rfl, hb⟩; replace R := R.below hb; clear C; have C := R.out.cells; replace hu := hu.trans (Upg.of_below hb); clear hb))
     simp only [Exit.jump]
     refine bodyPost_ret (results_none rfl _ _ _) rfl ?_
     exact ⟨rfl, hu, by rw [Hr.out]; exact ⟨R, hj⟩⟩
 · rintro a' wn ⟨⟨u, rfl⟩, ⟨hu, hst⟩⟩
   rcases hst with ⟨j, hij, hj, R, hr⟩ | ⟨j, p, c, hr, hc, R⟩
   · skip
     have Hat := As.mk R.at_
     have Her := As.mk R.err
     have C := R.out.cells
     by_cases hm : j < T.size
     · have d1 : decide (j < T.size) = true := decide_eq_true hm
       obtain ⟨c, hc⟩ := get_size T hm
       have hf := bcls_facts hc
       have hrr := inv_blanks hr
       have hcx : T[j]'hm = c := by
        have := (List.getElem?_eq_some_iff.1 hc).2
        rw [← this, ByteArray.getElem_eq_getElem_data]; simp
       have hmi : (j : Int) < (T.size : Int) := by omega
       obtain ⟨K, hK⟩ : ∃ K, K = Lib.indexByte [32, 10, 9, 13] c := ⟨_, rfl⟩
       have HK := As.mk hK.symm
       have hbl := blank_is c
       rw [← hK] at hbl
       clear hK hr
       cases hb0 : bcls T.data.toList j with
       | fin => rw [hb0] at hf; exact hf.elim
       | blank =>
         rw [hb0] at hf hrr
         simp only at hf hrr
         rw [hf] at hbl
         have Hr := As.mk hrr
         have hgc := As.mk hc
         clear hrr hb0 hc
         clear hf
         go_wp2_with (first
          | (go_at_call 13; (with_reducible refine (more_b R true d1).mono ?_); rintro e wn ⟨vn, rfl, rfl, hb⟩; replace R := R.below hb; clear C; have C := R.out.cells; replace hu := hu.trans (Upg.of_below hb); clear hb))
         go_still_tail 11, (by kernel_rfl)
         change wpList _ _ _ _ _ (World.drew _)
         have hb := (Below.refl (World.heap wn).size wn).drew
         generalize World.drew wn = w9 at hb ⊢
         replace R := R.below hb
         clear C
         have C := R.out.cells
         replace hu := hu.trans (Upg.of_below hb)
         clear hb
         go_wp2_with (first
          | (go_at_call 20; (with_reducible refine (idx_b [32, 10, 9, 13] c K HK.out _).mono ?_); rintro e wn ⟨rfl, rfl⟩)
          | ((with_reducible refine g_store 40 ?_); go_must (refine ev_store rfl rfl R.out (news := [.int .i64 ((j + 1 : Nat) : Int)]) (by first | rfl | (go_simp; first | rfl | go_num | (simp; omega))) infoI (by simp) (by simp [Value.oneCell']) ?_); intro wn ho Bn; simp only [zI, zA, zC, zD, zE, zF, zH, zB, zG, Nat.reduceAdd] at Bn; have R2 : RB wn g T (j + 1) 0 0 := ⟨Bn⟩; clear Bn; have hq := Upg.of_only ho; clear C R; have R := R2; clear R2; have C := R.out.cells; replace hu := hu.trans hq; clear hq; clear ho))
         go_step3
         refine ⟨rfl, ⟨frame90 _ _ _ _ _ _ _ _ _ _ _ _ _ _ _ _ _ _ _ _ _ _ _ _ _ _ _ _ _ _ _ _ _ _ _ _ _ _ _ _ _ _ _ _ _ _ _ _ _ _ _ _ _ _ _ _ _ _ _ _ _ _ _ _ _ _ _ _ _ _ _ _ _ _ _ _ _ _ _ _ _ _ _ _ _ _ _ _ _ _, ⟨hu, .inl ⟨j + 1, by omega, by omega, R, Hr.out⟩⟩⟩, ?_⟩
         rw [muB, muB, R.err, Hat.out, Her.out, R.at_, if_pos rfl, if_pos rfl]; omega
       | line =>
         rw [hb0] at hf hrr
         simp only at hf hrr
         rw [hf.1] at hbl
         have f1 := hf.2
         have hgt0 := lineEnd_gt (s := T.data.toList) (i := j) (by omega) (by rw [bcls_line hb0]; decide)
         have Hgt := As.mk hgt0
         clear hgt0
         have Hr := As.mk hrr
         have hgc := As.mk hc
         clear hrr hb0 hc
         go_wp2_with (first
          | (go_at_call 13; (with_reducible refine (more_b R true d1).mono ?_); rintro e wn ⟨vn, rfl, rfl, hb⟩; replace R := R.below hb; clear C; have C := R.out.cells; replace hu := hu.trans (Upg.of_below hb); clear hb))
         go_still_tail 11, (by kernel_rfl)
         change wpList _ _ _ _ _ (World.drew _)
         have hb := (Below.refl (World.heap wn).size wn).drew
         generalize World.drew wn = w9 at hb ⊢
         replace R := R.below hb
         clear C
         have C := R.out.cells
         replace hu := hu.trans (Upg.of_below hb)
         clear hb
         go_wp2_with (first
          | (go_at_call 20; (with_reducible refine (idx_b [32, 10, 9, 13] c K HK.out _).mono ?_); rintro e wn ⟨rfl, rfl⟩)
          | (go_at_call 21; (with_reducible refine (sees_b R hj [59] true f1).mono ?_); rintro e wn ⟨vn, rfl, rfl, hb⟩; replace R := R.below hb; clear C; have C := R.out.cells; replace hu := hu.trans (Upg.of_below hb); clear hb))
         obtain ⟨wo, rfl⟩ : ∃ wo : World, wo = wn := ⟨_, rfl⟩
         clear C
         go_loopw [] (fun wr => ∃ k : Nat, j ≤ k ∧ k ≤ T.size ∧ As (lineEnd T.data.toList k = lineEnd T.data.toList j) ∧ RB wr g T k 0 0 ∧ Upg g w wr) (fun wr => T.size - atOf wr g)
         case atStart => exact ⟨j, Nat.le_refl _, hj, ⟨rfl⟩, R, hu⟩
         case round =>
          clear R hu
          obtain ⟨k, hjk, hk, hle, R, hu⟩ := hrel
          have C := R.out.cells
          have hatk := As.mk R.at_
          by_cases hmk : k < T.size
          · have d2 : decide (k < T.size) = true := decide_eq_true hmk
            have hli := lineEnd_in (s := T.data.toList) (i := k) (by omega)
            cases a1 : pre T.data.toList k [10] with
            | true =>
              rw [if_pos a1] at hli
              have hlk : lineEnd T.data.toList j = k := by rw [← hle.out, hli]
              replace Hr : As (Run T.data.toList (.blanks d k) r) := ⟨hlk ▸ Hr.out⟩
              have hgt : j < k := hlk ▸ Hgt.out
              clear hli hlk Hgt
              go_wp2_with (first
               | (go_at_call 13; (with_reducible refine (more_b R true d2).mono ?_); rintro e wn ⟨vn, rfl, rfl, hb⟩; replace R := R.below hb; clear C; have C := R.out.cells; replace hu := hu.trans (Upg.of_below hb); clear hb)
               | (go_at_call 21; (with_reducible refine (sees_b R hk [10] true a1).mono ?_); rintro e wn ⟨vn, rfl, rfl, hb⟩; replace R := R.below hb; clear C; have C := R.out.cells; replace hu := hu.trans (Upg.of_below hb); clear hb))
              go_step3
              refine ⟨rfl, ⟨frame90 _ _ _ _ _ _ _ _ _ _ _ _ _ _ _ _ _ _ _ _ _ _ _ _ _ _ _ _ _ _ _ _ _ _ _ _ _ _ _ _ _ _ _ _ _ _ _ _ _ _ _ _ _ _ _ _ _ _ _ _ _ _ _ _ _ _ _ _ _ _ _ _ _ _ _ _ _ _ _ _ _ _ _ _ _ _ _ _ _ _, ⟨hu, .inl ⟨k, by omega, by omega, R, Hr.out⟩⟩⟩, ?_⟩
              rw [muB, muB, R.err, Hat.out, Her.out, R.at_, if_pos rfl, if_pos rfl]; omega
            | false =>
              rw [if_neg (by rw [a1]; decide)] at hli
              have Hle : As (lineEnd T.data.toList (k + 1) = lineEnd T.data.toList j) := ⟨by rw [← hli, hle.out]⟩
              clear hli
              go_wp2_with (first
               | (go_at_call 13; (with_reducible refine (more_b R true d2).mono ?_); rintro e wn ⟨vn, rfl, rfl, hb⟩; replace R := R.below hb; clear C; have C := R.out.cells; replace hu := hu.trans (Upg.of_below hb); clear hb)
               | (go_at_call 21; (with_reducible refine (sees_b R hk [10] false a1).mono ?_); rintro e wn ⟨vn, rfl, rfl, hb⟩; replace R := R.below hb; clear C; have C := R.out.cells; replace hu := hu.trans (Upg.of_below hb); clear hb)
               | ((with_reducible refine g_store 65 ?_); go_must (refine ev_store rfl rfl R.out (news := [.int .i64 ((k + 1 : Nat) : Int)]) (by first | rfl | (go_simp; first | rfl | go_num | (simp; omega))) infoI (by simp) (by simp [Value.oneCell']) ?_); intro wn ho Bn; simp only [zI, zA, zC, zD, zE, zF, zH, zB, zG, Nat.reduceAdd] at Bn; have R2 : RB wn g T (k + 1) 0 0 := ⟨Bn⟩; clear Bn; have hq := Upg.of_only ho; clear C R; have R := R2; clear R2; have C := R.out.cells; replace hu := hu.trans hq; clear hq; clear ho))
              go_roundw
              case rel => exact ⟨k + 1, by omega, by omega, Hle, R, hu⟩
              case measure => rw [R.at_, hatk.out]; omega
          · have d2 : decide (k < T.size) = false := decide_eq_false hmk
            have hlk : lineEnd T.data.toList j = k := by rw [← hle.out, lineEnd_len (by omega)]
            replace Hr : As (Run T.data.toList (.blanks d k) r) := ⟨hlk ▸ Hr.out⟩
            have hgt : j < k := hlk ▸ Hgt.out
            clear hlk Hgt
            go_wp2_with (first
             | (go_at_call 13; (with_reducible refine (more_b R false d2).mono ?_); rintro e wn ⟨vn, rfl, rfl, hb⟩; replace R := R.below hb; clear C; have C := R.out.cells; replace hu := hu.trans (Upg.of_below hb); clear hb))
            go_step3
            refine ⟨rfl, ⟨frame90 _ _ _ _ _ _ _ _ _ _ _ _ _ _ _ _ _ _ _ _ _ _ _ _ _ _ _ _ _ _ _ _ _ _ _ _ _ _ _ _ _ _ _ _ _ _ _ _ _ _ _ _ _ _ _ _ _ _ _ _ _ _ _ _ _ _ _ _ _ _ _ _ _ _ _ _ _ _ _ _ _ _ _ _ _ _ _ _ _ _, ⟨hu, .inl ⟨k, by omega, by omega, R, Hr.out⟩⟩⟩, ?_⟩
            rw [muB, muB, R.err, Hat.out, Her.out, R.at_, if_pos rfl, if_pos rfl]; omega
       | nest =>
         rw [hb0] at hf hrr
         simp only at hf hrr
         rw [hf.1] at hbl
         obtain ⟨_, f1, f2⟩ := hf
         obtain ⟨N, hN⟩ : ∃ N, N = nestF T.data.toList j 0 := ⟨_, rfl⟩
         rw [← hN] at hrr
         have HN := As.mk hN
         clear hN
         have Hr := As.mk hrr
         have hgc := As.mk hc
         clear hrr hb0 hc
         go_wp2_with (first
          | (go_at_call 13; (with_reducible refine (more_b R true d1).mono ?_); rintro e wn ⟨vn, rfl, rfl, hb⟩; replace R := R.below hb; clear C; have C := R.out.cells; replace hu := hu.trans (Upg.of_below hb); clear hb))
         go_still_tail 11, (by kernel_rfl)
         change wpList _ _ _ _ _ (World.drew _)
         have hb := (Below.refl (World.heap wn).size wn).drew
         generalize World.drew wn = w9 at hb ⊢
         replace R := R.below hb
         clear C
         have C := R.out.cells
         replace hu := hu.trans (Upg.of_below hb)
         clear hb
         go_wp2_with (first
          | (go_at_call 20; (with_reducible refine (idx_b [32, 10, 9, 13] c K HK.out _).mono ?_); rintro e wn ⟨rfl, rfl⟩)
          | (go_at_call 21; (with_reducible refine (sees_b R hj [59] false f1).mono ?_); rintro e wn ⟨vn, rfl, rfl, hb⟩; replace R := R.below hb; clear C; have C := R.out.cells; replace hu := hu.trans (Upg.of_below hb); clear hb)
          | (go_at_call 21; (with_reducible refine (sees_b R hj [35, 124] true f2).mono ?_); rintro e wn ⟨vn, rfl, rfl, hb⟩; replace R := R.below hb; clear C; have C := R.out.cells; replace hu := hu.trans (Upg.of_below hb); clear hb)
          | (go_at_call 22; (with_reducible refine (comment_any R hT f2).mono ?_); rintro e wn ⟨rfl, hq, hn⟩; replace hu := hu.trans hq; clear C hq R))
         rw [← HN.out] at hn
         cases N with
         | some e1 =>
           have R : RB wn g T e1 0 0 := hn
           have h1 := nestF_gt _ _ _ _ HN.out.symm
           have h2 := nestF_le T.data.toList _ _ _ _ (Nat.lt_succ_self _) HN.out.symm
           go_step3
           refine ⟨rfl, ⟨frame90 _ _ _ _ _ _ _ _ _ _ _ _ _ _ _ _ _ _ _ _ _ _ _ _ _ _ _ _ _ _ _ _ _ _ _ _ _ _ _ _ _ _ _ _ _ _ _ _ _ _ _ _ _ _ _ _ _ _ _ _ _ _ _ _ _ _ _ _ _ _ _ _ _ _ _ _ _ _ _ _ _ _ _ _ _ _ _ _ _ _, ⟨hu, .inl ⟨e1, by omega, by omega, R, Hr.out⟩⟩⟩, ?_⟩
           rw [muB, muB, R.err, Hat.out, Her.out, R.at_, if_pos rfl, if_pos rfl]; omega
         | none =>
           obtain ⟨j2, R⟩ : ∃ j2, RB wn g T j2 T.size 10 := hn
           have Hr2 : As (r = .error (T.size, 10)) := ⟨by rw [Hr.out, hsl]⟩
           have HC : As ((10 : Nat) ≠ 0) := ⟨by decide⟩
           go_step3
           refine ⟨rfl, ⟨frame90 _ _ _ _ _ _ _ _ _ _ _ _ _ _ _ _ _ _ _ _ _ _ _ _ _ _ _ _ _ _ _ _ _ _ _ _ _ _ _ _ _ _ _ _ _ _ _ _ _ _ _ _ _ _ _ _ _ _ _ _ _ _ _ _ _ _ _ _ _ _ _ _ _ _ _ _ _ _ _ _ _ _ _ _ _ _ _ _ _ _, ⟨hu, .inr ⟨_, _, _, Hr2.out, HC.out, R⟩⟩⟩, ?_⟩
           rw [muB, muB, R.err, Hat.out, Her.out, if_neg (by have := HC.out; omega), if_pos rfl]; omega
       | skip =>
         rw [hb0] at hf hrr
         simp only at hf hrr
         rw [hf.1] at hbl
         obtain ⟨_, f1, f2, f3⟩ := hf
         have hj2 := (pre2_lt f3).2.2
         obtain ⟨q, hq, hrr⟩ := hrr
         have Hq := As.mk hq
         clear hq
         have HI := As.mk (IHn.out j hij hm hj2)
         have Hr := As.mk hrr
         have hgc := As.mk hc
         clear hrr hb0 hc
         go_wp2_with (first
          | (go_at_call 13; (with_reducible refine (more_b R true d1).mono ?_); rintro e wn ⟨vn, rfl, rfl, hb⟩; replace R := R.below hb; clear C; have C := R.out.cells; replace hu := hu.trans (Upg.of_below hb); clear hb))
         go_still_tail 11, (by kernel_rfl)
         change wpList _ _ _ _ _ (World.drew _)
         have hb := (Below.refl (World.heap wn).size wn).drew
         generalize World.drew wn = w9 at hb ⊢
         replace R := R.below hb
         clear C
         have C := R.out.cells
         replace hu := hu.trans (Upg.of_below hb)
         clear hb
         go_wp2_with (first
          | (go_at_call 20; (with_reducible refine (idx_b [32, 10, 9, 13] c K HK.out _).mono ?_); rintro e wn ⟨rfl, rfl⟩)
          | (go_at_call 21; (with_reducible refine (sees_b R hj [59] false f1).mono ?_); rintro e wn ⟨vn, rfl, rfl, hb⟩; replace R := R.below hb; clear C; have C := R.out.cells; replace hu := hu.trans (Upg.of_below hb); clear hb)
          | (go_at_call 21; (with_reducible refine (sees_b R hj [35, 124] false f2).mono ?_); rintro e wn ⟨vn, rfl, rfl, hb⟩; replace R := R.below hb; clear C; have C := R.out.cells; replace hu := hu.trans (Upg.of_below hb); clear hb)
          | (go_at_call 21; (with_reducible refine (sees_b R hj [35, 59] true f3).mono ?_); rintro e wn ⟨vn, rfl, rfl, hb⟩; replace R := R.below hb; clear C; have C := R.out.cells; replace hu := hu.trans (Upg.of_below hb); clear hb)
          | ((with_reducible refine g_store 86 ?_); go_must (refine ev_store rfl rfl R.out (news := [.int .i64 ((j + 2 : Nat) : Int)]) (by first | rfl | (go_simp; first | rfl | go_num | (simp; omega))) infoI (by simp) (by simp [Value.oneCell']) ?_); intro wn ho Bn; simp only [zI, zA, zC, zD, zE, zF, zH, zB, zG, Nat.reduceAdd] at Bn; have R2 : RB wn g T (j + 2) 0 0 := ⟨Bn⟩; clear Bn; have hq := Upg.of_only ho; clear C R; have R := R2; clear R2; have C := R.out.cells; replace hu := hu.trans hq; clear hq; clear ho)
          | (go_at_call 18; (with_reducible refine (PC.nextc HI.out hj2 hd R Hq.out).mono ?_); rintro e wn ⟨vn, rfl, hq, haf, _⟩; replace hu := hu.trans hq; clear C hq R))
         cases q with
         | ok xe =>
           obtain ⟨x, e1⟩ := xe
           obtain ⟨R, he1⟩ : RB wn g T e1 0 0 ∧ e1 ≤ T.size := haf
           have h1 : j + 2 < e1 := run_goes Hq.out rfl
           go_step3
           refine ⟨rfl, ⟨frame90 _ _ _ _ _ _ _ _ _ _ _ _ _ _ _ _ _ _ _ _ _ _ _ _ _ _ _ _ _ _ _ _ _ _ _ _ _ _ _ _ _ _ _ _ _ _ _ _ _ _ _ _ _ _ _ _ _ _ _ _ _ _ _ _ _ _ _ _ _ _ _ _ _ _ _ _ _ _ _ _ _ _ _ _ _ _ _ _ _ _, ⟨hu, .inl ⟨e1, by omega, by omega, R, Hr.out⟩⟩⟩, ?_⟩
           rw [muB, muB, R.err, Hat.out, Her.out, R.at_, if_pos rfl, if_pos rfl]; omega
         | error pc =>
           obtain ⟨p, c2⟩ := pc
           obtain ⟨j2, R, hc2⟩ : ∃ j2, RB wn g T j2 (p : Int) (c2 : Int) ∧ c2 ≠ 0 := haf
           have HC := As.mk hc2
           go_step3
           refine ⟨rfl, ⟨frame90 _ _ _ _ _ _ _ _ _ _ _ _ _ _ _ _ _ _ _ _ _ _ _ _ _ _ _ _ _ _ _ _ _ _ _ _ _ _ _ _ _ _ _ _ _ _ _ _ _ _ _ _ _ _ _ _ _ _ _ _ _ _ _ _ _ _ _ _ _ _ _ _ _ _ _ _ _ _ _ _ _ _ _ _ _ _ _ _ _ _, ⟨hu, .inr ⟨_, _, _, Hr.out, HC.out, R⟩⟩⟩, ?_⟩
           rw [muB, muB, R.err, Hat.out, Her.out, if_neg (by have := HC.out; omega), if_pos rfl]; omega
       | stop =>
         rw [hb0] at hf hrr
         simp only at hf hrr
         obtain ⟨f0, f1, f2, f3⟩ := hf
         rw [f0] at hbl
         have Hr := As.mk hrr
         have hgc := As.mk hc
         clear hrr hb0 hc
         go_wp2_with (first
          | (go_at_call 13; (with_reducible refine (more_b R true d1).mono ?_); rintro e wn ⟨vn, rfl, rfl, hb⟩; replace R := R.below hb; clear C; have C := R.out.cells; replace hu := hu.trans (Upg.of_below hb); clear hb))
         go_still_tail 11, (by kernel_rfl)
         change wpList _ _ _ _ _ (World.drew _)
         have hb := (Below.refl (World.heap wn).size wn).drew
         generalize World.drew wn = w9 at hb ⊢
         replace R := R.below hb
         clear C
         have C := R.out.cells
         replace hu := hu.trans (Upg.of_below hb)
         clear hb
         go_wp2_with (first
          | (go_at_call 20; (with_reducible refine (idx_b [32, 10, 9, 13] c K HK.out _).mono ?_); rintro e wn ⟨rfl, rfl⟩)
          | (go_at_call 21; (with_reducible refine (sees_b R hj [59] false f1).mono ?_); rintro e wn ⟨vn, rfl, rfl, hb⟩; replace R := R.below hb; clear C; have C := R.out.cells; replace hu := hu.trans (Upg.of_below hb); clear hb)
          | (go_at_call 21; (with_reducible refine (sees_b R hj [35, 124] false f2).mono ?_); rintro e wn ⟨vn, rfl, rfl, hb⟩; replace R := R.below hb; clear C; have C := R.out.cells; replace hu := hu.trans (Upg.of_below hb); clear hb)
          | (go_at_call 21; (with_reducible refine (sees_b R hj [35, 59] false f3).mono ?_); rintro e wn ⟨vn, rfl, rfl, hb⟩; replace R := R.below hb; clear C; have C := R.out.cells; replace hu := hu.trans (Upg.of_below hb); clear hb))
         simp only [Exit.jump]
         refine bodyPost_ret (results_none rfl _ _ _) rfl ?_
         exact ⟨rfl, hu, by rw [Hr.out]; exact ⟨R, hj⟩⟩
     · have d1 : decide (j < T.size) = false := decide_eq_false hm
       have hrr := inv_blanks hr
       rw [bcls_ge (by omega)] at hrr
       have Hr : As (r = .ok (d0, j)) := ⟨hrr⟩
       clear hrr hr
       go_wp2_with (first
        | (go_at_call 13; (with_reducible refine (more_b R false d1).mono ?_); rintro e wn ⟨vn, rfl, rfl, hb⟩; replace R := R.below hb; clear C; have C := R.out.cells; replace hu := hu.trans (Upg.of_below hb); clear hb))
       simp only [Exit.jump]
       refine bodyPost_ret (results_none rfl _ _ _) rfl ?_
       exact ⟨rfl, hu, by rw [Hr.out]; exact ⟨R, hj⟩⟩
   · have C := R.out.cells
     have Hr := As.mk hr
     have hz : ((c : Int) != 0) = true := by simpa using hc
     clear hr
     go_wp2
     simp only [Exit.jump]
     refine bodyPost_ret (results_none rfl _ _ _) rfl ?_
     exact ⟨rfl, hu, by rw [Hr.out]; exact ⟨_, R, hc⟩⟩
end Go.Proofs.YtdapbegadhcpcaaGreatDoor
