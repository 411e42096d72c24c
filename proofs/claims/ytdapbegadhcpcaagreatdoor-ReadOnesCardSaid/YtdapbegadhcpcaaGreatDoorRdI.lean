/- A part of the proof. -/
import Derived.Test.YtdapbegadhcpcaaGreatDoorRdG
import Derived.Test.YtdapbegadhcpcaaGreatDoorMB
set_option linter.unusedVariables false
set_option linter.unusedSimpArgs false
namespace Go.Proofs.YtdapbegadhcpcaaGreatDoor
open Go.RowKit Go.Proofs.YtdapbegadhcpcaaGreatDoorL Go.Proofs.YtdapbegadhcpcaaGreatDoorM
def codeS (s : List UInt8) : Nat → Nat → Nat → Except Bool (Nat × Nat)
 | m, V, k => match s[k]? with
   | none => .error true
   | some c => if m < 2 ∧ c = 59 then .ok (V, k) else match m with
     | 0 => .error false
     | m + 1 => match hexD c with
       | none => .error false
       | some a => codeS s m (16 * V + a) (k + 1)
theorem codeF_S (s : List UInt8) (i : Nat) : codeF s i = codeS s 2 0 i := by
 unfold codeF
 rw [codeS]
 cases h0 : s[i]? with
 | none => rfl
 | some c =>
   simp only [Nat.lt_irrefl, false_and, if_false]
   cases h1 : hexD c with
   | none => rfl
   | some a =>
     simp only
     rw [codeS]
     cases h2 : s[i + 1]? with
     | none => rfl
     | some d =>
       by_cases h3 : d = 59
       · simp [h3]
       · simp only [h3, and_false, if_false]
         cases h4 : hexD d with
         | none => rfl
         | some b =>
           simp only
           rw [codeS]
           cases h5 : s[i + 1 + 1]? with
           | none => rfl
           | some e =>
             by_cases h6 : e = 59
             · simp [h6]
             · simp [h6]
def CodeP (w : World) (g : Nat) (T : ByteArray) (b : Nat) (v : Value) : Except Bool (Nat × Nat) → Prop
 | .ok (x, e) => v = .tuple #[.int .u8 (x : Int), .bool true] ∧ RB w g T e 0 0 ∧ x < 256
 | .error true => v = .tuple #[.int .u8 0, .bool false] ∧ ∃ j, RB w g T j T.size 10
 | .error false => v = .tuple #[.int .u8 0, .bool false] ∧ ∃ j, RB w g T j b 13
set_option maxRecDepth 8000 in
set_option maxHeartbeats 4000000 in
theorem code_any {w : World} {g i b : Nat} {T : ByteArray} (R : RB w g T i 0 0) (hi : i < T.size) (hT : T.size ≤ 65536) :
 Calls Tryz.prog 57 #[.pointer (some ⟨g, 0, none⟩), .int .i64 (b : Int)] w fun x w' => ∃ v, x = .returned v ∧ Upg g w w' ∧ CodeP w' g T b v (codeF T.data.toList (i + 1)) := by
 have hsl := size_list T
 obtain ⟨Q, hQ⟩ : ∃ Q, Q = codeF T.data.toList (i + 1) := ⟨_, rfl⟩
 rw [← hQ]
 rw [codeF_S] at hQ
 have hQ0 := As.mk hQ
 clear hQ
 go_enter Tryz.func57, Tryz.ntmps57
 go_wp2
 go_loopw [6, 7] (fun v n wr => ∃ m V j : Nat, m ≤ 2 ∧ n = .int .i64 ((2 - m : Nat) : Int) ∧ v = .int .i64 (V : Int) ∧ V < 256 ∧ As ((m = 2 → V = 0) ∧ (1 ≤ m → V < 16)) ∧ j < T.size ∧ As (Q = codeS T.data.toList m V (j + 1)) ∧ RB wr g T j 0 0 ∧ Upg g w wr) (fun _ _ wr => T.size - atOf wr g)
 case atStart => exact ⟨2, 0, i, by omega, rfl, rfl, by omega, ⟨⟨fun _ => rfl, fun _ => by omega⟩⟩, hi, hQ0, R, Upg.refl _ _⟩
 case round =>
  clear R
  obtain ⟨m, V, j, hm, rfl, rfl, hV, hV2, hj, hcd, R, hu⟩ := hrel
  have C := R.out.cells
  have hat := As.mk R.at_
  have hcd2 := hcd.out
  rw [codeS] at hcd2
  obtain ⟨k, hkj⟩ : ∃ k, k = j + 1 := ⟨_, rfl⟩
  rw [← hkj] at hcd2
  have hjk : (j : Int) + 1 = (k : Int) := by omega
  clear hkj
  by_cases hk : k < T.size
  · have d1 : decide (k < T.size) = true := decide_eq_true hk
    have hk2 : k ≤ T.size := by omega
    obtain ⟨c, hc⟩ := get_size T hk
    rw [hc] at hcd2
    simp only at hcd2
    have f0 := pre1 hc 59
    have hcx : T[k]'hk = c := by
     have := (List.getElem?_eq_some_iff.1 hc).2
     rw [← this, ByteArray.getElem_eq_getElem_data]; simp
    have hki : (k : Int) < (T.size : Int) := by omega
    have Hc := As.mk hc
    clear hc hcd
    rcases (show m = 2 ∨ m = 1 ∨ m = 0 by omega) with rfl | rfl | rfl
    · clear f0
      have hhx := hex_is c
      cases hd : hexD c with
      | none =>
        rw [hd] at hhx
        have HI := As.mk (fun W => idx_b hexs c (-1) hhx W)
        simp only [hexs] at HI
        have HQ : As (Q = .error false) := ⟨by rw [hcd2, if_neg (fun h => absurd h.1 (by omega)), hd]⟩
        clear hhx hd hcd2
        go_wp2_with (first
         | ((with_reducible refine g_store 19 ?_); go_must (refine ev_store rfl rfl R.out (news := [.int .i64 ((k : Nat) : Int)]) (by first | rfl | (go_simp; first | rfl | go_num | (simp; omega))) infoI (by simp) (by simp [Value.oneCell']) ?_); intro wn ho Bn; simp only [zI, zA, zC, zD, zE, zF, zH, zB, zG, Nat.reduceAdd] at Bn; have R2 : RB wn g T (k) 0 0 := ⟨Bn⟩; clear Bn; have hq := Upg.of_only ho; clear C R; have R := R2; clear R2; have C := R.out.cells; replace hu := hu.trans hq; clear hq; clear ho)
         | (go_at_call 13; (with_reducible refine (more_b R true d1).mono ?_); rintro e wn ⟨vn, rfl, rfl, hb⟩; replace R := R.below hb; clear C; have C := R.out.cells; replace hu := hu.trans (Upg.of_below hb); clear hb))
        go_still_tail 11, (by kernel_rfl)
        change wpList _ _ _ _ _ (World.drew _)
        have hb := (Below.refl (World.heap wn).size wn).drew
        generalize World.drew wn = w9 at hb ⊢
        replace R := R.below hb
        clear C
        have C := R.out.cells
        replace hu := hu.trans (Upg.of_below hb)
        clear hb
        go_wp2_with (first
         | (go_at_call 20; (with_reducible refine (HI.out _).mono ?_); rintro e wn ⟨rfl, rfl⟩)
         | (go_at_call 24; (with_reducible refine (fail_ok R (b : Int) 13).mono ?_); rintro e wn ⟨rfl, ho, R2⟩; have hq := Upg.of_only ho; clear C R; have R := R2; clear R2; have C := R.out.cells; replace hu := hu.trans hq; clear hq))
        go_ret2
        exact ⟨_, rfl, hu, by rw [HQ.out]; exact ⟨rfl, _, R⟩⟩
      | some a =>
        rw [hd] at hhx
        have ha := hexD_lt hd
        have HI := As.mk (fun W => idx_b hexs c (a : Int) hhx W)
        simp only [hexs] at HI
        have HQ : As (Q = codeS T.data.toList 1 (16 * V + a) (k + 1)) := ⟨by rw [hcd2, if_neg (fun h => absurd h.1 (by omega)), hd]⟩
        have hsh := or16 V a (hV2.out.2 (by omega)) ha
        have HV0 := As.mk (hV2.out.1 rfl)
        have HV6 : As (V < 16) := ⟨hV2.out.2 (by omega)⟩
        clear hhx hd hcd2
        go_wp2_with (first
         | ((with_reducible refine g_store 19 ?_); go_must (refine ev_store rfl rfl R.out (news := [.int .i64 ((k : Nat) : Int)]) (by first | rfl | (go_simp; first | rfl | go_num | (simp; omega))) infoI (by simp) (by simp [Value.oneCell']) ?_); intro wn ho Bn; simp only [zI, zA, zC, zD, zE, zF, zH, zB, zG, Nat.reduceAdd] at Bn; have R2 : RB wn g T (k) 0 0 := ⟨Bn⟩; clear Bn; have hq := Upg.of_only ho; clear C R; have R := R2; clear R2; have C := R.out.cells; replace hu := hu.trans hq; clear hq; clear ho)
         | (go_at_call 13; (with_reducible refine (more_b R true d1).mono ?_); rintro e wn ⟨vn, rfl, rfl, hb⟩; replace R := R.below hb; clear C; have C := R.out.cells; replace hu := hu.trans (Upg.of_below hb); clear hb))
        go_still_tail 11, (by kernel_rfl)
        change wpList _ _ _ _ _ (World.drew _)
        have hb := (Below.refl (World.heap wn).size wn).drew
        generalize World.drew wn = w9 at hb ⊢
        replace R := R.below hb
        clear C
        have C := R.out.cells
        replace hu := hu.trans (Upg.of_below hb)
        clear hb
        go_wp2_with (first
         | (go_at_call 20; (with_reducible refine (HI.out _).mono ?_); rintro e wn ⟨rfl, rfl⟩))
        go_roundw
        case rel => exact ⟨1, 16 * V + a, k, by omega, by first | rfl | go_num, congrArg _ (by omega), by have := HV6.out; omega, ⟨⟨fun h => by omega, fun h => by have := HV0.out; omega⟩⟩, hk, HQ, R, hu⟩
        case measure => rw [R.at_, hat.out]; omega
    · by_cases hc59 : c = 59
      · have f1 : pre T.data.toList k [59] = true := by rw [f0]; simp [hc59]
        have HQ : As (Q = .ok (V, k)) := ⟨by rw [hcd2, if_pos ⟨by omega, hc59⟩]⟩
        have ew : IntKind.u8.wrap (V : Int) = (V : Int) := IntWalk.u8_in _ (by omega)
        clear f0 hcd2 hc59
        go_wp2_with (first
         | ((with_reducible refine g_store 19 ?_); go_must (refine ev_store rfl rfl R.out (news := [.int .i64 ((k : Nat) : Int)]) (by first | rfl | (go_simp; first | rfl | go_num | (simp; omega))) infoI (by simp) (by simp [Value.oneCell']) ?_); intro wn ho Bn; simp only [zI, zA, zC, zD, zE, zF, zH, zB, zG, Nat.reduceAdd] at Bn; have R2 : RB wn g T (k) 0 0 := ⟨Bn⟩; clear Bn; have hq := Upg.of_only ho; clear C R; have R := R2; clear R2; have C := R.out.cells; replace hu := hu.trans hq; clear hq; clear ho)
         | (go_at_call 13; (with_reducible refine (more_b R true d1).mono ?_); rintro e wn ⟨vn, rfl, rfl, hb⟩; replace R := R.below hb; clear C; have C := R.out.cells; replace hu := hu.trans (Upg.of_below hb); clear hb)
         | (go_at_call 21; (with_reducible refine (sees_b R hk2 [59] true f1).mono ?_); rintro e wn ⟨vn, rfl, rfl, hb⟩; replace R := R.below hb; clear C; have C := R.out.cells; replace hu := hu.trans (Upg.of_below hb); clear hb))
        go_ret2
        exact ⟨_, rfl, hu, by rw [HQ.out]; exact ⟨rfl, R, hV⟩⟩
      · have f1 : pre T.data.toList k [59] = false := by rw [f0]; simpa using fun h => hc59 h.symm
        clear f0
        have hhx := hex_is c
        cases hd : hexD c with
        | none =>
          rw [hd] at hhx
          have HI := As.mk (fun W => idx_b hexs c (-1) hhx W)
          simp only [hexs] at HI
          have HQ : As (Q = .error false) := ⟨by rw [hcd2, if_neg (fun h => hc59 h.2), hd]⟩
          clear hhx hd hcd2
          go_wp2_with (first
           | ((with_reducible refine g_store 19 ?_); go_must (refine ev_store rfl rfl R.out (news := [.int .i64 ((k : Nat) : Int)]) (by first | rfl | (go_simp; first | rfl | go_num | (simp; omega))) infoI (by simp) (by simp [Value.oneCell']) ?_); intro wn ho Bn; simp only [zI, zA, zC, zD, zE, zF, zH, zB, zG, Nat.reduceAdd] at Bn; have R2 : RB wn g T (k) 0 0 := ⟨Bn⟩; clear Bn; have hq := Upg.of_only ho; clear C R; have R := R2; clear R2; have C := R.out.cells; replace hu := hu.trans hq; clear hq; clear ho)
           | (go_at_call 13; (with_reducible refine (more_b R true d1).mono ?_); rintro e wn ⟨vn, rfl, rfl, hb⟩; replace R := R.below hb; clear C; have C := R.out.cells; replace hu := hu.trans (Upg.of_below hb); clear hb)
           | (go_at_call 21; (with_reducible refine (sees_b R hk2 [59] false f1).mono ?_); rintro e wn ⟨vn, rfl, rfl, hb⟩; replace R := R.below hb; clear C; have C := R.out.cells; replace hu := hu.trans (Upg.of_below hb); clear hb))
          go_still_tail 11, (by kernel_rfl)
          change wpList _ _ _ _ _ (World.drew _)
          have hb := (Below.refl (World.heap wn).size wn).drew
          generalize World.drew wn = w9 at hb ⊢
          replace R := R.below hb
          clear C
          have C := R.out.cells
          replace hu := hu.trans (Upg.of_below hb)
          clear hb
          go_wp2_with (first
           | (go_at_call 20; (with_reducible refine (HI.out _).mono ?_); rintro e wn ⟨rfl, rfl⟩)
           | (go_at_call 24; (with_reducible refine (fail_ok R (b : Int) 13).mono ?_); rintro e wn ⟨rfl, ho, R2⟩; have hq := Upg.of_only ho; clear C R; have R := R2; clear R2; have C := R.out.cells; replace hu := hu.trans hq; clear hq))
          go_ret2
          exact ⟨_, rfl, hu, by rw [HQ.out]; exact ⟨rfl, _, R⟩⟩
        | some a =>
          rw [hd] at hhx
          have ha := hexD_lt hd
          have HI := As.mk (fun W => idx_b hexs c (a : Int) hhx W)
          simp only [hexs] at HI
          have HQ : As (Q = codeS T.data.toList 0 (16 * V + a) (k + 1)) := ⟨by rw [hcd2, if_neg (fun h => hc59 h.2), hd]⟩
          have hsh := or16 V a (hV2.out.2 (by omega)) ha
          skip
          have HV6 : As (V < 16) := ⟨hV2.out.2 (by omega)⟩
          clear hhx hd hcd2
          go_wp2_with (first
           | ((with_reducible refine g_store 19 ?_); go_must (refine ev_store rfl rfl R.out (news := [.int .i64 ((k : Nat) : Int)]) (by first | rfl | (go_simp; first | rfl | go_num | (simp; omega))) infoI (by simp) (by simp [Value.oneCell']) ?_); intro wn ho Bn; simp only [zI, zA, zC, zD, zE, zF, zH, zB, zG, Nat.reduceAdd] at Bn; have R2 : RB wn g T (k) 0 0 := ⟨Bn⟩; clear Bn; have hq := Upg.of_only ho; clear C R; have R := R2; clear R2; have C := R.out.cells; replace hu := hu.trans hq; clear hq; clear ho)
           | (go_at_call 13; (with_reducible refine (more_b R true d1).mono ?_); rintro e wn ⟨vn, rfl, rfl, hb⟩; replace R := R.below hb; clear C; have C := R.out.cells; replace hu := hu.trans (Upg.of_below hb); clear hb)
           | (go_at_call 21; (with_reducible refine (sees_b R hk2 [59] false f1).mono ?_); rintro e wn ⟨vn, rfl, rfl, hb⟩; replace R := R.below hb; clear C; have C := R.out.cells; replace hu := hu.trans (Upg.of_below hb); clear hb))
          go_still_tail 11, (by kernel_rfl)
          change wpList _ _ _ _ _ (World.drew _)
          have hb := (Below.refl (World.heap wn).size wn).drew
          generalize World.drew wn = w9 at hb ⊢
          replace R := R.below hb
          clear C
          have C := R.out.cells
          replace hu := hu.trans (Upg.of_below hb)
          clear hb
          go_wp2_with (first
           | (go_at_call 20; (with_reducible refine (HI.out _).mono ?_); rintro e wn ⟨rfl, rfl⟩))
          go_roundw
          case rel => exact ⟨0, 16 * V + a, k, by omega, by first | rfl | go_num, congrArg _ (by omega), by have := HV6.out; omega, ⟨⟨fun h => by omega, fun h => by omega⟩⟩, hk, HQ, R, hu⟩
          case measure => rw [R.at_, hat.out]; omega
    · by_cases hc59 : c = 59
      · have f1 : pre T.data.toList k [59] = true := by rw [f0]; simp [hc59]
        have HQ : As (Q = .ok (V, k)) := ⟨by rw [hcd2, if_pos ⟨by omega, hc59⟩]⟩
        have ew : IntKind.u8.wrap (V : Int) = (V : Int) := IntWalk.u8_in _ (by omega)
        clear f0 hcd2 hc59
        go_wp2_with (first
         | ((with_reducible refine g_store 19 ?_); go_must (refine ev_store rfl rfl R.out (news := [.int .i64 ((k : Nat) : Int)]) (by first | rfl | (go_simp; first | rfl | go_num | (simp; omega))) infoI (by simp) (by simp [Value.oneCell']) ?_); intro wn ho Bn; simp only [zI, zA, zC, zD, zE, zF, zH, zB, zG, Nat.reduceAdd] at Bn; have R2 : RB wn g T (k) 0 0 := ⟨Bn⟩; clear Bn; have hq := Upg.of_only ho; clear C R; have R := R2; clear R2; have C := R.out.cells; replace hu := hu.trans hq; clear hq; clear ho)
         | (go_at_call 13; (with_reducible refine (more_b R true d1).mono ?_); rintro e wn ⟨vn, rfl, rfl, hb⟩; replace R := R.below hb; clear C; have C := R.out.cells; replace hu := hu.trans (Upg.of_below hb); clear hb)
         | (go_at_call 21; (with_reducible refine (sees_b R hk2 [59] true f1).mono ?_); rintro e wn ⟨vn, rfl, rfl, hb⟩; replace R := R.below hb; clear C; have C := R.out.cells; replace hu := hu.trans (Upg.of_below hb); clear hb))
        go_ret2
        exact ⟨_, rfl, hu, by rw [HQ.out]; exact ⟨rfl, R, hV⟩⟩
      · have f1 : pre T.data.toList k [59] = false := by rw [f0]; simpa using fun h => hc59 h.symm
        clear f0
        obtain ⟨K, hK⟩ : ∃ K, K = Lib.indexByte hexs c := ⟨_, rfl⟩
        have HI := As.mk (fun W => idx_b hexs c K hK.symm W)
        simp only [hexs] at HI
        have HQ : As (Q = .error false) := ⟨by rw [hcd2, if_neg (fun h => hc59 h.2)]⟩
        clear hK hcd2
        by_cases hK0 : K < 0
        · go_wp2_with (first
           | ((with_reducible refine g_store 19 ?_); go_must (refine ev_store rfl rfl R.out (news := [.int .i64 ((k : Nat) : Int)]) (by first | rfl | (go_simp; first | rfl | go_num | (simp; omega))) infoI (by simp) (by simp [Value.oneCell']) ?_); intro wn ho Bn; simp only [zI, zA, zC, zD, zE, zF, zH, zB, zG, Nat.reduceAdd] at Bn; have R2 : RB wn g T (k) 0 0 := ⟨Bn⟩; clear Bn; have hq := Upg.of_only ho; clear C R; have R := R2; clear R2; have C := R.out.cells; replace hu := hu.trans hq; clear hq; clear ho)
           | (go_at_call 13; (with_reducible refine (more_b R true d1).mono ?_); rintro e wn ⟨vn, rfl, rfl, hb⟩; replace R := R.below hb; clear C; have C := R.out.cells; replace hu := hu.trans (Upg.of_below hb); clear hb)
           | (go_at_call 21; (with_reducible refine (sees_b R hk2 [59] false f1).mono ?_); rintro e wn ⟨vn, rfl, rfl, hb⟩; replace R := R.below hb; clear C; have C := R.out.cells; replace hu := hu.trans (Upg.of_below hb); clear hb))
          go_still_tail 11, (by kernel_rfl)
          change wpList _ _ _ _ _ (World.drew _)
          have hb := (Below.refl (World.heap wn).size wn).drew
          generalize World.drew wn = w9 at hb ⊢
          replace R := R.below hb
          clear C
          have C := R.out.cells
          replace hu := hu.trans (Upg.of_below hb)
          clear hb
          go_wp2_with (first
           | (go_at_call 20; (with_reducible refine (HI.out _).mono ?_); rintro e wn ⟨rfl, rfl⟩)
           | (go_at_call 24; (with_reducible refine (fail_ok R (b : Int) 13).mono ?_); rintro e wn ⟨rfl, ho, R2⟩; have hq := Upg.of_only ho; clear C R; have R := R2; clear R2; have C := R.out.cells; replace hu := hu.trans hq; clear hq))
          go_ret2
          exact ⟨_, rfl, hu, by rw [HQ.out]; exact ⟨rfl, _, R⟩⟩
        · go_wp2_with (first
           | ((with_reducible refine g_store 19 ?_); go_must (refine ev_store rfl rfl R.out (news := [.int .i64 ((k : Nat) : Int)]) (by first | rfl | (go_simp; first | rfl | go_num | (simp; omega))) infoI (by simp) (by simp [Value.oneCell']) ?_); intro wn ho Bn; simp only [zI, zA, zC, zD, zE, zF, zH, zB, zG, Nat.reduceAdd] at Bn; have R2 : RB wn g T (k) 0 0 := ⟨Bn⟩; clear Bn; have hq := Upg.of_only ho; clear C R; have R := R2; clear R2; have C := R.out.cells; replace hu := hu.trans hq; clear hq; clear ho)
           | (go_at_call 13; (with_reducible refine (more_b R true d1).mono ?_); rintro e wn ⟨vn, rfl, rfl, hb⟩; replace R := R.below hb; clear C; have C := R.out.cells; replace hu := hu.trans (Upg.of_below hb); clear hb)
           | (go_at_call 21; (with_reducible refine (sees_b R hk2 [59] false f1).mono ?_); rintro e wn ⟨vn, rfl, rfl, hb⟩; replace R := R.below hb; clear C; have C := R.out.cells; replace hu := hu.trans (Upg.of_below hb); clear hb))
          go_still_tail 11, (by kernel_rfl)
          change wpList _ _ _ _ _ (World.drew _)
          have hb := (Below.refl (World.heap wn).size wn).drew
          generalize World.drew wn = w9 at hb ⊢
          replace R := R.below hb
          clear C
          have C := R.out.cells
          replace hu := hu.trans (Upg.of_below hb)
          clear hb
          go_wp2_with (first
           | (go_at_call 20; (with_reducible refine (HI.out _).mono ?_); rintro e wn ⟨rfl, rfl⟩)
           | (go_at_call 24; (with_reducible refine (fail_ok R (b : Int) 13).mono ?_); rintro e wn ⟨rfl, ho, R2⟩; have hq := Upg.of_only ho; clear C R; have R := R2; clear R2; have C := R.out.cells; replace hu := hu.trans hq; clear hq))
          go_ret2
          exact ⟨_, rfl, hu, by rw [HQ.out]; exact ⟨rfl, _, R⟩⟩
  · have d1 : decide (k < T.size) = false := decide_eq_false hk
    have hnone : T.data.toList[k]? = none := List.getElem?_eq_none_iff.2 (by omega)
    have HQ : As (Q = .error true) := ⟨by rw [hcd2, hnone]⟩
    clear hnone hcd2
    go_wp2_with (first
     | ((with_reducible refine g_store 19 ?_); go_must (refine ev_store rfl rfl R.out (news := [.int .i64 ((k : Nat) : Int)]) (by first | rfl | (go_simp; first | rfl | go_num | (simp; omega))) infoI (by simp) (by simp [Value.oneCell']) ?_); intro wn ho Bn; simp only [zI, zA, zC, zD, zE, zF, zH, zB, zG, Nat.reduceAdd] at Bn; have R2 : RB wn g T (k) 0 0 := ⟨Bn⟩; clear Bn; have hq := Upg.of_only ho; clear C R; have R := R2; clear R2; have C := R.out.cells; replace hu := hu.trans hq; clear hq; clear ho)
     | (go_at_call 13; (with_reducible refine (more_b R false d1).mono ?_); rintro e wn ⟨vn, rfl, rfl, hb⟩; replace R := R.below hb; clear C; have C := R.out.cells; replace hu := hu.trans (Upg.of_below hb); clear hb)
     | (go_at_call 36; (with_reducible refine (end_ok R).mono ?_); rintro e wn ⟨rfl, ho, R2⟩; have hq := Upg.of_only ho; clear C R; have R := R2; clear R2; have C := R.out.cells; replace hu := hu.trans hq; clear hq))
    go_ret2
    exact ⟨_, rfl, hu, by rw [HQ.out]; exact ⟨rfl, _, R⟩⟩
def escF (s : List UInt8) (i : Nat) : Except (Nat × Nat) (Nat × Nat) :=
 match s[i + 1]? with
 | none => .error (s.length, 10)
 | some c => if c = 120 then (match codeF s (i + 2) with | .error true => .error (s.length, 10) | .error false => .error (i, 13) | .ok (v, e) => .ok (v, e))
   else match escV c with | some b => .ok (b.toNat, i + 1) | none => .error (i, 13)
theorem strF_E {s : List UInt8} {i : Nat} (h : s[i]? = some 92) (acc : List UInt8) : strF s i acc = (match escF s i with | .error p => .error p | .ok (v, e) => strF s (e + 1) (acc ++ [UInt8.ofNat v])) := by
 obtain ⟨hl, he⟩ := List.getElem?_eq_some_iff.1 h
 rw [strF, dif_pos hl, he, if_neg (by decide), if_pos rfl, escF]
 cases hc : s[i + 1]? with
 | none => rfl
 | some c =>
   simp only
   by_cases h1 : c = 34
   · subst h1; simp [escV]
   by_cases h2 : c = 92
   · subst h2; simp [escV]
   by_cases h3 : c = 110
   · subst h3; simp [escV]
   by_cases h4 : c = 116
   · subst h4; simp [escV]
   rw [if_neg h1, if_neg h2, if_neg h3, if_neg h4]
   by_cases h5 : c = 120
   · rw [if_pos h5, if_pos h5]
     split
     · rename_i hh; rw [hh]
     · rename_i hh; rw [hh]
     · rename_i v e hh; rw [hh]
   · rw [if_neg h5, if_neg h5, escV, if_neg h1, if_neg h2, if_neg h3, if_neg h4]
def EscP (w : World) (g : Nat) (T : ByteArray) (v : Value) : Except (Nat × Nat) (Nat × Nat) → Prop
 | .ok (x, e) => v = .tuple #[.int .u8 (x : Int), .bool true] ∧ RB w g T e 0 0 ∧ x < 256
 | .error (p, c) => v = .tuple #[.int .u8 0, .bool false] ∧ c ≠ 0 ∧ ∃ j, RB w g T j (p : Int) (c : Int)
set_option maxRecDepth 8000 in
set_option maxHeartbeats 2000000 in
theorem escape_any {w : World} {g i : Nat} {T : ByteArray} (R : RB w g T i 0 0) (hi : i < T.size) (hT : T.size ≤ 65536) :
 Calls Tryz.prog 42 #[.pointer (some ⟨g, 0, none⟩)] w fun x w' => ∃ v, x = .returned v ∧ Upg g w w' ∧ EscP w' g T v (escF T.data.toList i) := by
 have hsl := size_list T
 have C := R.out.cells
 have hu := Upg.refl g w
 obtain ⟨Q, hQ⟩ : ∃ Q, Q = escF T.data.toList i := ⟨_, rfl⟩
 rw [← hQ]
 rw [escF] at hQ
 obtain ⟨j, hj⟩ : ∃ j, j = i + 1 := ⟨_, rfl⟩
 rw [← hj] at hQ
 have hij : (i : Int) + 1 = (j : Int) := by omega
 have hjj : i + 2 = j + 1 := by omega
 rw [hjj] at hQ
 clear hj hjj
 by_cases hk : j < T.size
 · have d1 : decide (j < T.size) = true := decide_eq_true hk
   have hk2 : j ≤ T.size := by omega
   obtain ⟨c, hc⟩ := get_size T hk
   rw [hc] at hQ
   simp only at hQ
   have f0 := pre1 hc 120
   have hcx : T[j]'hk = c := by
    have := (List.getElem?_eq_some_iff.1 hc).2
    rw [← this, ByteArray.getElem_eq_getElem_data]; simp
   have hki : (j : Int) < (T.size : Int) := by omega
   clear hc
   by_cases h120 : c = 120
   · have f1 : pre T.data.toList j [120] = true := by rw [f0]; simp [h120]
     rw [if_pos h120] at hQ
     have HQ := As.mk hQ
     clear f0 h120 hQ
     cases hcd : codeF T.data.toList (j + 1) with
     | error b =>
       have Hcd := As.mk hcd
       clear hcd
       cases b with
       | true =>
         have HQ2 : As (Q = .error (T.size, 10)) := ⟨by rw [HQ.out, Hcd.out]; rw [hsl]⟩
         clear HQ
         go_enter Tryz.func42, Tryz.ntmps42
         go_wp2_with (first
          | ((with_reducible refine g_store 19 ?_); go_must (refine ev_store rfl rfl R.out (news := [.int .i64 ((j : Nat) : Int)]) (by first | rfl | (go_simp; first | rfl | go_num | (simp; omega))) infoI (by simp) (by simp [Value.oneCell']) ?_); intro wn ho Bn; simp only [zI, zA, zC, zD, zE, zF, zH, zB, zG, Nat.reduceAdd] at Bn; have R2 : RB wn g T (j) 0 0 := ⟨Bn⟩; clear Bn; have hq := Upg.of_only ho; clear C R; have R := R2; clear R2; have C := R.out.cells; replace hu := hu.trans hq; clear hq; clear ho)
          | (go_at_call 13; (with_reducible refine (more_b R true d1).mono ?_); rintro e wn ⟨vn, rfl, rfl, hb⟩; replace R := R.below hb; clear C; have C := R.out.cells; replace hu := hu.trans (Upg.of_below hb); clear hb)
          | (go_at_call 21; (with_reducible refine (sees_b R hk2 [120] true f1).mono ?_); rintro e wn ⟨vn, rfl, rfl, hb⟩; replace R := R.below hb; clear C; have C := R.out.cells; replace hu := hu.trans (Upg.of_below hb); clear hb)
          | (go_at_call 57; (with_reducible refine (code_any (b := i) R hk hT).mono ?_); rintro e wn ⟨vn, rfl, hq, hcp⟩; replace hu := hu.trans hq; clear C hq R; rw [Hcd.out] at hcp; obtain ⟨rfl, j2, R⟩ : _ ∧ ∃ j2, RB wn g T j2 T.size 10 := hcp; have C := R.out.cells))
         go_ret2
         exact ⟨_, rfl, hu, by rw [HQ2.out]; exact ⟨rfl, by decide, _, R⟩⟩
       | false =>
         have HQ2 : As (Q = .error (i, 13)) := ⟨by rw [HQ.out, Hcd.out]⟩
         clear HQ
         go_enter Tryz.func42, Tryz.ntmps42
         go_wp2_with (first
          | ((with_reducible refine g_store 19 ?_); go_must (refine ev_store rfl rfl R.out (news := [.int .i64 ((j : Nat) : Int)]) (by first | rfl | (go_simp; first | rfl | go_num | (simp; omega))) infoI (by simp) (by simp [Value.oneCell']) ?_); intro wn ho Bn; simp only [zI, zA, zC, zD, zE, zF, zH, zB, zG, Nat.reduceAdd] at Bn; have R2 : RB wn g T (j) 0 0 := ⟨Bn⟩; clear Bn; have hq := Upg.of_only ho; clear C R; have R := R2; clear R2; have C := R.out.cells; replace hu := hu.trans hq; clear hq; clear ho)
          | (go_at_call 13; (with_reducible refine (more_b R true d1).mono ?_); rintro e wn ⟨vn, rfl, rfl, hb⟩; replace R := R.below hb; clear C; have C := R.out.cells; replace hu := hu.trans (Upg.of_below hb); clear hb)
          | (go_at_call 21; (with_reducible refine (sees_b R hk2 [120] true f1).mono ?_); rintro e wn ⟨vn, rfl, rfl, hb⟩; replace R := R.below hb; clear C; have C := R.out.cells; replace hu := hu.trans (Upg.of_below hb); clear hb)
          | (go_at_call 57; (with_reducible refine (code_any (b := i) R hk hT).mono ?_); rintro e wn ⟨vn, rfl, hq, hcp⟩; replace hu := hu.trans hq; clear C hq R; rw [Hcd.out] at hcp; obtain ⟨rfl, j2, R⟩ : _ ∧ ∃ j2, RB wn g T j2 i 13 := hcp; have C := R.out.cells))
         go_ret2
         exact ⟨_, rfl, hu, by rw [HQ2.out]; exact ⟨rfl, by decide, _, R⟩⟩
     | ok ve =>
       obtain ⟨v, e⟩ := ve
       have Hcd := As.mk hcd
       clear hcd
       have HQ2 : As (Q = .ok (v, e)) := ⟨by rw [HQ.out, Hcd.out]⟩
       clear HQ
       go_enter Tryz.func42, Tryz.ntmps42
       go_wp2_with (first
        | ((with_reducible refine g_store 19 ?_); go_must (refine ev_store rfl rfl R.out (news := [.int .i64 ((j : Nat) : Int)]) (by first | rfl | (go_simp; first | rfl | go_num | (simp; omega))) infoI (by simp) (by simp [Value.oneCell']) ?_); intro wn ho Bn; simp only [zI, zA, zC, zD, zE, zF, zH, zB, zG, Nat.reduceAdd] at Bn; have R2 : RB wn g T (j) 0 0 := ⟨Bn⟩; clear Bn; have hq := Upg.of_only ho; clear C R; have R := R2; clear R2; have C := R.out.cells; replace hu := hu.trans hq; clear hq; clear ho)
        | (go_at_call 13; (with_reducible refine (more_b R true d1).mono ?_); rintro e wn ⟨vn, rfl, rfl, hb⟩; replace R := R.below hb; clear C; have C := R.out.cells; replace hu := hu.trans (Upg.of_below hb); clear hb)
        | (go_at_call 21; (with_reducible refine (sees_b R hk2 [120] true f1).mono ?_); rintro e wn ⟨vn, rfl, rfl, hb⟩; replace R := R.below hb; clear C; have C := R.out.cells; replace hu := hu.trans (Upg.of_below hb); clear hb)
        | (go_at_call 57; (with_reducible refine (code_any (b := i) R hk hT).mono ?_); rintro e wn ⟨vn, rfl, hq, hcp⟩; replace hu := hu.trans hq; clear C hq R; rw [Hcd.out] at hcp; obtain ⟨rfl, R, hv⟩ : _ ∧ RB wn g T e 0 0 ∧ v < 256 := hcp; have Hv := As.mk hv; clear hv; have C := R.out.cells))
       go_ret2
       exact ⟨_, rfl, hu, by rw [HQ2.out]; exact ⟨rfl, R, Hv.out⟩⟩
   · have f1 : pre T.data.toList j [120] = false := by rw [f0]; simpa using fun h => h120 h.symm
     rw [if_neg h120] at hQ
     clear f0 h120
     rcases esc_is c with ⟨h1, h2⟩ | ⟨k, hk4, h1, h2⟩
     · have HI := As.mk (fun W => idx_b escs c (-1) h2 W)
       simp only [escs] at HI
       have HQ : As (Q = .error (i, 13)) := ⟨by rw [hQ, h1]⟩
       clear hQ h1 h2
       go_enter Tryz.func42, Tryz.ntmps42
       go_wp2_with (first
        | ((with_reducible refine g_store 19 ?_); go_must (refine ev_store rfl rfl R.out (news := [.int .i64 ((j : Nat) : Int)]) (by first | rfl | (go_simp; first | rfl | go_num | (simp; omega))) infoI (by simp) (by simp [Value.oneCell']) ?_); intro wn ho Bn; simp only [zI, zA, zC, zD, zE, zF, zH, zB, zG, Nat.reduceAdd] at Bn; have R2 : RB wn g T (j) 0 0 := ⟨Bn⟩; clear Bn; have hq := Upg.of_only ho; clear C R; have R := R2; clear R2; have C := R.out.cells; replace hu := hu.trans hq; clear hq; clear ho)
        | (go_at_call 13; (with_reducible refine (more_b R true d1).mono ?_); rintro e wn ⟨vn, rfl, rfl, hb⟩; replace R := R.below hb; clear C; have C := R.out.cells; replace hu := hu.trans (Upg.of_below hb); clear hb)
        | (go_at_call 21; (with_reducible refine (sees_b R hk2 [120] false f1).mono ?_); rintro e wn ⟨vn, rfl, rfl, hb⟩; replace R := R.below hb; clear C; have C := R.out.cells; replace hu := hu.trans (Upg.of_below hb); clear hb))
       go_still_tail 11, (by kernel_rfl)
       change wpList _ _ _ _ _ (World.drew _)
       have hb := (Below.refl (World.heap wn).size wn).drew
       generalize World.drew wn = w9 at hb ⊢
       replace R := R.below hb
       clear C
       have C := R.out.cells
       replace hu := hu.trans (Upg.of_below hb)
       clear hb
       go_wp2_with (first
        | (go_at_call 20; (with_reducible refine (HI.out _).mono ?_); rintro e wn ⟨rfl, rfl⟩)
        | (go_at_call 24; (with_reducible refine (fail_ok R (i : Int) 13).mono ?_); rintro e wn ⟨rfl, ho, R2⟩; have hq := Upg.of_only ho; clear C R; have R := R2; clear R2; have C := R.out.cells; replace hu := hu.trans hq; clear hq))
       go_ret2
       exact ⟨_, rfl, hu, by rw [HQ.out]; exact ⟨rfl, by decide, _, R⟩⟩
     · have HI := As.mk (fun W => idx_b escs c (k : Int) h1 W)
       simp only [escs] at HI
       have HQ : As (Q = .ok ((([34, 92, 10, 9] : List UInt8).getD k 0).toNat, j)) := ⟨by rw [hQ, h2]⟩
       clear hQ h1 h2
       rcases (show k = 0 ∨ k = 1 ∨ k = 2 ∨ k = 3 by omega) with rfl | rfl | rfl | rfl
       all_goals
        go_enter Tryz.func42, Tryz.ntmps42
        go_wp2_with (first
         | ((with_reducible refine g_store 19 ?_); go_must (refine ev_store rfl rfl R.out (news := [.int .i64 ((j : Nat) : Int)]) (by first | rfl | (go_simp; first | rfl | go_num | (simp; omega))) infoI (by simp) (by simp [Value.oneCell']) ?_); intro wn ho Bn; simp only [zI, zA, zC, zD, zE, zF, zH, zB, zG, Nat.reduceAdd] at Bn; have R2 : RB wn g T (j) 0 0 := ⟨Bn⟩; clear Bn; have hq := Upg.of_only ho; clear C R; have R := R2; clear R2; have C := R.out.cells; replace hu := hu.trans hq; clear hq; clear ho)
         | (go_at_call 13; (with_reducible refine (more_b R true d1).mono ?_); rintro e wn ⟨vn, rfl, rfl, hb⟩; replace R := R.below hb; clear C; have C := R.out.cells; replace hu := hu.trans (Upg.of_below hb); clear hb)
         | (go_at_call 21; (with_reducible refine (sees_b R hk2 [120] false f1).mono ?_); rintro e wn ⟨vn, rfl, rfl, hb⟩; replace R := R.below hb; clear C; have C := R.out.cells; replace hu := hu.trans (Upg.of_below hb); clear hb))
        go_still_tail 11, (by kernel_rfl)
        change wpList _ _ _ _ _ (World.drew _)
        have hb := (Below.refl (World.heap wn).size wn).drew
        generalize World.drew wn = w9 at hb ⊢
        replace R := R.below hb
        clear C
        have C := R.out.cells
        replace hu := hu.trans (Upg.of_below hb)
        clear hb
        go_wp2_with (first
         | (go_at_call 20; (with_reducible refine (HI.out _).mono ?_); rintro e wn ⟨rfl, rfl⟩))
        go_ret2
        exact ⟨_, rfl, hu, by rw [HQ.out]; exact ⟨rfl, R, by decide⟩⟩
 · have d1 : decide (j < T.size) = false := decide_eq_false hk
   have HQ : As (Q = .error (T.size, 10)) := ⟨by rw [hQ, List.getElem?_eq_none_iff.2 (by omega), hsl]⟩
   clear hQ
   go_enter Tryz.func42, Tryz.ntmps42
   go_wp2_with (first
    | ((with_reducible refine g_store 19 ?_); go_must (refine ev_store rfl rfl R.out (news := [.int .i64 ((j : Nat) : Int)]) (by first | rfl | (go_simp; first | rfl | go_num | (simp; omega))) infoI (by simp) (by simp [Value.oneCell']) ?_); intro wn ho Bn; simp only [zI, zA, zC, zD, zE, zF, zH, zB, zG, Nat.reduceAdd] at Bn; have R2 : RB wn g T (j) 0 0 := ⟨Bn⟩; clear Bn; have hq := Upg.of_only ho; clear C R; have R := R2; clear R2; have C := R.out.cells; replace hu := hu.trans hq; clear hq; clear ho)
    | (go_at_call 13; (with_reducible refine (more_b R false d1).mono ?_); rintro e wn ⟨vn, rfl, rfl, hb⟩; replace R := R.below hb; clear C; have C := R.out.cells; replace hu := hu.trans (Upg.of_below hb); clear hb)
    | (go_at_call 36; (with_reducible refine (end_ok R).mono ?_); rintro e wn ⟨rfl, ho, R2⟩; have hq := Upg.of_only ho; clear C R; have R := R2; clear R2; have C := R.out.cells; replace hu := hu.trans hq; clear hq))
   go_ret2
   exact ⟨_, rfl, hu, by rw [HQ.out]; exact ⟨rfl, by decide, _, R⟩⟩
end Go.Proofs.YtdapbegadhcpcaaGreatDoor
