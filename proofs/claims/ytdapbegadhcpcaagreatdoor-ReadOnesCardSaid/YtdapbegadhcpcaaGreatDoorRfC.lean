/- A part of the proof. -/
import Derived.Test.YtdapbegadhcpcaaGreatDoorRfB
set_option linter.unusedVariables false
set_option linter.unusedSimpArgs false
namespace Go.Proofs.YtdapbegadhcpcaaGreatDoor
open Go.RowKit Go.Proofs.YtdapbegadhcpcaaGreatDoorL Go.Proofs.YtdapbegadhcpcaaGreatDoorM
def AftR (w : World) (g : Nat) (T : ByteArray) : Rs → Prop
 | .ok (_, e) => RR w g T e 0 0 ∧ e ≤ T.size
 | .error (p, c) => ∃ j, RR w g T j (p : Int) (c : Int) ∧ c ≠ 0
def PCr (T : ByteArray) : J → Prop
 | .blanks d i => ∀ (w : World) (g : Nat) (r : Rs), i ≤ T.size → d ≤ 100 → RR w g T i 0 0 → Run T.data.toList (.blanks d i) r →
    Calls Tryz.prog 15 #[.pointer (some ⟨g, 0, none⟩), .int .i64 (d : Int)] w fun x w' => x = .returned (.tuple #[]) ∧ Upg g w w' ∧ AftR w' g T r
 | .next d i => ∀ (w : World) (g : Nat) (r : Rs), i ≤ T.size → d ≤ 100 → RR w g T i 0 0 → Run T.data.toList (.next d i) r →
    Calls Tryz.prog 17 #[.pointer (some ⟨g, 0, none⟩), .int .i64 (d : Int)] w fun x w' => ∃ v, x = .returned v ∧ Upg g w w' ∧ AftR w' g T r ∧ IsD w.heap.size w' r v
 | _ => True
theorem PCr.blanksc {T : ByteArray} {d i : Nat} (h : PCr T (.blanks d i)) {w : World} {g : Nat} {r : Rs} (h1 : i ≤ T.size) (h2 : d ≤ 100) (R : RR w g T i 0 0) (hr : Run T.data.toList (.blanks d i) r) :
 Calls Tryz.prog 15 #[.pointer (some ⟨g, 0, none⟩), .int .i64 (d : Int)] w fun x w' => x = .returned (.tuple #[]) ∧ Upg g w w' ∧ AftR w' g T r := h w g r h1 h2 R hr
theorem PCr.nextc {T : ByteArray} {d i : Nat} (h : PCr T (.next d i)) {w : World} {g : Nat} {r : Rs} (h1 : i ≤ T.size) (h2 : d ≤ 100) (R : RR w g T i 0 0) (hr : Run T.data.toList (.next d i) r) :
 Calls Tryz.prog 17 #[.pointer (some ⟨g, 0, none⟩), .int .i64 (d : Int)] w fun x w' => ∃ v, x = .returned v ∧ Upg g w w' ∧ AftR w' g T r ∧ IsD w.heap.size w' r v := h w g r h1 h2 R hr
theorem c_pre {s : List UInt8} {i : Nat} {c : UInt8} (h : s[i]? = some c) (n : Nat) (hn : n < 256) : ((c.toNat : Int) == (n : Int)) = pre s i [UInt8.ofNat n] := by
 rw [u8R c n hn, pre1 h, Bool.eq_iff_iff, beq_iff_eq, beq_iff_eq]
 exact eq_comm
structure BR (w0 w : World) (g : Nat) (T : ByteArray) (d i : Nat) (r : Rs) : Prop where
 upg : Upg g w0 w
 st : (∃ j, i ≤ j ∧ j ≤ T.size ∧ RR w g T j 0 0 ∧ Run T.data.toList (.blanks d j) r) ∨ (∃ (j p c : Nat), r = .error (p, c) ∧ c ≠ 0 ∧ RR w g T j p c)
def muR (T : ByteArray) (w : World) (g : Nat) : Nat := if errR w g = 0 then T.size - atOf w g + 1 else 0
set_option maxRecDepth 16000 in
set_option maxHeartbeats 4000000 in
theorem skip_pc (T : ByteArray) (hT : T.size ≤ 65536) (d i : Nat) (IH : ∀ j, wtJ T.data.toList j < wtJ T.data.toList (.blanks d i) → PCr T j) : PCr T (.blanks d i) := by
 intro w g r hi hd R hr
 have hsl := size_list T
 have IHn := As.mk (fun j (h1 : i ≤ j) (h2 : j < T.size) (h3 : j + 2 ≤ T.size) => IH (.next d (j + 2)) (by simp only [wtJ]; omega))
 clear IH
 go_enter Tryz.func15, Tryz.ntmps15
 go_wp2
 go_loopw [] (fun wr => BR w wr g T d i r) (fun wr => muR T wr g)
 case atStart => exact ⟨Upg.refl _ _, .inl ⟨i, Nat.le_refl _, hi, R, hr⟩⟩
 case round =>
  clear R hr
  obtain ⟨hu, hst⟩ := hrel
  rcases hst with ⟨j, hij, hj, R, hr⟩ | ⟨j, p, c, hre, hc, R⟩
  case inr =>
   have C := R.out.cells
   have hz : ((c : Int) == 0) = false := by simpa using hc
   have HC := As.mk hc
   have Hre := As.mk hre
   clear hc hre
   obtain ⟨b, d1⟩ : ∃ b, decide (T.size ≤ j) = b := ⟨_, rfl⟩
   cases b with
   | true =>
     go_wp2_with (first
      | (go_at_call 16; (with_reducible refine (rend_b R true d1).mono ?_); rintro e wn ⟨vn, rfl, rfl, hb⟩; replace R := R.below hb; clear C; have C := R.out.cells; replace hu := hu.trans (Upg.of_below hb); clear hb))
     go_end0
     exact ⟨rfl, hu, by rw [Hre.out]; exact ⟨_, R, HC.out⟩⟩
   | false =>
     go_wp2_with (first
      | (go_at_call 16; (with_reducible refine (rend_b R false d1).mono ?_); rintro e wn ⟨vn, rfl, rfl, hb⟩; replace R := R.below hb; clear C; have C := R.out.cells; replace hu := hu.trans (Upg.of_below hb); clear hb))
     go_end0
     exact ⟨rfl, hu, by rw [Hre.out]; exact ⟨_, R, HC.out⟩⟩
  have Hat := As.mk R.at_
  have Her := As.mk R.err
  have HMu : As (muR T wr g = T.size - j + 1) := ⟨by rw [muR, Her.out, if_pos rfl, Hat.out]⟩
  have C := R.out.cells
  by_cases hm : j < T.size
  case neg =>
   have d1 : decide (T.size ≤ j) = true := decide_eq_true (by omega)
   have hrr := inv_blanks hr
   rw [bcls_ge (by omega)] at hrr
   have Hr : As (r = .ok (d0, j)) := ⟨hrr⟩
   clear hrr hr
   go_wp2_with (first
    | (go_at_call 16; (with_reducible refine (rend_b R true d1).mono ?_); rintro e wn ⟨vn, rfl, rfl, hb⟩; replace R := R.below hb; clear C; have C := R.out.cells; replace hu := hu.trans (Upg.of_below hb); clear hb))
   go_end0
   exact ⟨rfl, hu, by rw [Hr.out]; exact ⟨R, hj⟩⟩
  have d1 : decide (T.size ≤ j) = false := decide_eq_false (by omega)
  obtain ⟨c, hc⟩ := get_size T hm
  have hf := bcls_facts hc
  have hrr := inv_blanks hr
  have e59 := c_pre hc 59 (by omega)
  have hcx : T[j]'hm = c := by
   have := (List.getElem?_eq_some_iff.1 hc).2
   rw [← this, ByteArray.getElem_eq_getElem_data]; simp
  have hmi : (j : Int) < (T.size : Int) := by omega
  have hgc := As.mk hc
  clear hr hc
  cases hb0 : bcls T.data.toList j with
  | fin => rw [hb0] at hf; exact hf.elim
  | blank =>
    rw [hb0] at hf hrr
    simp only at hf hrr
    have Hr := As.mk hrr
    clear hrr hb0 e59
    go_wp2_with (first
     | (go_at_call 16; (with_reducible refine (rend_b R false d1).mono ?_); rintro e wn ⟨vn, rfl, rfl, hb⟩; replace R := R.below hb; clear C; have C := R.out.cells; replace hu := hu.trans (Upg.of_below hb); clear hb))
    go_quiet (fail)
    have hb := dr (Below.refl (World.heap wn).size wn) nq
    generalize World.drewN wn nq = w9 at hb ⊢
    replace R := R.below hb
    clear C
    have C := R.out.cells
    replace hu := hu.trans (Upg.of_below hb)
    clear hb
    go_wp2_with (first
     | (go_at_call 28; (with_reducible refine (rblank_b _ true hf _).mono ?_); rintro e wn ⟨vn, rfl, rfl, hb⟩; replace R := R.below hb; clear C; have C := R.out.cells; replace hu := hu.trans (Upg.of_below hb); clear hb)
     | ((with_reducible refine g_store 33 ?_); go_must (refine ev_store rfl rfl R.out (news := [.int .i64 ((j + 1 : Nat) : Int)]) (by first | rfl | (go_simp; first | rfl | go_num | (simp; omega))) infoI (by simp) (by simp [Value.oneCell']) ?_); intro wn ho Bn; simp only [zI, zA, zC, zD, zE, zF, zH, zB, zG, Nat.reduceAdd] at Bn; have R2 : RR wn g T (j + 1) 0 0 := ⟨Bn⟩; clear Bn; have hq := Upg.of_only ho; clear C R; have R := R2; clear R2; have C := R.out.cells; replace hu := hu.trans hq; clear hq; clear ho))
    go_roundw
    case rel => exact ⟨hu, .inl ⟨j + 1, by omega, by omega, R, Hr.out⟩⟩
    case measure =>
     rw [HMu.out, muR, R.err]
     first | (rw [if_pos rfl, R.at_]; omega) | (rw [if_neg (by first | (simp; done) | simpa using HC.out)]; omega)
  | line =>
    rw [hb0] at hf hrr
    simp only at hf hrr
    obtain ⟨hf0, f1⟩ := hf
    have e59' : ((c.toNat : Int) == 59) = true := by rw [← f1]; exact e59
    have hgt0 := lineEnd_gt (s := T.data.toList) (i := j) (by omega) (by rw [bcls_line hb0]; decide)
    have Hgt := As.mk hgt0
    have Hr := As.mk hrr
    clear hrr hb0 e59 hgt0
    go_wp2_with (first
     | (go_at_call 16; (with_reducible refine (rend_b R false d1).mono ?_); rintro e wn ⟨vn, rfl, rfl, hb⟩; replace R := R.below hb; clear C; have C := R.out.cells; replace hu := hu.trans (Upg.of_below hb); clear hb))
    go_quiet (fail)
    have hb := dr (Below.refl (World.heap wn).size wn) nq
    generalize World.drewN wn nq = w9 at hb ⊢
    replace R := R.below hb
    clear C
    have C := R.out.cells
    replace hu := hu.trans (Upg.of_below hb)
    clear hb
    go_wp2_with (first
     | (go_at_call 28; (with_reducible refine (rblank_b _ false hf0 _).mono ?_); rintro e wn ⟨vn, rfl, rfl, hb⟩; replace R := R.below hb; clear C; have C := R.out.cells; replace hu := hu.trans (Upg.of_below hb); clear hb))
    obtain ⟨wo, rfl⟩ : ∃ wo : World, wo = wn := ⟨_, rfl⟩
    clear C
    go_loopw [] (fun wr => ∃ k : Nat, j ≤ k ∧ k ≤ T.size ∧ As (lineEnd T.data.toList k = lineEnd T.data.toList j) ∧ RR wr g T k 0 0 ∧ Upg g w wr) (fun wr => T.size - atOf wr g)
    case atStart => exact ⟨j, Nat.le_refl _, hj, ⟨rfl⟩, R, hu⟩
    case round =>
     clear R hu
     obtain ⟨k, hjk, hk, hle, R, hu⟩ := hrel
     have C := R.out.cells
     have hatk := As.mk R.at_
     by_cases hmk : k < T.size
     · have d2 : decide (T.size ≤ k) = false := decide_eq_false (by omega)
       have hli := lineEnd_in (s := T.data.toList) (i := k) (by omega)
       obtain ⟨ck, hck⟩ := get_size T hmk
       have e10 := c_pre hck 10 (by omega)
       have hckx : T[k]'hmk = ck := by
        have := (List.getElem?_eq_some_iff.1 hck).2
        rw [← this, ByteArray.getElem_eq_getElem_data]; simp
       have hmki : (k : Int) < (T.size : Int) := by omega
       have hgck := As.mk hck
       clear hck
       cases a1 : pre T.data.toList k [10] with
       | true =>
         have e10' : ((ck.toNat : Int) != 10) = false := by
          have : ((ck.toNat : Int) == 10) = true := by rw [← a1]; exact e10
          rw [bne, this]; rfl
         rw [if_pos a1] at hli
         have hlk : lineEnd T.data.toList j = k := by rw [← hle.out, hli]
         replace Hr : As (Run T.data.toList (.blanks d k) r) := ⟨hlk ▸ Hr.out⟩
         have hgt : j < k := hlk ▸ Hgt.out
         clear hli hlk Hgt e10
         (try go_wp2)
         have hd := (Below.refl (World.heap wr).size wr).drew
         replace R := R.below hd
         replace hu := hu.trans (Upg.of_below hd)
         clear C
         have C := R.out.cells
         have hS : ∀ W, RR W g T k 0 0 → W.cell? ⟨g, 0, none⟩ = some (.string T) ∧ W.cell? ⟨g, 1, none⟩ = some (.int .i64 (k : Int)) := fun W R => ⟨R.out.cells 0, R.out.cells 1⟩
         have hS0 := hS _ R
         go_region_held3 (fun W => W.cell? ⟨g, 0, none⟩ = some (.string T) ∧ W.cell? ⟨g, 1, none⟩ = some (.int .i64 (k : Int))) (first | assumption | exact hS _ R) (first
          | (go_at_call 16; (with_reducible refine (rend_b R false d2).mono ?_); rintro e wn ⟨vn, rfl, rfl, hb⟩; replace R := R.below hb; clear C; have C := R.out.cells; replace hu := hu.trans (Upg.of_below hb); clear hb))
         clear hS hS0 hd
         go_wp2
         go_roundw
         case rel => exact ⟨hu, .inl ⟨k, by omega, by omega, R, Hr.out⟩⟩
         case measure =>
          rw [HMu.out, muR, R.err]
          first | (rw [if_pos rfl, R.at_]; omega) | (rw [if_neg (by first | (simp; done) | simpa using HC.out)]; omega)
       | false =>
         have e10' : ((ck.toNat : Int) != 10) = true := by
          have : ((ck.toNat : Int) == 10) = false := by rw [← a1]; exact e10
          rw [bne, this]; rfl
         rw [if_neg (by rw [a1]; decide)] at hli
         have Hle : As (lineEnd T.data.toList (k + 1) = lineEnd T.data.toList j) := ⟨by rw [← hli, hle.out]⟩
         clear hli e10
         (try go_wp2)
         have hd := (Below.refl (World.heap wr).size wr).drew
         replace R := R.below hd
         replace hu := hu.trans (Upg.of_below hd)
         clear C
         have C := R.out.cells
         have hS : ∀ W, RR W g T k 0 0 → W.cell? ⟨g, 0, none⟩ = some (.string T) ∧ W.cell? ⟨g, 1, none⟩ = some (.int .i64 (k : Int)) := fun W R => ⟨R.out.cells 0, R.out.cells 1⟩
         have hS0 := hS _ R
         go_region_held3 (fun W => W.cell? ⟨g, 0, none⟩ = some (.string T) ∧ W.cell? ⟨g, 1, none⟩ = some (.int .i64 (k : Int))) (first | assumption | exact hS _ R) (first
          | (go_at_call 16; (with_reducible refine (rend_b R false d2).mono ?_); rintro e wn ⟨vn, rfl, rfl, hb⟩; replace R := R.below hb; clear C; have C := R.out.cells; replace hu := hu.trans (Upg.of_below hb); clear hb))
         clear hS hS0 hd
         go_wp2_with (first
          | ((with_reducible refine g_store 58 ?_); go_must (refine ev_store rfl rfl R.out (news := [.int .i64 ((k + 1 : Nat) : Int)]) (by first | rfl | (go_simp; first | rfl | go_num | (simp; omega))) infoI (by simp) (by simp [Value.oneCell']) ?_); intro wn ho Bn; simp only [zI, zA, zC, zD, zE, zF, zH, zB, zG, Nat.reduceAdd] at Bn; have R2 : RR wn g T (k + 1) 0 0 := ⟨Bn⟩; clear Bn; have hq := Upg.of_only ho; clear C R; have R := R2; clear R2; have C := R.out.cells; replace hu := hu.trans hq; clear hq; clear ho))
         go_roundw
         case rel => exact ⟨k + 1, by omega, by omega, Hle, R, hu⟩
         case measure => rw [R.at_, hatk.out]; omega
     · have d2 : decide (T.size ≤ k) = true := decide_eq_true (by omega)
       have hlk : lineEnd T.data.toList j = k := by
        rw [← hle.out, lineEnd, dif_neg (by omega)]
       replace Hr : As (Run T.data.toList (.blanks d k) r) := ⟨hlk ▸ Hr.out⟩
       have hgt : j < k := hlk ▸ Hgt.out
       clear hlk Hgt
       (try go_wp2)
       have hd := (Below.refl (World.heap wr).size wr).drew
       replace R := R.below hd
       replace hu := hu.trans (Upg.of_below hd)
       clear C
       have C := R.out.cells
       have hS : ∀ W, RR W g T k 0 0 → W.cell? ⟨g, 0, none⟩ = some (.string T) ∧ W.cell? ⟨g, 1, none⟩ = some (.int .i64 (k : Int)) := fun W R => ⟨R.out.cells 0, R.out.cells 1⟩
       have hS0 := hS _ R
       refine wp_gen2 (fun Q7 hQ7 => ?_)
       refine wp_region_held_drew (S := fun W => W.cell? ⟨g, 0, none⟩ = some (.string T) ∧ W.cell? ⟨g, 1, none⟩ = some (.int .i64 (k : Int))) (by kernel_rfl) (hS0) (fun hHeld => ?_)
       refine ta 0 (.pointer (some ⟨g, 0, none⟩)) ?_
       refine wpAnyH_ready (rs := [1]) (by decide +kernel) (by simp) ?_
       refine AllReadyH.cons (o := _) (by simp only [List.getElem?_toArray, List.getElem?_cons_succ, List.getElem?_cons_zero]; rfl) (fun K hK => ?_) AllReadyH.nil
       refine gI ?_
       (with_reducible refine s_dst 38 ?_); go_simp; (with_reducible refine (rend_b R true d2).mono ?_); rintro e wn ⟨vn, rfl, rfl, hb⟩; replace R := R.below hb; clear C; have C := R.out.cells; replace hu := hu.trans (Upg.of_below hb); clear hb
       refine hK.out _ _ (hS _ R) (fun hHeld => ?_); clear hK K; (try simp only [Act.put, pA, pB, pC, pD, pE, pF])
       refine ta 2 (.bool false) ?_
       refine ta 3 (.bool false) ?_
       refine tu 4 ?_
       refine tu 5 ?_
       refine tu 6 ?_
       refine tu 7 ?_
       refine tu 8 ?_
       refine tu 9 ?_
       refine tu 10 ?_
       refine tu 11 ?_
       refine tu 12 ?_
       refine tu 13 ?_
       refine ta 14 (.bool false) ?_
       refine wpAnyH_done (by kernel_rfl) ?_ _
       refine NoPanic.normal ?_
       obtain ⟨rfl⟩ := hQ7
       clear hS hS0 hd
       go_wp2
       go_roundw
       case rel => exact ⟨hu, .inl ⟨k, by omega, by omega, R, Hr.out⟩⟩
       case measure =>
        rw [HMu.out, muR, R.err]
        first | (rw [if_pos rfl, R.at_]; omega) | (rw [if_neg (by first | (simp; done) | simpa using HC.out)]; omega)
  | nest =>
    rw [hb0] at hf hrr
    simp only at hf hrr
    obtain ⟨hf0, f1, f2⟩ := hf
    have e59' : ((c.toNat : Int) == 59) = false := by rw [← f1]; exact e59
    obtain ⟨N, hN⟩ : ∃ N, N = nestF T.data.toList j 0 := ⟨_, rfl⟩
    rw [← hN] at hrr
    have HN := As.mk hN
    clear hN
    have Hr := As.mk hrr
    clear hrr hb0 e59
    go_wp2_with (first
     | (go_at_call 16; (with_reducible refine (rend_b R false d1).mono ?_); rintro e wn ⟨vn, rfl, rfl, hb⟩; replace R := R.below hb; clear C; have C := R.out.cells; replace hu := hu.trans (Upg.of_below hb); clear hb))
    go_quiet (fail)
    have hb := dr (Below.refl (World.heap wn).size wn) nq
    generalize World.drewN wn nq = w9 at hb ⊢
    replace R := R.below hb
    clear C
    have C := R.out.cells
    replace hu := hu.trans (Upg.of_below hb)
    clear hb
    go_wp2_with (first
     | (go_at_call 28; (with_reducible refine (rblank_b _ false hf0 _).mono ?_); rintro e wn ⟨vn, rfl, rfl, hb⟩; replace R := R.below hb; clear C; have C := R.out.cells; replace hu := hu.trans (Upg.of_below hb); clear hb)
     | (go_at_call 29; (with_reducible refine (rtwo_b R hj hT 35 124 true f2).mono ?_); rintro e wn ⟨vn, rfl, rfl, hb⟩; replace R := R.below hb; clear C; have C := R.out.cells; replace hu := hu.trans (Upg.of_below hb); clear hb)
     | (go_at_call 30; (with_reducible refine (nested_any R hT f2).mono ?_); rintro e wn ⟨rfl, hq, hn⟩; replace hu := hu.trans hq; clear C hq R; rw [← HN.out] at hn))
    cases N with
    | some e1 =>
      have R : RR wn g T e1 0 0 := hn
      have h1 := nestF_gt _ _ _ _ HN.out.symm
      have h2 := nestF_le T.data.toList _ _ _ _ (Nat.lt_succ_self _) HN.out.symm
      go_roundw
      case rel => exact ⟨hu, .inl ⟨e1, by omega, by omega, R, Hr.out⟩⟩
      case measure =>
       rw [HMu.out, muR, R.err]
       first | (rw [if_pos rfl, R.at_]; omega) | (rw [if_neg (by first | (simp; done) | simpa using HC.out)]; omega)
    | none =>
      obtain ⟨j2, R⟩ : ∃ j2, RR wn g T j2 T.size 10 := hn
      have Hr2 : As (r = .error (T.size, 10)) := ⟨by rw [Hr.out, hsl]⟩
      have HC : As ((10 : Nat) ≠ 0) := ⟨by decide⟩
      go_roundw
      case rel => exact ⟨hu, .inr ⟨_, _, _, Hr2.out, HC.out, R⟩⟩
      case measure =>
       rw [HMu.out, muR, R.err]
       first | (rw [if_pos rfl, R.at_]; omega) | (rw [if_neg (by first | (simp; done) | simpa using HC.out)]; omega)
  | skip =>
    rw [hb0] at hf hrr
    simp only at hf hrr
    obtain ⟨hf0, f1, f2, f3⟩ := hf
    have e59' : ((c.toNat : Int) == 59) = false := by rw [← f1]; exact e59
    have hj2 := (pre2_lt f3).2.2
    obtain ⟨q, hq, hrr⟩ := hrr
    have Hq := As.mk hq
    have HI := As.mk (IHn.out j hij hm hj2)
    have Hr := As.mk hrr
    clear hrr hb0 e59 hq
    go_wp2_with (first
     | (go_at_call 16; (with_reducible refine (rend_b R false d1).mono ?_); rintro e wn ⟨vn, rfl, rfl, hb⟩; replace R := R.below hb; clear C; have C := R.out.cells; replace hu := hu.trans (Upg.of_below hb); clear hb))
    go_quiet (fail)
    have hb := dr (Below.refl (World.heap wn).size wn) nq
    generalize World.drewN wn nq = w9 at hb ⊢
    replace R := R.below hb
    clear C
    have C := R.out.cells
    replace hu := hu.trans (Upg.of_below hb)
    clear hb
    go_wp2_with (first
     | (go_at_call 28; (with_reducible refine (rblank_b _ false hf0 _).mono ?_); rintro e wn ⟨vn, rfl, rfl, hb⟩; replace R := R.below hb; clear C; have C := R.out.cells; replace hu := hu.trans (Upg.of_below hb); clear hb)
     | (go_at_call 29; (with_reducible refine (rtwo_b R hj hT 35 124 false f2).mono ?_); rintro e wn ⟨vn, rfl, rfl, hb⟩; replace R := R.below hb; clear C; have C := R.out.cells; replace hu := hu.trans (Upg.of_below hb); clear hb)
     | (go_at_call 29; (with_reducible refine (rtwo_b R hj hT 35 59 true f3).mono ?_); rintro e wn ⟨vn, rfl, rfl, hb⟩; replace R := R.below hb; clear C; have C := R.out.cells; replace hu := hu.trans (Upg.of_below hb); clear hb)
     | ((with_reducible refine g_store 73 ?_); go_must (refine ev_store rfl rfl R.out (news := [.int .i64 ((j + 2 : Nat) : Int)]) (by first | rfl | (go_simp; first | rfl | go_num | (simp; omega))) infoI (by simp) (by simp [Value.oneCell']) ?_); intro wn ho Bn; simp only [zI, zA, zC, zD, zE, zF, zH, zB, zG, Nat.reduceAdd] at Bn; have R2 : RR wn g T (j + 2) 0 0 := ⟨Bn⟩; clear Bn; have hq := Upg.of_only ho; clear C R; have R := R2; clear R2; have C := R.out.cells; replace hu := hu.trans hq; clear hq; clear ho)
     | (go_at_call 17; (with_reducible refine (PCr.nextc HI.out hj2 hd R Hq.out).mono ?_); rintro e wn ⟨vn, rfl, hq, haf, _⟩; replace hu := hu.trans hq; clear C hq R))
    cases q with
    | ok xe =>
      obtain ⟨x, e1⟩ := xe
      obtain ⟨R, he1⟩ : RR wn g T e1 0 0 ∧ e1 ≤ T.size := haf
      have h1 : j + 2 < e1 := run_goes Hq.out rfl
      go_roundw
      case rel => exact ⟨hu, .inl ⟨e1, by omega, by omega, R, Hr.out⟩⟩
      case measure =>
       rw [HMu.out, muR, R.err]
       first | (rw [if_pos rfl, R.at_]; omega) | (rw [if_neg (by first | (simp; done) | simpa using HC.out)]; omega)
    | error pc =>
      obtain ⟨p, c2⟩ := pc
      obtain ⟨j2, R, hc2⟩ : ∃ j2, RR wn g T j2 (p : Int) (c2 : Int) ∧ c2 ≠ 0 := haf
      have HC := As.mk hc2
      go_roundw
      case rel => exact ⟨hu, .inr ⟨_, _, _, Hr.out, HC.out, R⟩⟩
      case measure =>
       rw [HMu.out, muR, R.err]
       first | (rw [if_pos rfl, R.at_]; omega) | (rw [if_neg (by first | (simp; done) | simpa using HC.out)]; omega)
  | stop =>
    rw [hb0] at hf hrr
    simp only at hf hrr
    obtain ⟨hf0, f1, f2, f3⟩ := hf
    have e59' : ((c.toNat : Int) == 59) = false := by rw [← f1]; exact e59
    have Hr := As.mk hrr
    clear hrr hb0 e59
    go_wp2_with (first
     | (go_at_call 16; (with_reducible refine (rend_b R false d1).mono ?_); rintro e wn ⟨vn, rfl, rfl, hb⟩; replace R := R.below hb; clear C; have C := R.out.cells; replace hu := hu.trans (Upg.of_below hb); clear hb))
    go_quiet (fail)
    have hb := dr (Below.refl (World.heap wn).size wn) nq
    generalize World.drewN wn nq = w9 at hb ⊢
    replace R := R.below hb
    clear C
    have C := R.out.cells
    replace hu := hu.trans (Upg.of_below hb)
    clear hb
    go_wp2_with (first
     | (go_at_call 28; (with_reducible refine (rblank_b _ false hf0 _).mono ?_); rintro e wn ⟨vn, rfl, rfl, hb⟩; replace R := R.below hb; clear C; have C := R.out.cells; replace hu := hu.trans (Upg.of_below hb); clear hb)
     | (go_at_call 29; (with_reducible refine (rtwo_b R hj hT 35 124 false f2).mono ?_); rintro e wn ⟨vn, rfl, rfl, hb⟩; replace R := R.below hb; clear C; have C := R.out.cells; replace hu := hu.trans (Upg.of_below hb); clear hb)
     | (go_at_call 29; (with_reducible refine (rtwo_b R hj hT 35 59 false f3).mono ?_); rintro e wn ⟨vn, rfl, rfl, hb⟩; replace R := R.below hb; clear C; have C := R.out.cells; replace hu := hu.trans (Upg.of_below hb); clear hb))
    refine bodyPost_ret (results_none rfl _ _ _) rfl ?_
    exact ⟨rfl, hu, by rw [Hr.out]; exact ⟨R, hj⟩⟩
set_option maxRecDepth 8000 in
theorem skip_err {w : World} {g i : Nat} {p c : Int} {T : ByteArray} (R : RR w g T i p c) (hc : c ≠ 0) (d : Int) :
 Calls Tryz.prog 15 #[.pointer (some ⟨g, 0, none⟩), .int .i64 d] w (fun x w' => x = .returned (.tuple #[]) ∧ Below w.heap.size w w') := by
 have C := R.out.cells
 have hu := Upg.refl g w
 have hb0 := Below.refl w.heap.size w
 have hz : (c == 0) = false := by simpa using hc
 go_enter Tryz.func15, Tryz.ntmps15
 go_wp2
 go_loopw [] (fun wr => wr = w) (fun _ => 0)
 case atStart => rfl
 case round =>
  subst hrel
  obtain ⟨b, d1⟩ : ∃ b, decide (T.size ≤ i) = b := ⟨_, rfl⟩
  cases b with
  | true =>
    go_wp2_with (go_at_call 16; (with_reducible refine (rend_b R true d1).mono ?_); rintro e wn ⟨vn, rfl, rfl, hb⟩)
    go_end0
    exact ⟨rfl, hb⟩
  | false =>
    go_wp2_with (go_at_call 16; (with_reducible refine (rend_b R false d1).mono ?_); rintro e wn ⟨vn, rfl, rfl, hb⟩; replace R := R.below hb; clear C; have C := R.out.cells)
    go_end0
    exact ⟨rfl, hb⟩
end Go.Proofs.YtdapbegadhcpcaaGreatDoor
