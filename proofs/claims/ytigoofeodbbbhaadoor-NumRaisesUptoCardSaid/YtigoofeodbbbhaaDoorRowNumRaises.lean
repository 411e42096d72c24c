/- LawNumRaises RowNumRaises, in one text. -/
import Derived.Test.YtigoofeodbbbhaaDoorNumP
import Derived.Test.YtigoofeodbbbhaaDoorNum10
import Derived.Test.YtigoofeodbbbhaaDoorPlace
import Derived.Test.YtigoofeodbbbhaaDoorDat2
/- NumRaises. -/
namespace Go.Proofs.YtigoofeodbbbhaaDoor
open Go.RowKit Go.Proofs.YtigoofeodbbbhaaDoorL Go.Proofs.YtigoofeodbbbhaaDoorM
set_option linter.unusedVariables false
set_option linter.unusedSimpArgs false
theorem raise_bits {z : Int} {k : Nat} (h : Sm k z) (hk : k ≤ 12) (n : Nat) (hn : n ≤ 24) : ((bitN (z ^ n).natAbs : Nat) : Int) ≤ 20000 := by
  obtain ⟨D, hD⟩ : ∃ D : Nat, D = 384 := ⟨_, rfl⟩
  have h1 : z.natAbs < 2 ^ D := by
    have h2 : z.natAbs < 4294967296 ^ k := h
    have h5 : z.natAbs < 2 ^ (32 * k) := by rw [Nat.pow_mul]; exact h2
    exact Nat.lt_of_lt_of_le h5 (Nat.pow_le_pow_right (by omega) (by omega))
  obtain ⟨E, hE⟩ : ∃ E : Nat, E = 20000 := ⟨_, rfl⟩
  have h3 : (z ^ n).natAbs < 2 ^ E := by
    rw [abs_pow]
    have h4 : z.natAbs ^ n ≤ (2 ^ D) ^ n := Nat.pow_le_pow_left (Nat.le_of_lt h1) n
    rw [← Nat.pow_mul] at h4
    have h6 : D * n < E := by rw [hD, hE]; omega
    exact Nat.lt_of_le_of_lt h4 (Nat.pow_lt_pow_right (by omega) h6)
  have h7 := (bitN_le_iff (z ^ n).natAbs E).2 h3
  clear h1 h3
  omega
theorem pw_yes {z : Int} {k : Nat} (h : Sm k z) (hk : k ≤ 12) (n : Nat) (hn : n ≤ 24) : PW z (n : Int) 20000 (z ^ n) true :=
  .inr ⟨by omega, by omega, .inl ⟨by rw [Int.toNat_natCast]; exact raise_bits h hk n hn, by rw [Int.toNat_natCast], rfl⟩⟩
set_option maxRecDepth 16000 in
set_option maxHeartbeats 16000000 in
theorem numRaises_any (x : LN) (e f : Int) (w : World) (htab : Tab w) (hx : LimN w x) (hxy : x.mag.length ≤ 1048576) (he1 : -9223372036854775808 ≤ e) (he2 : e ≤ 9223372036854775807) (hb1 : -9223372036854775808 ≤ f) (hb2 : f ≤ 9223372036854775807) :
    Calls Tryd.prog 12 #[.agg (encN x).toArray, .int .i64 e, .int .i64 f] w (Gives w fun r _ => r = .bool true) := by
  obtain ⟨n1, A1, c1, l1⟩ := x
  simp only [encN]
  replace hxy : l1.length ≤ 1048576 := hxy
  obtain ⟨k1, z1, e1, o1⟩ := open_num hx
  have HSm := As.mk o1.sm
  have F0 := (Fs.nil w).cons o1
  rw [e1] at hxy ⊢
  have HT := As.mk htab
  clear htab hx e1 o1
  rcases Nat.lt_or_ge 12 k1 with hbit | hbit
  · obtain ⟨kN, hkN⟩ : ∃ kN : Nat, e % 12 = (kN : Int) := ⟨(e % 12).toNat, by omega⟩
    obtain ⟨jN, hjN⟩ : ∃ jN : Nat, f % 12 = (jN : Int) := ⟨(f % 12).toNat, by omega⟩
    have hk12 : kN ≤ 11 := by omega
    have hj12 : jN ≤ 11 := by omega
    have HKN := As.mk hkN
    have HJN := As.mk hjN
    clear hkN hjN
    have d1 : decide ((k1 : Int) > 12) = true := by simp; omega
    have d2 : decide ((12 : Int) < (k1 : Int)) = true := by simp; omega
    have d3 : decide (12 < k1) = true := by simp; omega
    go_enter Tryd.func12, Tryd.ntmps12
    go_wp2_with (first
      | ((with_reducible refine g_dst 3 ?_); go_must (refine ev_box 3 rfl (cs := [.bool n1, .slice A1 k1 c1]) (by rfl) ?_); intro g3 wb hbt B3 hg3; replace F0 := F0.below hbt; have C3 := B3.cells; have hcur := Below.refl wb.heap.size wb)
      | (go_at_call 40; (with_reducible refine (place_any e 12 _ ⟨he1, he2⟩ (by omega) kN HKN.out).mono ?_); rintro e' wn ⟨rfl, rfl⟩)
      | (go_at_call 40; (with_reducible refine (place_any f 12 _ ⟨hb1, hb2⟩ (by omega) jN HJN.out).mono ?_); rintro e' wn ⟨rfl, rfl⟩)
      | (go_at_call 19; (with_reducible refine (awake02_any _ (HT.out.below (bthen hbt hcur))).mono ?_); rintro e' wn ⟨vn, rfl, rfl, hbn⟩; replace hcur := bthen hcur hbn; clear hbn))
    go_ret
    exact ⟨_, rfl, rfl, bthen hbt hcur⟩
  · obtain ⟨kN, hkN⟩ : ∃ kN : Nat, e % 12 = (kN : Int) := ⟨(e % 12).toNat, by omega⟩
    obtain ⟨jN, hjN⟩ : ∃ jN : Nat, f % 12 = (jN : Int) := ⟨(f % 12).toNat, by omega⟩
    have hk12 : kN ≤ 11 := by omega
    have hj12 : jN ≤ 11 := by omega
    have HKN := As.mk hkN
    have HJN := As.mk hjN
    clear hkN hjN
    have d1 : decide ((k1 : Int) > 12) = false := by simp; omega
    have d2 : decide ((12 : Int) < (k1 : Int)) = false := by simp; omega
    have d3 : decide (12 < k1) = false := by simp; omega
    have HPk := As.mk (pw_yes HSm.out hbit kN (by omega))
    have HPj := As.mk (pw_yes HSm.out hbit jN (by omega))
    have HPs : As (PW z1 ((kN : Int) + (jN : Int)) 20000 (z1 ^ (kN + jN)) true) := ⟨by rw [← Int.natCast_add]; exact pw_yes HSm.out hbit (kN + jN) (by omega)⟩
    go_enter Tryd.func12, Tryd.ntmps12
    go_wp2_with (first
      | ((with_reducible refine g_dst 3 ?_); go_must (refine ev_box 3 rfl (cs := [.bool n1, .slice A1 k1 c1]) (by rfl) ?_); intro g3 wb hbt B3 hg3; replace F0 := F0.below hbt; have C3 := B3.cells; have hcur := Below.refl wb.heap.size wb; have mk0 := True.intro)
      | (go_at_call 40; (with_reducible refine (place_any e 12 _ ⟨he1, he2⟩ (by omega) kN HKN.out).mono ?_); rintro e' wn ⟨rfl, rfl⟩)
      | (go_at_call 40; (with_reducible refine (place_any f 12 _ ⟨hb1, hb2⟩ (by omega) jN HJN.out).mono ?_); rintro e' wn ⟨rfl, rfl⟩)
      | (go_at_call 21; clear C3 mk2; (with_reducible refine (cF (F0.below hcur) (by repeat (first | exact List.mem_cons_self .. | apply List.mem_cons_of_mem))).mono ?_); rintro e' wn ⟨vn, rfl, ⟨b17, A17, n17, c17, rfl, o17, f17⟩, hbn⟩; clear f17; replace o29 := o29.below hbn; replace lt29 : ∀ k ∈ addrBlock A29, k < _ := (fun k hk => Nat.lt_of_lt_of_le (lt29 k hk) hbn.size); replace o36 := o36.below hbn; replace lt36 : ∀ k ∈ addrBlock A36, k < _ := (fun k hk => Nat.lt_of_lt_of_le (lt36 k hk) hbn.size); replace B9 := B9.below hbn; replace B11 := B11.below hbn; replace hcur := bthen hcur hbn; clear hbn)
      | (go_at_call 21; clear C3 mk1; (with_reducible refine (cF (F0.below hcur) (by repeat (first | exact List.mem_cons_self .. | apply List.mem_cons_of_mem))).mono ?_); rintro e' wn ⟨vn, rfl, ⟨b17, A17, n17, c17, rfl, o17, f17⟩, hbn⟩; clear f17; replace o29 := o29.below hbn; replace lt29 : ∀ k ∈ addrBlock A29, k < _ := (fun k hk => Nat.lt_of_lt_of_le (lt29 k hk) hbn.size); replace B9 := B9.below hbn; replace hcur := bthen hcur hbn; clear hbn)
      | (go_at_call 21; clear C3 mk0; (with_reducible refine (cF (F0.below hcur) (by repeat (first | exact List.mem_cons_self .. | apply List.mem_cons_of_mem))).mono ?_); rintro e' wn ⟨vn, rfl, ⟨b17, A17, n17, c17, rfl, o17, f17⟩, hbn⟩; clear f17; replace hcur := bthen hcur hbn; clear hbn)
      | (go_at_call 37; (with_reducible refine (powF ((Fs.nil _).cons o17) (by repeat (first | exact List.mem_cons_self .. | apply List.mem_cons_of_mem)) HPk.out (by omega) (by omega) (by omega) (by omega)).mono ?_); rintro e' wn ⟨vn, rfl, ⟨qv, rfl, ⟨b29, A29, n29, c29, rfl, o29, f29⟩⟩, hbn⟩; have lt29 : ∀ k ∈ addrBlock A29, k < _ := (fun k hk => (f29 k hk).2); clear f29 o17; replace hcur := bthen hcur hbn; clear hbn)
      | ((with_reducible refine g_dst 9 ?_); go_must (refine ev_alloc 9 rfl infoNum (cs := [.bool false, .slice none 0 0]) rfl ?_); intro g9 wn hbx B9 hgn; have hne29_9 : ∀ k ∈ addrBlock A29, k ≠ g9 := (fun k hk e => by (have h1 := lt29 k hk; omega)); replace lt29 : ∀ k ∈ addrBlock A29, k < _ := (fun k hk => Nat.lt_of_lt_of_le (lt29 k hk) hbx.size); replace o29 := o29.below hbx; have hg9 := Nat.le_trans hcur.size hgn; replace hcur := bthen hcur hbx; clear hbx hgn)
      | ((with_reducible refine g_store 9 ?_); go_must (refine ev_store rfl rfl B9 (news := [.bool b29, .slice A29 n29 c29]) (by rfl) infoNum (by simp) (by simp [Value.oneCell']) ?_); intro wn hon Bn; simp only [List.take_zero, List.nil_append, List.length_cons, List.length_nil, List.drop_succ_cons, List.drop_zero, List.append_nil, List.cons_append] at Bn; replace B9 := Bn; clear Bn; replace o29 := o29.only hon hne29_9; have honz := hon.size; replace hcur := hcur.trans (hon.below hg9); clear hon; replace lt29 : ∀ k ∈ addrBlock A29, k < _ := (fun k hk => Nat.lt_of_lt_of_eq (lt29 k hk) honz.symm); have C3 := (B3.below hcur).cells; have mk1 := True.intro)
      | (go_at_call 37; (with_reducible refine (powF ((Fs.nil _).cons o17) (by repeat (first | exact List.mem_cons_self .. | apply List.mem_cons_of_mem)) HPj.out (by omega) (by omega) (by omega) (by omega)).mono ?_); rintro e' wn ⟨vn, rfl, ⟨qv, rfl, ⟨b36, A36, n36, c36, rfl, o36, f36⟩⟩, hbn⟩; have lt36 : ∀ k ∈ addrBlock A36, k < _ := (fun k hk => (f36 k hk).2); clear f36 o17; replace o29 := o29.below hbn; replace lt29 : ∀ k ∈ addrBlock A29, k < _ := (fun k hk => Nat.lt_of_lt_of_le (lt29 k hk) hbn.size); replace B9 := B9.below hbn; replace hcur := bthen hcur hbn; clear hbn)
      | ((with_reducible refine g_dst 11 ?_); go_must (refine ev_alloc 11 rfl infoNum (cs := [.bool false, .slice none 0 0]) rfl ?_); intro g11 wn hbx B11 hgn; have hneb11_9 : g11 ≠ g9 := (fun e => by (have h1 := B9.lt; omega)); have hne29_11 : ∀ k ∈ addrBlock A29, k ≠ g11 := (fun k hk e => by (have h1 := lt29 k hk; omega)); replace lt29 : ∀ k ∈ addrBlock A29, k < _ := (fun k hk => Nat.lt_of_lt_of_le (lt29 k hk) hbx.size); replace o29 := o29.below hbx; have hne36_11 : ∀ k ∈ addrBlock A36, k ≠ g11 := (fun k hk e => by (have h1 := lt36 k hk; omega)); replace lt36 : ∀ k ∈ addrBlock A36, k < _ := (fun k hk => Nat.lt_of_lt_of_le (lt36 k hk) hbx.size); replace o36 := o36.below hbx; have hg11 := Nat.le_trans hcur.size hgn; replace B9 := B9.below hbx; replace hcur := bthen hcur hbx; clear hbx hgn)
      | ((with_reducible refine g_store 11 ?_); go_must (refine ev_store rfl rfl B11 (news := [.bool b36, .slice A36 n36 c36]) (by rfl) infoNum (by simp) (by simp [Value.oneCell']) ?_); intro wn hon Bn; simp only [List.take_zero, List.nil_append, List.length_cons, List.length_nil, List.drop_succ_cons, List.drop_zero, List.append_nil, List.cons_append] at Bn; replace B9 := B9.only hon (Ne.symm hneb11_9); replace B11 := Bn; clear Bn; replace o29 := o29.only hon hne29_11; replace o36 := o36.only hon hne36_11; have honz := hon.size; replace hcur := hcur.trans (hon.below hg11); clear hon; replace lt29 : ∀ k ∈ addrBlock A29, k < _ := (fun k hk => Nat.lt_of_lt_of_eq (lt29 k hk) honz.symm); replace lt36 : ∀ k ∈ addrBlock A36, k < _ := (fun k hk => Nat.lt_of_lt_of_eq (lt36 k hk) honz.symm); have C3 := (B3.below hcur).cells; have mk2 := True.intro)
      | (go_at_call 37; (with_reducible refine (powF ((Fs.nil _).cons o17) (by repeat (first | exact List.mem_cons_self .. | apply List.mem_cons_of_mem)) HPs.out (by omega) (by omega) (by omega) (by omega)).mono ?_); rintro e' wn ⟨vn, rfl, ⟨qv, rfl, ⟨b45, A45, n45, c45, rfl, o45, f45⟩⟩, hbn⟩; have lt45 : ∀ k ∈ addrBlock A45, k < _ := (fun k hk => (f45 k hk).2); clear f45 o17; replace o29 := o29.below hbn; replace lt29 : ∀ k ∈ addrBlock A29, k < _ := (fun k hk => Nat.lt_of_lt_of_le (lt29 k hk) hbn.size); replace o36 := o36.below hbn; replace lt36 : ∀ k ∈ addrBlock A36, k < _ := (fun k hk => Nat.lt_of_lt_of_le (lt36 k hk) hbn.size); replace B9 := B9.below hbn; replace B11 := B11.below hbn; replace hcur := bthen hcur hbn; clear hbn)
      | ((with_reducible refine g_dst 13 ?_); go_must (refine ev_alloc 13 rfl infoNum (cs := [.bool false, .slice none 0 0]) rfl ?_); intro g13 wn hbx B13 hgn; have hneb13_9 : g13 ≠ g9 := (fun e => by (have h1 := B9.lt; omega)); have hneb13_11 : g13 ≠ g11 := (fun e => by (have h1 := B11.lt; omega)); have hne29_13 : ∀ k ∈ addrBlock A29, k ≠ g13 := (fun k hk e => by (have h1 := lt29 k hk; omega)); replace lt29 : ∀ k ∈ addrBlock A29, k < _ := (fun k hk => Nat.lt_of_lt_of_le (lt29 k hk) hbx.size); replace o29 := o29.below hbx; have hne36_13 : ∀ k ∈ addrBlock A36, k ≠ g13 := (fun k hk e => by (have h1 := lt36 k hk; omega)); replace lt36 : ∀ k ∈ addrBlock A36, k < _ := (fun k hk => Nat.lt_of_lt_of_le (lt36 k hk) hbx.size); replace o36 := o36.below hbx; have hne45_13 : ∀ k ∈ addrBlock A45, k ≠ g13 := (fun k hk e => by (have h1 := lt45 k hk; omega)); replace lt45 : ∀ k ∈ addrBlock A45, k < _ := (fun k hk => Nat.lt_of_lt_of_le (lt45 k hk) hbx.size); replace o45 := o45.below hbx; have hg13 := Nat.le_trans hcur.size hgn; replace B9 := B9.below hbx; replace B11 := B11.below hbx; replace hcur := bthen hcur hbx; clear hbx hgn)
      | ((with_reducible refine g_store 13 ?_); go_must (refine ev_store rfl rfl B13 (news := [.bool b45, .slice A45 n45 c45]) (by rfl) infoNum (by simp) (by simp [Value.oneCell']) ?_); intro wn hon Bn; simp only [List.take_zero, List.nil_append, List.length_cons, List.length_nil, List.drop_succ_cons, List.drop_zero, List.append_nil, List.cons_append] at Bn; replace B9 := B9.only hon (Ne.symm hneb13_9); replace B11 := B11.only hon (Ne.symm hneb13_11); replace B13 := Bn; clear Bn; replace o29 := o29.only hon hne29_13; replace o36 := o36.only hon hne36_13; replace o45 := o45.only hon hne45_13; have honz := hon.size; replace hcur := hcur.trans (hon.below hg13); clear hon; replace lt29 : ∀ k ∈ addrBlock A29, k < _ := (fun k hk => Nat.lt_of_lt_of_eq (lt29 k hk) honz.symm); replace lt36 : ∀ k ∈ addrBlock A36, k < _ := (fun k hk => Nat.lt_of_lt_of_eq (lt36 k hk) honz.symm); replace lt45 : ∀ k ∈ addrBlock A45, k < _ := (fun k hk => Nat.lt_of_lt_of_eq (lt45 k hk) honz.symm)))
    replace hbt := bthen hbt hcur
    clear hcur
    have F1 := (((Fs.nil _).cons o45).cons o36).cons o29
    clear o45 o36 o29
    obtain ⟨we, rfl⟩ : ∃ we : World, we = wn := ⟨_, rfl⟩
    have hcur := (Below.refl we.heap.size we).drew
    have F := F1.below hcur
    refine wp_gen2 (fun Q7 hQ7 => ?_)
    refine wp_region_held_drew (S := fun W => Below we.heap.size we W) (by kernel_rfl) hcur (fun hHeld => ?_)
    clear hHeld
    refine wpAnyH_take (i := 0) (oi := _) (v := .bool true) rfl (by kernel_rfl) (by kernel_rfl) (by kernel_rfl) (fun _ _ _ h => h) (Or.inl ⟨by kernel_rfl, fun W hSw => by ((try dsimp only at hSw); go_simp; (try (with_reducible rfl)))⟩) hcur ?_
    (try simp (config := {maxSteps := 2000000}) only [Act.put, List.setIfInBounds_toArray, List.set_cons_zero, List.set_cons_succ, List.getElem_toArray, List.getElem_cons_zero, List.getElem_cons_succ])
    refine wpAnyH_take (i := 1) (oi := _) (v := .bool true) rfl (by kernel_rfl) (by kernel_rfl) (by kernel_rfl) (fun _ _ _ h => h) (Or.inl ⟨by kernel_rfl, fun W hSw => by ((try dsimp only at hSw); go_simp; (try (with_reducible rfl)))⟩) hcur ?_
    (try simp (config := {maxSteps := 2000000}) only [Act.put, List.setIfInBounds_toArray, List.set_cons_zero, List.set_cons_succ, List.getElem_toArray, List.getElem_cons_zero, List.getElem_cons_succ])
    refine wpAnyH_take (i := 2) (oi := _) (v := .bool true) rfl (by kernel_rfl) (by kernel_rfl) (by kernel_rfl) (fun _ _ _ h => h) (Or.inl ⟨by kernel_rfl, fun W hSw => by ((try dsimp only at hSw); go_simp; (try (with_reducible rfl)))⟩) hcur ?_
    (try simp (config := {maxSteps := 2000000}) only [Act.put, List.setIfInBounds_toArray, List.set_cons_zero, List.set_cons_succ, List.getElem_toArray, List.getElem_cons_zero, List.getElem_cons_succ])
    refine wpAnyH_take (i := 3) (oi := _) (v := .bool true) rfl (by kernel_rfl) (by kernel_rfl) (by kernel_rfl) (fun _ _ _ h => h) (Or.inl ⟨by kernel_rfl, fun W hSw => by ((try dsimp only at hSw); go_simp; (try (with_reducible rfl)))⟩) hcur ?_
    (try simp (config := {maxSteps := 2000000}) only [Act.put, List.setIfInBounds_toArray, List.set_cons_zero, List.set_cons_succ, List.getElem_toArray, List.getElem_cons_zero, List.getElem_cons_succ])
    refine wpAnyH_take (i := 4) (oi := _) (v := .bool true) rfl (by kernel_rfl) (by kernel_rfl) (by kernel_rfl) (fun _ _ _ h => h) (Or.inl ⟨by kernel_rfl, fun W hSw => by ((try dsimp only at hSw); go_simp; (try (with_reducible rfl)))⟩) hcur ?_
    (try simp (config := {maxSteps := 2000000}) only [Act.put, List.setIfInBounds_toArray, List.set_cons_zero, List.set_cons_succ, List.getElem_toArray, List.getElem_cons_zero, List.getElem_cons_succ])
    refine wpAnyH_take (i := 5) (oi := _) (v := .bool true) rfl (by kernel_rfl) (by kernel_rfl) (by kernel_rfl) (fun _ _ _ h => h) (Or.inl ⟨by kernel_rfl, fun W hSw => by ((try dsimp only at hSw); go_simp; (try (with_reducible rfl)))⟩) hcur ?_
    (try simp (config := {maxSteps := 2000000}) only [Act.put, List.setIfInBounds_toArray, List.set_cons_zero, List.set_cons_succ, List.getElem_toArray, List.getElem_cons_zero, List.getElem_cons_succ])
    refine wpAnyH_take (i := 6) (oi := _) (v := .bool true) rfl (by kernel_rfl) (by kernel_rfl) (by kernel_rfl) (fun _ _ _ h => h) (Or.inl ⟨by kernel_rfl, fun W hSw => by ((try dsimp only at hSw); go_simp; (try (with_reducible rfl)))⟩) hcur ?_
    (try simp (config := {maxSteps := 2000000}) only [Act.put, List.setIfInBounds_toArray, List.set_cons_zero, List.set_cons_succ, List.getElem_toArray, List.getElem_cons_zero, List.getElem_cons_succ])
    refine wpAnyH_take (i := 7) (oi := _) (v := .bool true) rfl (by kernel_rfl) (by kernel_rfl) (by kernel_rfl) (fun _ _ _ h => h) (Or.inl ⟨by kernel_rfl, fun W hSw => by ((try dsimp only at hSw); go_simp; (try (with_reducible rfl)))⟩) hcur ?_
    (try simp (config := {maxSteps := 2000000}) only [Act.put, List.setIfInBounds_toArray, List.set_cons_zero, List.set_cons_succ, List.getElem_toArray, List.getElem_cons_zero, List.getElem_cons_succ])
    refine wpAnyH_take (i := 8) (oi := _) (v := .agg #[.bool b45, .slice A45 n45 c45]) rfl (by kernel_rfl) (by kernel_rfl) (by kernel_rfl) (fun _ _ _ h => h) (Or.inl ⟨by kernel_rfl, fun W hSw => by have Cb := (B13.below hSw).cells; ((try dsimp only at hSw); go_simp; (try (with_reducible rfl)))⟩) hcur ?_
    (try simp (config := {maxSteps := 2000000}) only [Act.put, List.setIfInBounds_toArray, List.set_cons_zero, List.set_cons_succ, List.getElem_toArray, List.getElem_cons_zero, List.getElem_cons_succ])
    refine wpAnyH_take (i := 9) (oi := _) (v := .agg #[.bool b29, .slice A29 n29 c29]) rfl (by kernel_rfl) (by kernel_rfl) (by kernel_rfl) (fun _ _ _ h => h) (Or.inl ⟨by kernel_rfl, fun W hSw => by have Cb := (B9.below hSw).cells; ((try dsimp only at hSw); go_simp; (try (with_reducible rfl)))⟩) hcur ?_
    (try simp (config := {maxSteps := 2000000}) only [Act.put, List.setIfInBounds_toArray, List.set_cons_zero, List.set_cons_succ, List.getElem_toArray, List.getElem_cons_zero, List.getElem_cons_succ])
    refine wpAnyH_take (i := 10) (oi := _) (v := .agg #[.bool b36, .slice A36 n36 c36]) rfl (by kernel_rfl) (by kernel_rfl) (by kernel_rfl) (fun _ _ _ h => h) (Or.inl ⟨by kernel_rfl, fun W hSw => by have Cb := (B11.below hSw).cells; ((try dsimp only at hSw); go_simp; (try (with_reducible rfl)))⟩) hcur ?_
    (try simp (config := {maxSteps := 2000000}) only [Act.put, List.setIfInBounds_toArray, List.set_cons_zero, List.set_cons_succ, List.getElem_toArray, List.getElem_cons_zero, List.getElem_cons_succ])
    refine wpAnyH_ready (rs := [11]) (by kernel_rfl) (by simp) ?_
    refine AllReadyH.cons (o := _) rfl (fun K hK => ?_) AllReadyH.nil
    refine st_lit (v := fun g => .slice (some ⟨g, 0, none⟩) 2 2) 58 rfl (cs := [.bool b29, .slice A29 n29 c29, .bool b36, .slice A36 n36 c36]) (t := 26) (by go_simp; try rfl) ?_; intro g58 wn hb Bl58 hg58; replace F := F.below hb; replace hcur := bthen hcur hb
    refine hK.out _ _ hcur (fun hHeld => ?_)
    clear hK K hHeld
    (try simp (config := {maxSteps := 2000000}) only [Act.put, List.setIfInBounds_toArray, List.set_cons_zero, List.set_cons_succ, List.getElem_toArray, List.getElem_cons_zero, List.getElem_cons_succ])
    refine wpAnyH_ready (rs := [12]) (by kernel_rfl) (by simp) ?_
    refine AllReadyH.cons (o := _) rfl (fun K hK => ?_) AllReadyH.nil
    go_simp; (with_reducible refine (mulF F Bl58 (by repeat (first | exact List.mem_cons_self .. | apply List.mem_cons_of_mem)) (by repeat (first | exact List.mem_cons_self .. | apply List.mem_cons_of_mem)) (by omega)).mono ?_); rintro e wn ⟨vn, rfl, ⟨b59, A59, n59, c59, rfl, o, hf⟩, hb⟩; replace F := (F.below hb).cons o; have hfr59 : ∀ k ∈ addrBlock A59, k < _ := (fun k hk => (hf k hk).2); clear hf; replace Bl58 := Bl58.below hb; replace hcur := bthen hcur hb; go_wp2_with fail
    refine hK.out _ _ hcur (fun hHeld => ?_)
    clear hK K hHeld
    (try simp (config := {maxSteps := 2000000}) only [Act.put, List.setIfInBounds_toArray, List.set_cons_zero, List.set_cons_succ, List.getElem_toArray, List.getElem_cons_zero, List.getElem_cons_succ])
    refine wpAnyH_ready (rs := [13]) (by kernel_rfl) (by simp) ?_
    refine AllReadyH.cons (o := _) rfl (fun K hK => ?_) AllReadyH.nil
    go_simp; (with_reducible refine (sameF F (by repeat (first | exact List.mem_cons_self .. | apply List.mem_cons_of_mem)) (by repeat (first | exact List.mem_cons_self .. | apply List.mem_cons_of_mem)) (by first | with_reducible rfl | exact Int.pow_add _ _ _)).mono ?_); rintro e wn ⟨vn, rfl, rfl, hb⟩; replace F := F.below hb; replace hfr59 : ∀ k ∈ addrBlock A59, k < _ := (fun k hk => Nat.lt_of_lt_of_le (hfr59 k hk) hb.size); replace hcur := bthen hcur hb; go_wp2_with fail
    refine hK.out _ _ hcur (fun hHeld => ?_)
    clear hK K hHeld
    (try simp (config := {maxSteps := 2000000}) only [Act.put, List.setIfInBounds_toArray, List.set_cons_zero, List.set_cons_succ, List.getElem_toArray, List.getElem_cons_zero, List.getElem_cons_succ])
    refine wpAnyH_take (i := 14) (oi := _) (v := .bool true) rfl (by kernel_rfl) (by kernel_rfl) (by kernel_rfl) (fun _ _ _ h => h) (Or.inl ⟨by kernel_rfl, fun W hSw => by ((try dsimp only at hSw); go_simp; (try (with_reducible rfl)))⟩) hcur ?_
    (try simp (config := {maxSteps := 2000000}) only [Act.put, List.setIfInBounds_toArray, List.set_cons_zero, List.set_cons_succ, List.getElem_toArray, List.getElem_cons_zero, List.getElem_cons_succ])
    refine wpAnyH_take (i := 15) (oi := _) (v := .bool true) rfl (by kernel_rfl) (by kernel_rfl) (by kernel_rfl) (fun _ _ _ h => h) (Or.inl ⟨by kernel_rfl, fun W hSw => by ((try dsimp only at hSw); go_simp; (try (with_reducible rfl)))⟩) hcur ?_
    (try simp (config := {maxSteps := 2000000}) only [Act.put, List.setIfInBounds_toArray, List.set_cons_zero, List.set_cons_succ, List.getElem_toArray, List.getElem_cons_zero, List.getElem_cons_succ])
    refine wpAnyH_ready (rs := [16]) (by kernel_rfl) (by simp) ?_
    refine AllReadyH.cons (o := _) rfl (fun K hK => ?_) AllReadyH.nil
    go_simp; (with_reducible refine (awake02_any _ (HT.out.below (bthen hbt hcur))).mono ?_); rintro e wn ⟨vn, rfl, rfl, hb⟩; replace F := F.below hb; replace hfr59 : ∀ k ∈ addrBlock A59, k < _ := (fun k hk => Nat.lt_of_lt_of_le (hfr59 k hk) hb.size); replace hcur := bthen hcur hb; go_wp2_with fail
    refine hK.out _ _ hcur (fun hHeld => ?_)
    clear hK K hHeld
    (try simp (config := {maxSteps := 2000000}) only [Act.put, List.setIfInBounds_toArray, List.set_cons_zero, List.set_cons_succ, List.getElem_toArray, List.getElem_cons_zero, List.getElem_cons_succ])
    refine wpAnyH_take (i := 17) (oi := _) (v := .bool true) rfl (by kernel_rfl) (by kernel_rfl) (by kernel_rfl) (fun _ _ _ h => h) (Or.inl ⟨by kernel_rfl, fun W hSw => by ((try dsimp only at hSw); go_simp; (try (with_reducible rfl)))⟩) hcur ?_
    (try simp (config := {maxSteps := 2000000}) only [Act.put, List.setIfInBounds_toArray, List.set_cons_zero, List.set_cons_succ, List.getElem_toArray, List.getElem_cons_zero, List.getElem_cons_succ])
    refine wpAnyH_ready (rs := [18]) (by kernel_rfl) (by simp) ?_
    refine AllReadyH.cons (o := _) rfl (fun K hK => ?_) AllReadyH.nil
    go_simp
    refine hK.out _ _ hcur (fun hHeld => ?_)
    clear hK K hHeld
    (try simp (config := {maxSteps := 2000000}) only [Act.put, List.setIfInBounds_toArray, List.set_cons_zero, List.set_cons_succ, List.getElem_toArray, List.getElem_cons_zero, List.getElem_cons_succ])
    refine wpAnyH_done (by kernel_rfl) ?_ _
    refine NoPanic.normal ?_
    obtain ⟨rfl⟩ := hQ7
    (go_wp2_with fail)
    go_ret
    exact ⟨_, rfl, rfl, bthen hbt hcur⟩
end Go.Proofs.YtigoofeodbbbhaaDoor
/- The row of tandemlaw02.NumRaises. -/
namespace Go.Proofs.YtigoofeodbbbhaaDoor
open Go.RowKit Go.Proofs.YtigoofeodbbbhaaDoorL Go.Proofs.YtigoofeodbbbhaaDoorM Go.ChangeShapes Go.WideShapes Go.ChangeAt Go.Deep
set_option linter.unusedVariables false
set_option linter.unusedSimpArgs false
section
variable {H : Type} {enc : TypeId × Value → H}
set_option maxRecDepth 100000 in
theorem openI {W : World} {base : Nat} {v : Value} {d : DataW H} {p : List MemPlace} (hv : Value.okWide Tryd.prog W .any base 3 v) (h : DataW.Trod enc Tryd.prog W 0 (fun _ => true) true 3 v d p) :
    ∃ n : Int, v = .int .i64 n ∧ (-9223372036854775808 ≤ n ∧ n ≤ 9223372036854775807) := by
  obtain ⟨n, rfl⟩ := okWide_int Tryd.underlying3 hv
  obtain ⟨fuel, hf⟩ := h
  obtain ⟨k, e, _, hw⟩ := DataW.trod_int Tryd.underlying3 hf
  simp [Value.cells] at e
  subst e
  have hmin : IntKind.i64.min = -9223372036854775808 := by decide
  have hmax : IntKind.i64.max = 9223372036854775807 := by decide
  simp only [Lit.wf, hmin, hmax, Bool.and_eq_true, decide_eq_true_eq] at hw
  exact ⟨n, rfl, hw⟩
end
def numRaisesArgs : Array Value := #[.agg #[.bool false, .slice none 0 0], .int .i64 0, .int .i64 0]
theorem numRaises_laid (os : Os) : laidMet Tryd.prog Rows.numRaisesUptoRow.laid ((laidWorld os).forCall (fun _ _ => 0) ⟨#[], numRaisesArgs, []⟩).memory :=
  laidMet_of_run' 8 (by kernel_rfl) (by kernel_rfl)
theorem numRaises_reads (os : Os) {H : Type} (enc : TypeId × Value → H) : ∃ x, DataW.whole enc Tryd.prog ((laidWorld os).forCall (fun _ _ => 0) ⟨#[], numRaisesArgs, []⟩).memory Tryd.f12.params.toList Rows.numRaisesSpec.vars false numRaisesArgs.toList 8 = some x ∧ Rows.uptoSmall H (x.1 ++ x.2.1) = true :=
  ⟨([.agg [.lit (.bool false), .nil], .lit (.int .i64 0), .lit (.int .i64 0)], [], []), by kernel_rfl, by kernel_rfl⟩
set_option maxRecDepth 100000 in
theorem numRaises_contract (H : Type) (enc : TypeId × Value → H) (W : World) (base : Nat) (args : Array Value) (ds gs : List (DataW H)) (before : List MemPlace)
    (hval : ∀ (j : Nat) t v, Tryd.f12.params[j]? = some t → args[j]? = some v → Value.okWide Tryd.prog W .any base t v)
    (hW : DataW.Whole enc Tryd.prog Tryd.f12.params.toList Rows.numRaisesSpec.vars false W args.toList ds gs before) (hk : Rows.uptoSmall H (ds ++ gs) = true) (hL : laidMetH Tryd.prog Rows.numSumsRow.laid W) :
    Calls Tryd.prog 12 args W fun e W' => ∃ v, e = .returned v ∧ Rows.numRaisesSpec.post enc Tryd.prog Tryd.f12 false true false false W args v W' := by
  have hW' := hW
  obtain ⟨p, q, hA0, hV, rfl, hfz, hnd⟩ := hW
  have hA : DataW.TrodAll enc Tryd.prog W 0 (fun _ => true) true Tryd.f12.params.toList args.toList ds p := hA0
  rw [Tryd.params12] at hA hval
  obtain ⟨v0, vs0, d0, ds0, p0, q0, hv0, rfl, rfl, h0, r0⟩ := trodAll_cons hA
  obtain ⟨v1, vs1, d1, ds1, p1, q1, hv1, rfl, rfl, h1, r1⟩ := trodAll_cons r0
  obtain ⟨v2, vs2, d2, ds2, p2, q2, hv2, rfl, rfl, h2, r2⟩ := trodAll_cons r1
  obtain ⟨hv3, rfl, rfl⟩ := trodAll_nil r2
  obtain rfl : args = #[v0, v1, v2] := by
    have e : args.toList = [v0, v1, v2] := by rw [hv0, hv1, hv2, hv3]
    exact Array.toList_inj.1 e
  obtain ⟨rfl, rfl⟩ := trodVars_none hV
  have hb : Rows.uptoBulk d0 + (Rows.uptoBulk d1 + (Rows.uptoBulk d2 + 0)) ≤ 1048576 := by
    simpa only [List.append_nil, Rows.uptoSmall, Rows.uptoBulkAll, decide_eq_true_eq] using hk
  obtain ⟨x0, rfl, hx0, hg0⟩ := openN (hval 0 26 v0 rfl rfl) h0
  obtain ⟨x1, rfl, hx1⟩ := openI (hval 1 3 v1 rfl rfl) h1
  obtain ⟨x2, rfl, hx2⟩ := openI (hval 2 3 v2 rfl rfl) h2
  clear hA0
  refine (numRaises_any x0 x1 x2 W (tab_of hL) (hg0 (by omega)) (by omega) hx1.1 hx1.2 hx2.1 hx2.2).mono fun e W' ⟨v, he, hv, bel⟩ => ?_
  subst he hv
  exact ⟨_, rfl, law_post rfl Tryd.underlying4 laidOut (by rw [Tryd.params12]; decide +kernel) rfl hW' rfl bel⟩
set_option maxRecDepth 100000 in
theorem numRaises_lifted (os : Os) (started : os.Started) (H : Type) (enc : TypeId × Value → H) (F : Stop.Interp) :
    ReturnsInHanded {} Tryd.checked os 12 .any ((Rows.OpenSpec.upto Rows.numRaisesSpec).preRow enc Tryd.prog Tryd.f12 Rows.numRaisesUptoRow.domain false Rows.numRaisesUptoRow.laid) (((Rows.OpenSpec.upto Rows.numRaisesSpec).at F).post enc Tryd.prog Tryd.f12 false true false false) := by
  obtain ⟨x, hx, hxs⟩ := numRaises_reads os enc
  refine returnsInHanded_of_row (C := Tryd.checked) (s := Rows.OpenSpec.upto Rows.numRaisesSpec) ownK started (by kernel_rfl) Tryd.func12
    (witness_row_at (enc := enc) (C := Tryd.checked) false (laidWorld os) numRaisesArgs rfl (by kernel_rfl) (by kernel_rfl) (by kernel_rfl)
      (OpenSpec.preRow_of_cond 8 hx (by rfl) (fun k hk => by cases hk; exact hxs) (by kernel_rfl) (numRaises_laid os))) ?_
  intro W base args ds gs before hval hW _ hk _ hL _ _
  exact numRaises_contract H enc W base args ds gs before hval hW (hk _ rfl) hL
theorem numRaises_saidUpto : Rows.NumRaisesUptoSaid :=
  OpenClaim.holds_of_cond 12 Tryd.f12 rfl rfl rfl rfl rfl rfl rfl ⟨rfl, rfl, rfl, rfl, rfl⟩ rfl rfl rfl rfl rfl (by kernel_rfl) Tryd.func12 (by kernel_rfl)
    (of_decide_eq_true (by kernel_rfl)) (by unfold Func.isWrapper; first | (rw [if_pos (by decide +kernel)]; kernel_rfl) | (rw [if_neg (by decide +kernel)]; exact ⟨rfl, rfl⟩))
    (fun os started H enc _ F => by rw [OpenClaim.pre_eq_preRow]; exact numRaises_lifted os started H enc F)
theorem numRaises_plainly (f : FuncId) (fn : Func) (hf : Tryd.pinned.checked.prog.funcNamed "tandem/tandemlaw02.NumRaises" = some f) (hfn : Tryd.pinned.checked.prog.funcs[f]? = some fn) :
    true = Tryd.pinned.checked.prog.looks [] ∧ ∀ (j : Nat) t, fn.params[j]? = some t → Tryd.pinned.checked.prog.wantsStandIn t = false := by
  obtain rfl : f = 12 := Option.some.inj ((show Tryd.prog.funcNamed "tandem/tandemlaw02.NumRaises" = some 12 by kernel_rfl).symm.trans hf) |>.symm
  obtain rfl : fn = Tryd.f12 := (Option.some.inj (Tryd.func12.symm.trans hfn)).symm
  refine ⟨by kernel_rfl, fun j t ht => ?_⟩
  rw [Tryd.params12] at ht
  have hm := Array.mem_of_getElem? ht
  simp only [Array.mem_def, List.mem_cons, List.not_mem_nil, or_false] at hm
  rcases hm with rfl | rfl | rfl
  · exact (show Tryd.prog.wantsStandIn 26 = false by kernel_rfl)
  · exact (show Tryd.prog.wantsStandIn 3 = false by kernel_rfl)
  · exact (show Tryd.prog.wantsStandIn 3 = false by kernel_rfl)
theorem NumRaisesUptoCard_holds : Rows.NumRaisesUptoCardSaid :=
  Claim7.holds_tied_plain_at .later [] _ _ _ _ numRaises_saidUpto (fun _ h => by cases h) (by kernel_rfl) (fun _ h => by cases h) numRaisesUpto_row_tie rfl ⟨rfl, rfl⟩ (by kernel_rfl) rfl numRaises_plainly (by kernel_rfl)
end Go.Proofs.YtigoofeodbbbhaaDoor
