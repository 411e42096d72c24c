/- A part of the proof. -/
import Derived.Test.YtdapbegadhcpcaaGreatDoorRfC
import Derived.Test.YtdapbegadhcpcaaGreatDoorRdG
set_option linter.unusedVariables false
set_option linter.unusedSimpArgs false
namespace Go.Proofs.YtdapbegadhcpcaaGreatDoor
open Go.RowKit Go.Proofs.YtdapbegadhcpcaaGreatDoorL Go.Proofs.YtdapbegadhcpcaaGreatDoorM
theorem get_c {T : ByteArray} {j : Nat} {c : UInt8} (hm : j < T.size) (hc : T.data.toList[j]? = some c) : T[j]'hm = c := by
 have := (List.getElem?_eq_some_iff.1 hc).2
 rw [← this, ByteArray.getElem_eq_getElem_data]; simp
set_option maxRecDepth 8000 in
set_option maxHeartbeats 2000000 in
theorem rdot_b {w : World} {g i : Nat} {p c0 : Int} {T : ByteArray} (R : RR w g T i p c0) (hi : i < T.size) (hT : T.size ≤ 65536) (b : Bool) (hb : dotAt T.data.toList i = b) :
 Calls Tryz.prog 47 #[.pointer (some ⟨g, 0, none⟩)] w (Gives w fun v _ => v = .bool b) := by
 have C := R.out.cells
 have hsl := size_list T
 obtain ⟨c, hc⟩ := get_size T hi
 have hcx := get_c hi hc
 have hii : (i : Int) < (T.size : Int) := by omega
 have e46 := u8R c 46 (by omega)
 have hd : dotAt T.data.toList i = ((c == 46) && (match T.data.toList[i + 1]? with | none => true | some c => isDl c)) := by rw [dotAt, hc]; rfl
 rw [hd] at hb
 clear hd hc
 cases hc46 : (c == 46) with
 | false =>
   rw [hc46] at hb
   have e46' : ((c.toNat : Int) == 46) = false := by rw [← hc46]; exact e46
   obtain rfl : false = b := hb
   clear e46 hc46
   go_enter Tryz.func47, Tryz.ntmps47
   go_wp2
   have hbw := (Below.refl (World.heap w).size w).drew
   replace R := R.below hbw
   clear C
   have C := R.out.cells
   have HS := As.mk (fun W (R : RR W g T i p c0) => (show W.cell? ⟨g, 0, none⟩ = some (.string T) ∧ W.cell? ⟨g, 1, none⟩ = some (.int .i64 (i : Int)) from ⟨R.out.cells 0, R.out.cells 1⟩))
   have hS0 := HS.out _ R
   refine wp_gen2 (fun Q7 hQ7 => ?_)
   refine wp_region_held_drew (S := fun W => W.cell? ⟨g, 0, none⟩ = some (.string T) ∧ W.cell? ⟨g, 1, none⟩ = some (.int .i64 (i : Int))) (by kernel_rfl) (hS0) (fun hHeld => ?_)
   refine ta 0 (.pointer (some ⟨g, 0, none⟩)) ?_
   refine ta 1 (.pointer (some ⟨g, 0, none⟩)) ?_
   refine ta 2 (.pointer (some ⟨g, 0, none⟩)) ?_
   refine ta 3 (.string T) ?_
   refine ta 4 (.pointer (some ⟨g, 0, none⟩)) ?_
   refine ta 5 (.pointer (some ⟨g, 0, none⟩)) ?_
   refine ta 6 (.pointer (some ⟨g, 1, none⟩)) ?_
   refine ta 7 (.int .i64 (i : Int)) ?_
   refine ta 8 (.int .u8 (c.toNat : Int)) ?_
   refine ta 9 (.bool false) ?_
   refine ta 10 (.bool false) ?_
   refine tu 11 ?_
   refine tu 12 ?_
   refine tu 13 ?_
   refine tu 14 ?_
   refine tu 15 ?_
   refine tu 16 ?_
   refine tu 17 ?_
   refine tu 18 ?_
   refine tu 19 ?_
   refine tu 20 ?_
   refine tu 21 ?_
   refine tu 22 ?_
   refine tu 23 ?_
   refine tu 24 ?_
   refine tu 25 ?_
   refine tu 26 ?_
   refine tu 27 ?_
   refine tu 28 ?_
   refine tu 29 ?_
   refine tu 30 ?_
   refine tu 31 ?_
   refine tu 32 ?_
   refine tu 33 ?_
   refine tu 34 ?_
   refine ta 35 (.bool false) ?_
   refine ta 36 (.bool false) ?_
   refine wpAnyH_done (by kernel_rfl) ?_ _
   refine NoPanic.normal ?_
   obtain ⟨rfl⟩ := hQ7
   go_wp2
   go_ret
   exact ⟨_, rfl, rfl, hbw⟩
 | true =>
   rw [hc46, Bool.true_and] at hb
   have e46' : ((c.toNat : Int) == 46) = true := by rw [← hc46]; exact e46
   clear e46 hc46
   obtain ⟨k, hk⟩ : ∃ k, k = i + 1 := ⟨_, rfl⟩
   have hik : (i : Int) + 1 = (k : Int) := by omega
   have hwk : IntKind.i64.wrap (k : Int) = (k : Int) := IntWalk.i64_in _ (by omega)
   rw [← hk] at hb
   by_cases hkl : k < T.size
   · have hkli : (k : Int) < (T.size : Int) := by omega
     have hkn : ((k : Int) == (T.size : Int)) = false := by simp; omega
     obtain ⟨c2, hc2⟩ := get_size T hkl
     have hcx2 := get_c hkl hc2
     rw [hc2] at hb
     have h2 : isDl c2 = b := hb
     clear hb hc2 hk
     cases b with
     | false =>
       go_enter Tryz.func47, Tryz.ntmps47
       go_wp2
       have hbw := (Below.refl (World.heap w).size w).drew
       replace R := R.below hbw
       clear C
       have C := R.out.cells
       have HS := As.mk (fun W (R : RR W g T i p c0) => (show W.cell? ⟨g, 0, none⟩ = some (.string T) ∧ W.cell? ⟨g, 1, none⟩ = some (.int .i64 (i : Int)) from ⟨R.out.cells 0, R.out.cells 1⟩))
       have hS0 := HS.out _ R
       refine wp_gen2 (fun Q7 hQ7 => ?_)
       refine wp_region_held_drew (S := fun W => W.cell? ⟨g, 0, none⟩ = some (.string T) ∧ W.cell? ⟨g, 1, none⟩ = some (.int .i64 (i : Int))) (by kernel_rfl) (hS0) (fun hHeld => ?_)
       refine ta 0 (.pointer (some ⟨g, 0, none⟩)) ?_
       refine ta 1 (.pointer (some ⟨g, 0, none⟩)) ?_
       refine ta 2 (.pointer (some ⟨g, 0, none⟩)) ?_
       refine ta 3 (.string T) ?_
       refine ta 4 (.pointer (some ⟨g, 0, none⟩)) ?_
       refine ta 5 (.pointer (some ⟨g, 0, none⟩)) ?_
       refine ta 6 (.pointer (some ⟨g, 1, none⟩)) ?_
       refine ta 7 (.int .i64 (i : Int)) ?_
       refine ta 8 (.int .u8 (c.toNat : Int)) ?_
       refine ta 9 (.bool true) ?_
       refine ta 10 (.bool true) ?_
       refine ta 11 (.pointer (some ⟨g, 0, none⟩)) ?_
       refine ta 12 (.pointer (some ⟨g, 0, none⟩)) ?_
       refine ta 13 (.pointer (some ⟨g, 1, none⟩)) ?_
       refine ta 14 (.int .i64 (i : Int)) ?_
       refine ta 15 (.int .i64 (k : Int)) ?_
       refine ta 16 (.pointer (some ⟨g, 0, none⟩)) ?_
       refine ta 17 (.pointer (some ⟨g, 0, none⟩)) ?_
       refine ta 18 (.pointer (some ⟨g, 0, none⟩)) ?_
       refine ta 19 (.string T) ?_
       refine ta 20 (.int .i64 (T.size : Int)) ?_
       refine ta 21 (.bool false) ?_
       refine ta 22 (.bool false) ?_
       refine ta 23 (.pointer (some ⟨g, 0, none⟩)) ?_
       refine ta 24 (.pointer (some ⟨g, 0, none⟩)) ?_
       refine ta 25 (.pointer (some ⟨g, 0, none⟩)) ?_
       refine ta 26 (.string T) ?_
       refine ta 27 (.pointer (some ⟨g, 0, none⟩)) ?_
       refine ta 28 (.pointer (some ⟨g, 0, none⟩)) ?_
       refine ta 29 (.pointer (some ⟨g, 1, none⟩)) ?_
       refine ta 30 (.int .i64 (i : Int)) ?_
       refine ta 31 (.int .i64 (k : Int)) ?_
       refine ta 32 (.int .u8 (c2.toNat : Int)) ?_
       refine wpAnyH_ready (rs := [33]) (by decide +kernel) (by simp) ?_
       refine AllReadyH.cons (o := _) (by simp only [List.getElem?_toArray, List.getElem?_cons_succ, List.getElem?_cons_zero]; rfl) (fun K hK => ?_) AllReadyH.nil
       refine gI ?_
       (with_reducible refine s_dst 36 ?_); go_simp; (with_reducible refine (rdelim_b _ false h2 _).mono ?_); rintro e wn ⟨vn, rfl, rfl, hb⟩; replace R := R.below hb; replace hbw := bthen hbw hb; clear hb C; have C := R.out.cells
       refine hK.out _ _ (HS.out _ R) (fun hHeld => ?_); clear hK K; (try simp only [Act.put, pA, pB, pC, pD, pE, pF])
       refine ta 34 (.bool false) ?_
       refine ta 35 (.bool false) ?_
       refine ta 36 (.bool false) ?_
       refine wpAnyH_done (by kernel_rfl) ?_ _
       refine NoPanic.normal ?_
       obtain ⟨rfl⟩ := hQ7
       go_wp2
       go_ret
       exact ⟨_, rfl, rfl, hbw⟩
     | true =>
       go_enter Tryz.func47, Tryz.ntmps47
       go_wp2
       have hbw := (Below.refl (World.heap w).size w).drew
       replace R := R.below hbw
       clear C
       have C := R.out.cells
       have HS := As.mk (fun W (R : RR W g T i p c0) => (show W.cell? ⟨g, 0, none⟩ = some (.string T) ∧ W.cell? ⟨g, 1, none⟩ = some (.int .i64 (i : Int)) from ⟨R.out.cells 0, R.out.cells 1⟩))
       have hS0 := HS.out _ R
       refine wp_gen2 (fun Q7 hQ7 => ?_)
       refine wp_region_held_drew (S := fun W => W.cell? ⟨g, 0, none⟩ = some (.string T) ∧ W.cell? ⟨g, 1, none⟩ = some (.int .i64 (i : Int))) (by kernel_rfl) (hS0) (fun hHeld => ?_)
       refine ta 0 (.pointer (some ⟨g, 0, none⟩)) ?_
       refine ta 1 (.pointer (some ⟨g, 0, none⟩)) ?_
       refine ta 2 (.pointer (some ⟨g, 0, none⟩)) ?_
       refine ta 3 (.string T) ?_
       refine ta 4 (.pointer (some ⟨g, 0, none⟩)) ?_
       refine ta 5 (.pointer (some ⟨g, 0, none⟩)) ?_
       refine ta 6 (.pointer (some ⟨g, 1, none⟩)) ?_
       refine ta 7 (.int .i64 (i : Int)) ?_
       refine ta 8 (.int .u8 (c.toNat : Int)) ?_
       refine ta 9 (.bool true) ?_
       refine ta 10 (.bool true) ?_
       refine ta 11 (.pointer (some ⟨g, 0, none⟩)) ?_
       refine ta 12 (.pointer (some ⟨g, 0, none⟩)) ?_
       refine ta 13 (.pointer (some ⟨g, 1, none⟩)) ?_
       refine ta 14 (.int .i64 (i : Int)) ?_
       refine ta 15 (.int .i64 (k : Int)) ?_
       refine ta 16 (.pointer (some ⟨g, 0, none⟩)) ?_
       refine ta 17 (.pointer (some ⟨g, 0, none⟩)) ?_
       refine ta 18 (.pointer (some ⟨g, 0, none⟩)) ?_
       refine ta 19 (.string T) ?_
       refine ta 20 (.int .i64 (T.size : Int)) ?_
       refine ta 21 (.bool false) ?_
       refine ta 22 (.bool false) ?_
       refine ta 23 (.pointer (some ⟨g, 0, none⟩)) ?_
       refine ta 24 (.pointer (some ⟨g, 0, none⟩)) ?_
       refine ta 25 (.pointer (some ⟨g, 0, none⟩)) ?_
       refine ta 26 (.string T) ?_
       refine ta 27 (.pointer (some ⟨g, 0, none⟩)) ?_
       refine ta 28 (.pointer (some ⟨g, 0, none⟩)) ?_
       refine ta 29 (.pointer (some ⟨g, 1, none⟩)) ?_
       refine ta 30 (.int .i64 (i : Int)) ?_
       refine ta 31 (.int .i64 (k : Int)) ?_
       refine ta 32 (.int .u8 (c2.toNat : Int)) ?_
       refine wpAnyH_ready (rs := [33]) (by decide +kernel) (by simp) ?_
       refine AllReadyH.cons (o := _) (by simp only [List.getElem?_toArray, List.getElem?_cons_succ, List.getElem?_cons_zero]; rfl) (fun K hK => ?_) AllReadyH.nil
       refine gI ?_
       (with_reducible refine s_dst 36 ?_); go_simp; (with_reducible refine (rdelim_b _ true h2 _).mono ?_); rintro e wn ⟨vn, rfl, rfl, hb⟩; replace R := R.below hb; replace hbw := bthen hbw hb; clear hb C; have C := R.out.cells
       refine hK.out _ _ (HS.out _ R) (fun hHeld => ?_); clear hK K; (try simp only [Act.put, pA, pB, pC, pD, pE, pF])
       refine ta 34 (.bool true) ?_
       refine ta 35 (.bool true) ?_
       refine ta 36 (.bool true) ?_
       refine wpAnyH_done (by kernel_rfl) ?_ _
       refine NoPanic.normal ?_
       obtain ⟨rfl⟩ := hQ7
       go_wp2
       go_ret
       exact ⟨_, rfl, rfl, hbw⟩
   · have hke : ((k : Int) == (T.size : Int)) = true := by simp; omega
     rw [List.getElem?_eq_none_iff.2 (by omega)] at hb
     obtain rfl : true = b := hb
     clear hk
     go_enter Tryz.func47, Tryz.ntmps47
     go_wp2
     have hbw := (Below.refl (World.heap w).size w).drew
     replace R := R.below hbw
     clear C
     have C := R.out.cells
     have HS := As.mk (fun W (R : RR W g T i p c0) => (show W.cell? ⟨g, 0, none⟩ = some (.string T) ∧ W.cell? ⟨g, 1, none⟩ = some (.int .i64 (i : Int)) from ⟨R.out.cells 0, R.out.cells 1⟩))
     have hS0 := HS.out _ R
     refine wp_gen2 (fun Q7 hQ7 => ?_)
     refine wp_region_held_drew (S := fun W => W.cell? ⟨g, 0, none⟩ = some (.string T) ∧ W.cell? ⟨g, 1, none⟩ = some (.int .i64 (i : Int))) (by kernel_rfl) (hS0) (fun hHeld => ?_)
     refine ta 0 (.pointer (some ⟨g, 0, none⟩)) ?_
     refine ta 1 (.pointer (some ⟨g, 0, none⟩)) ?_
     refine ta 2 (.pointer (some ⟨g, 0, none⟩)) ?_
     refine ta 3 (.string T) ?_
     refine ta 4 (.pointer (some ⟨g, 0, none⟩)) ?_
     refine ta 5 (.pointer (some ⟨g, 0, none⟩)) ?_
     refine ta 6 (.pointer (some ⟨g, 1, none⟩)) ?_
     refine ta 7 (.int .i64 (i : Int)) ?_
     refine ta 8 (.int .u8 (c.toNat : Int)) ?_
     refine ta 9 (.bool true) ?_
     refine ta 10 (.bool true) ?_
     refine ta 11 (.pointer (some ⟨g, 0, none⟩)) ?_
     refine ta 12 (.pointer (some ⟨g, 0, none⟩)) ?_
     refine ta 13 (.pointer (some ⟨g, 1, none⟩)) ?_
     refine ta 14 (.int .i64 (i : Int)) ?_
     refine ta 15 (.int .i64 (k : Int)) ?_
     refine ta 16 (.pointer (some ⟨g, 0, none⟩)) ?_
     refine ta 17 (.pointer (some ⟨g, 0, none⟩)) ?_
     refine ta 18 (.pointer (some ⟨g, 0, none⟩)) ?_
     refine ta 19 (.string T) ?_
     refine ta 20 (.int .i64 (T.size : Int)) ?_
     refine ta 21 (.bool true) ?_
     refine ta 22 (.bool true) ?_
     refine tu 23 ?_
     refine tu 24 ?_
     refine tu 25 ?_
     refine tu 26 ?_
     refine tu 27 ?_
     refine tu 28 ?_
     refine tu 29 ?_
     refine tu 30 ?_
     refine tu 31 ?_
     refine tu 32 ?_
     refine tu 33 ?_
     refine ta 34 (.bool true) ?_
     refine ta 35 (.bool true) ?_
     refine ta 36 (.bool true) ?_
     refine wpAnyH_done (by kernel_rfl) ?_ _
     refine NoPanic.normal ?_
     obtain ⟨rfl⟩ := hQ7
     go_wp2
     go_ret
     exact ⟨_, rfl, rfl, hbw⟩
end Go.Proofs.YtdapbegadhcpcaaGreatDoor
