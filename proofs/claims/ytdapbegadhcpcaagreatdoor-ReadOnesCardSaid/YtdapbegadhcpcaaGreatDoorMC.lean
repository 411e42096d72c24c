/- A part of the proof. -/
import Derived.Test.YtdapbegadhcpcaaGreatDoorShelf
import Derived.Test.YtdapbegadhcpcaaGreatDoorMB
import Derived.Lib.ItoaMem
import Derived.Lib.AppendStr
import Derived.Lib.Builder
import Derived.Lib.ItoaNum
import Derived.Lib.AppendIntMem
import Derived.Lib.BitFns
set_option linter.unusedVariables false
set_option linter.unusedSimpArgs false
namespace Go.Proofs.YtdapbegadhcpcaaGreatDoor
open Go.RowKit Go.Proofs.YtdapbegadhcpcaaGreatDoorL Go.Proofs.YtdapbegadhcpcaaGreatDoorM
open Go.Sort hiding Below
theorem tabIs_below {P : Program} {w w1 : World} {name : String} {k : IntKind} {zs : List Int} (h : Lib.TabIs P w name k zs) (hb : Below w.heap.size w w1) : Lib.TabIs P w1 name k zs := by
 unfold Lib.TabIs World.var? at *
 cases hg : P.globalNamed name with
 | none => simp [hg] at h
 | some g =>
   simp only [hg, Option.bind_some] at h ⊢
   have hlt : g < w.heap.size := by
    rcases Nat.lt_or_ge g w.heap.size with h' | h'
    · exact h'
    · rw [Array.getElem?_eq_none h'] at h; simp at h
   rw [hb.block g hlt]
   exact h
def Tab (w : World) : Prop := Lib.TabIs Tryz.prog w "internal/strconv.uint64pow10" .u64 Lib.pow10Tab
theorem Tab.below {w w1 : World} (h : Tab w) (hb : Below w.heap.size w w1) : Tab w1 := tabIs_below h hb
end Go.Proofs.YtdapbegadhcpcaaGreatDoor
namespace Go.Proofs.YtdapbegadhcpcaaGreatDoorM
open Go.Lib
end Go.Proofs.YtdapbegadhcpcaaGreatDoorM
namespace Go.Proofs.YtdapbegadhcpcaaGreatDoor
open Go.RowKit Go.Proofs.YtdapbegadhcpcaaGreatDoorL Go.Proofs.YtdapbegadhcpcaaGreatDoorM
def encT (x : List UInt8) : List Value := [.string ⟨x.toArray⟩]
theorem Rd.t {w : World} {b off : Nat} {l : List (List UInt8)} (f : Rd encT 1 w (some ⟨b, off, none⟩) l) (i : Nat) (hi : i < l.length) : w.cell? ⟨b, off + i, none⟩ = some (.string ⟨l[i].toArray⟩) := by
 have := f.cell i hi 0 _ rfl
 simpa using this
end Go.Proofs.YtdapbegadhcpcaaGreatDoor
namespace Go.Proofs.YtdapbegadhcpcaaGreatDoorM
def bitN (v : Nat) : Nat := (digB 2 v).length
theorem bitN_zero : bitN 0 = 0 := by rw [bitN, digB_zero]; rfl
theorem bitN_eq_zero (v : Nat) : bitN v = 0 ↔ v = 0 := by
 rw [bitN, List.length_eq_zero_iff]; exact digB_eq_nil 2 v (by omega)
theorem bitN_unique (v k : Nat) (h1 : 2 ^ k ≤ v) (h2 : v < 2 ^ (k + 1)) : bitN v = k + 1 := by
 have a := digB_len_ge 2 (by omega) k v h1
 have b := digB_len_lt 2 (by omega) (k + 1) v h2
 unfold bitN; omega
theorem bitN_lt (v : Nat) : v < 2 ^ bitN v := by
 have := valB_lt 2 (by omega) (digB 2 v) (digB_lt 2 (by omega) v)
 rwa [digB_val 2 (by omega)] at this
theorem bitN_ge (v : Nat) (h : 0 < v) : 2 ^ (bitN v - 1) ≤ v := by
 rcases Nat.lt_or_ge v (2 ^ (bitN v - 1)) with h1 | h1
 · exfalso
   have h2 := digB_len_lt 2 (by omega) _ v h1
   have h3 : bitN v ≠ 0 := fun e => by rw [bitN_eq_zero] at e; omega
   unfold bitN at *
   omega
 · exact h1
theorem bitN_half (x : Nat) (h : 0 < x) : bitN x = 1 + bitN (x / 2) := by
 unfold bitN; rw [digB_pos 2 x (by omega) h]; simp; omega
theorem bitLen_bitN (x : Nat) (h : x < 2 ^ 64) : Lib.bitLen x = bitN x := by
 induction x using Nat.strongRecOn with
 | ind x ih =>
   rcases Nat.eq_zero_or_pos x with rfl | hx
   · rw [bitN_zero]; rfl
   · rw [Lib.bitLen_half x (by omega) h, bitN_half x hx, ih (x / 2) (Nat.div_lt_self hx (by omega)) (by omega)]
theorem bitN_top (k : Nat) (L : List Nat) (hL : ∀ x ∈ L, x < 2 ^ k) (top : Nat) (ht : 0 < top) : bitN (valB (2 ^ k) (L ++ [top])) = k * L.length + bitN top := by
 have h1 := valB_lt (2 ^ k) (Nat.pow_pos (by omega)) L hL
 rw [valB_snoc]
 have h2 := bitN_lt top
 have h3 := bitN_ge top ht
 have h4 : bitN top ≠ 0 := fun e => by rw [bitN_eq_zero] at e; omega
 obtain ⟨t, h5⟩ : ∃ t, bitN top = t + 1 := ⟨bitN top - 1, by omega⟩
 rw [h5] at h2 h3 ⊢
 rw [← Nat.pow_mul] at h1 ⊢
 rw [Nat.add_sub_cancel] at h3
 have e1 : 2 ^ (k * L.length + t) = 2 ^ (k * L.length) * 2 ^ t := Nat.pow_add ..
 have e2 : 2 ^ (k * L.length + (t + 1)) = 2 ^ (k * L.length) * 2 ^ (t + 1) := Nat.pow_add ..
 have m1 : 2 ^ (k * L.length) * 2 ^ t ≤ 2 ^ (k * L.length) * top := Nat.mul_le_mul_left _ h3
 have m2 : 2 ^ (k * L.length) * (top + 1) ≤ 2 ^ (k * L.length) * 2 ^ (t + 1) := Nat.mul_le_mul_left _ h2
 rw [Nat.mul_add, Nat.mul_one] at m2
 have := bitN_unique (valB (2 ^ k) L + 2 ^ (k * L.length) * top) (k * L.length + t) (by omega) (by rw [show k * L.length + t + 1 = k * L.length + (t + 1) by omega]; omega)
 omega
theorem bitN_limbs (k v : Nat) (hk : 0 < k) (h : digB (2 ^ k) v ≠ []) : bitN v = k * ((digB (2 ^ k) v).length - 1) + bitN ((digB (2 ^ k) v).getLast h) := by
 have hB : 1 < 2 ^ k := Nat.one_lt_two_pow (by omega)
 have h0 := digB_canon (2 ^ k) hB v _ (List.getLast?_eq_some_getLast h)
 have h1 := bitN_top k ((digB (2 ^ k) v).dropLast) (fun x hx => digB_lt (2 ^ k) hB v x ((List.dropLast_sublist _).subset hx)) ((digB (2 ^ k) v).getLast h) (by omega)
 rw [List.dropLast_concat_getLast, digB_val _ hB, List.length_dropLast] at h1
 exact h1
end Go.Proofs.YtdapbegadhcpcaaGreatDoorM
namespace Go.Proofs.YtdapbegadhcpcaaGreatDoor
open Go.RowKit Go.Proofs.YtdapbegadhcpcaaGreatDoorL Go.Proofs.YtdapbegadhcpcaaGreatDoorM
set_option maxHeartbeats 400000 in
theorem bits_any (l : List Nat) (n : Nat) (hn : l.length = n) (A : Option Addr) (c : Nat) (w : World) (hr : Rd encU 1 w A l) (hl : ∀ x ∈ l, x < 4294967296) (hc : n ≤ c) (hm : n ≤ 281474976710656) :
 Calls Tryz.prog 92 #[.slice A n c] w fun e w' => e = .returned (.int .i64 ((bitN (valB 4294967296 l) : Nat) : Int)) ∧ w = w' := by
 subst hn
 obtain ⟨V, hV⟩ : ∃ V, V = valB 4294967296 l := ⟨_, rfl⟩
 rw [← hV]
 obtain ⟨L, hL⟩ : ∃ L, L = digB 4294967296 V := ⟨_, rfl⟩
 have htr : As (trimL l = L) := ⟨by rw [hL, hV]; exact trimL_dig 4294967296 (by omega) l hl⟩
 have hLe : L.length ≤ l.length := by rw [← htr.out]; exact trimL_le l
 have hrL : Rd encU 1 w A L := by have := Rd.trim hr; rwa [htr.out] at this
 have htrim := trim_any l A c w hr hc (by omega)
 rw [htr.out] at htrim
 have Htrim := As.mk htrim
 by_cases h0 : L.length = 0
 · have hb0 : As (bitN V = 0) := ⟨by rw [bitN_eq_zero, ← digB_eq_nil 4294967296 V (by omega), ← hL]; exact List.eq_nil_of_length_eq_zero h0⟩
   have hz : ((L.length : Int) == 0) = true := by simp; exact List.eq_nil_of_length_eq_zero h0
   clear hL hV h0 htrim
   go_enter Tryz.func92, Tryz.ntmps92
   go_wp2_with (go_at_call 69; (with_reducible refine Htrim.out.mono ?_); rintro e w1 ⟨rfl, rfl⟩)
   go_ret
   exact ⟨by rw [hb0.out]; rfl, rfl⟩
 · have hne : L ≠ [] := fun h => h0 (by rw [h]; rfl)
   have hz : ((L.length : Int) == 0) = false := by simp; exact hne
   obtain ⟨m, hm1⟩ : ∃ m, L.length = m + 1 := ⟨L.length - 1, by omega⟩
   obtain ⟨b, off, rfl⟩ := hr.get (ne_nil_of_lt (i := m) (by omega))
   have hcell := Rd.u hrL m (by omega)
   obtain ⟨x, hx⟩ : ∃ x, x = L[m] := ⟨_, rfl⟩
   rw [← hx] at hcell
   have hx2 : x < 4294967296 := by rw [hx]; have := List.getElem_mem (show m < L.length by omega); exact (hL ▸ digB_lt 4294967296 (by omega) V) _ this
   have hbits : As (bitN V = 32 * m + bitN x) := ⟨by
    have hk := bitN_limbs 32 V (by omega) (by rw [show (2 : Nat) ^ 32 = 4294967296 from rfl, ← hL]; exact hne)
    simp only [show (2 : Nat) ^ 32 = 4294967296 from rfl, ← hL] at hk
    rw [hk, hm1, Nat.add_sub_cancel, List.getLast_eq_getElem, hx]
    simp only [hm1, Nat.add_sub_cancel]⟩
   have hlen32 := Tryz.bits_Len32 (x : Int) w (by omega) (by omega)
   rw [Int.toNat_natCast, bitLen_bitN x (by omega)] at hlen32
   have hbx : bitN x ≤ 32 := digB_len_lt 2 (by omega) 32 x (by omega)
   have Hlen := As.mk hlen32
   have Hm := As.mk hm1
   have hml : m < 281474976710656 := by omega
   have em : ((L.length : Int) - 1) = (m : Int) := by omega
   have hmL : m < L.length := by omega
   have hmc : m < c := by omega
   clear hx hL hV h0 htrim hlen32 hm1 hne
   go_enter Tryz.func92, Tryz.ntmps92
   go_wp2_with (first
    | (go_at_call 69; (with_reducible refine Htrim.out.mono ?_); rintro e w1 ⟨rfl, rfl⟩)
    | (go_at_call 96; (with_reducible refine Hlen.out.mono ?_); rintro e w1 ⟨rfl, rfl⟩))
   go_ret
   exact ⟨by rw [hbits.out]; go_num, rfl⟩
structure Lim (w : World) (A : Option Addr) (c : Nat) (l : List Nat) : Prop where
 rd : Rd encU 1 w A l
 lt : ∀ x ∈ l, x < 4294967296
 cap : l.length ≤ c
 none : A = none → c = 0
 max : l.length ≤ 274877906944
theorem Lim.below {w w1 : World} {A : Option Addr} {c : Nat} {l : List Nat} (h : Lim w A c l) (hb : Below w.heap.size w w1) : Lim w1 A c l := ⟨h.rd.below hb, h.lt, h.cap, h.none, h.max⟩
set_option maxHeartbeats 400000 in
theorem sbits_any (l : List Nat) (A : Option Addr) (c : Nat) (w : World) (h : Lim w A c l) :
 Calls Tryz.prog 81 #[.agg #[.slice A l.length c]] w (Gives w fun v w' => v = .int .i64 ((bitN (valB 4294967296 l) : Nat) : Int)) := by
 go_enter Tryz.func81, Tryz.ntmps81
 go_wp2_with (first
  | ((with_reducible refine g_dst 1 ?_); go_must (refine ev_box 1 rfl (cs := [.slice A l.length c]) (by rfl) ?_); intro g w1 hb1 B1 hg1; have C1 := B1.cells)
  | (go_at_call 92; (with_reducible refine (bits_any l _ rfl _ _ _ (h.below hb1).rd h.lt h.cap (Nat.le_trans h.max (by omega))).mono ?_); rintro e w2 ⟨rfl, rfl⟩))
 go_ret
 exact ⟨_, rfl, rfl, hb1⟩
set_option maxHeartbeats 400000 in
theorem szero_any (l : List Nat) (A : Option Addr) (c : Nat) (w : World) (h : Lim w A c l) :
 Calls Tryz.prog 70 #[.agg #[.slice A l.length c]] w (Gives w fun v w' => v = .bool (decide (valB 4294967296 l = 0))) := by
 have hz : As (((bitN (valB 4294967296 l) : Int) == 0) = decide (valB 4294967296 l = 0)) := ⟨by
  rw [Bool.eq_iff_iff]; simp [bitN_eq_zero]⟩
 go_enter Tryz.func70, Tryz.ntmps70
 go_wp2_with (first
  | ((with_reducible refine g_dst 1 ?_); go_must (refine ev_box 1 rfl (cs := [.slice A l.length c]) (by rfl) ?_); intro g w1 hb1 B1 hg1; have C1 := B1.cells)
  | (go_at_call 81; (with_reducible refine (sbits_any l _ _ _ (h.below hb1)).mono ?_); rintro e w2 ⟨v2, rfl, rfl, hb2⟩))
 go_ret
 exact ⟨_, rfl, by rw [← hz.out]; rfl, bthen hb1 hb2⟩
end Go.Proofs.YtdapbegadhcpcaaGreatDoor
