/- NatBack. -/
import Derived.Test.YtbdcjlikjpdhfaaDoorAwake1
import Derived.Test.YtbdcjlikjpdhfaaDoorPlace
import Derived.Test.YtbdcjlikjpdhfaaDoorLawNatTexts
namespace Go.Proofs.YtbdcjlikjpdhfaaDoor
open Go.RowKit Go.Proofs.YtbdcjlikjpdhfaaDoorL Go.Proofs.YtbdcjlikjpdhfaaDoorM
set_option linter.unusedVariables false
set_option linter.unusedSimpArgs false
theorem decLen (k : Nat) : ∀ v, v < 10 ^ (k + 1) → (Lib.decDigits v).length ≤ k + 1 := by
  induction k with
  | zero => intro v h; rw [Lib.decDigits_one (by simpa using h)]; simp
  | succ k ih =>
    intro v h
    by_cases h1 : v < 10
    · rw [Lib.decDigits_one h1]; simp
    · rw [Lib.decDigits, dif_neg h1, List.length_append]
      have := ih (v / 10) (by rw [Nat.div_lt_iff_lt_mul (by omega)]; rw [← Nat.pow_succ]; exact h)
      simp only [List.length_cons, List.length_nil]
      omega
theorem run_add_listsB {P : Program} (w : World) (x y : List UInt8) (h : x.length + y.length ≤ 9223372036854775807) : (Op.stringOp .add ⟨x.toArray⟩ ⟨y.toArray⟩).run P w = .ok (.string ⟨(x ++ y).toArray⟩) w := by
  rw [run_string_add_sum w _ _ (by simp [ByteArray.size]; omega), ByteArray.mk_append_mk]
set_option maxRecDepth 16000 in
set_option maxHeartbeats 8000000 in
theorem natBack_any (l1 : List Nat) (z : Int) (A1 : Option Addr) (c1 : Nat) (w : World) (htab : Tab w) (h1 : Lim w A1 c1 l1) (hl : l1.length ≤ 1048576) (hz : -9223372036854775808 ≤ z ∧ z ≤ 9223372036854775807) :
    Calls Tryd.prog 5 #[.slice A1 l1.length c1, .int .i64 z] w (Gives w fun v _ => v = .bool true) := by
  have HT := As.mk htab
  have hcur := Below.refl w.heap.size w
  obtain ⟨k1, V1, e1, f1, o1⟩ := UR.Ok.of h1
  have F := (Us.nil w).cons o1
  rw [e1] at hl ⊢
  have hVlt := o1.lt
  simp only at hVlt
  clear htab h1 o1 f1 e1
  obtain ⟨k, hk⟩ : ∃ k : Nat, z % 9 = (k : Int) := ⟨(z % 9).toNat, by omega⟩
  have hk9 : k < 9 := by omega
  have HPl := As.mk (fun W => place_any z 9 W hz (by omega) k hk)
  obtain ⟨T, hT⟩ : ∃ T, Lib.decDigits V1 = T := ⟨_, rfl⟩
  have HTx := As.mk hT
  obtain ⟨n1, n2, n3⟩ := numV_dec V1
  have hdl := decLen (10 * k1) V1 (Nat.lt_of_lt_of_le hVlt (Nat.le_trans (Nat.pow_le_pow_left (show 4294967296 ≤ 10 ^ 10 by decide) k1) (by rw [← Nat.pow_mul]; exact Nat.pow_le_pow_right (by omega) (by omega))))
  rw [hT] at n1 n2 n3 hdl
  have hTl : 0 < T.length := List.length_pos_iff.2 n3
  have HP := As.mk (fun (W : World) => parseU ⟨(List.replicate k (48 : UInt8) ++ T).toArray⟩ W (by simp [ByteArray.size]; omega) (fun c hc => by
    simp only [List.mem_append] at hc
    rcases hc with hc | hc
    · obtain ⟨_, rfl⟩ := List.mem_replicate.1 hc; decide
    · exact n2 c hc) V1 (by simp only [numV_zeros, n1]) true (by simp [ByteArray.size]; omega))
  have HS := As.mk (fun (i : Nat) (hi : i < k) (W : World) => run_add_listsB (P := Tryd.prog) W [(48 : UInt8)] (List.replicate i (48 : UInt8) ++ T) (by simp only [List.length_append, List.length_replicate, List.length_cons, List.length_nil]; omega))
  have HR : As (∀ i, [(48 : UInt8)] ++ (List.replicate i (48 : UInt8) ++ T) = List.replicate (i + 1) (48 : UInt8) ++ T) := ⟨fun i => by rw [List.replicate_succ]; rfl⟩
  have hsz : As (V1 < 4294967296 ^ (k + T.length)) := ⟨by
    have h1 := numV_lt0 T n2
    rw [n1] at h1
    exact Nat.lt_of_lt_of_le h1 (Nat.le_trans (Nat.pow_le_pow_left (by omega) _) (Nat.pow_le_pow_right (by omega) (by omega)))⟩
  clear hT n1 n2 n3 hVlt hk
  obtain ⟨bn, hbn⟩ : ∃ bn, bitN V1 = bn := ⟨_, rfl⟩
  have Hb := As.mk hbn
  go_enter Tryd.func5, Tryd.ntmps5
  go_wp2_with (first
    | (go_at_call 14; (with_reducible refine (cU F (by repeat (first | exact List.mem_cons_self .. | apply List.mem_cons_of_mem))).mono ?_); rintro e wn ⟨vn, rfl, ⟨An, cn, rfl, o⟩, hb⟩; replace F := (F.below hb).cons o; replace hcur := bthen hcur hb; (try replace Bl := Bl.below hb); clear o hb)
    | (go_at_call 21; (with_reducible refine (textU F (by repeat (first | exact List.mem_cons_self .. | apply List.mem_cons_of_mem)) (HT.out.below hcur) _ HTx.out).mono ?_); rintro e wn ⟨vn, rfl, rfl, hb⟩; replace F := F.below hb; replace hcur := bthen hcur hb; (try replace Bl := Bl.below hb); clear hb))
  go_loopw [5, 6] (fun v u wr => ∃ i : Nat, i ≤ k ∧ u = .int .i64 (i : Int) ∧ v = .string ⟨(List.replicate i (48 : UInt8) ++ T).toArray⟩ ∧ wn = wr) (fun _ u _ => k - (intOf u).toNat)
  case atStart => exact ⟨0, by omega, rfl, by simp, rfl⟩
  case round =>
    obtain ⟨i, hi, rfl, rfl, rfl⟩ := hrel
    by_cases h : i < k
    · have ha : ∀ W : World, (Op.stringOp .add ⟨#[48]⟩ ⟨(List.replicate i (48 : UInt8) ++ T).toArray⟩).run Tryd.prog W = .ok (.string ⟨(List.replicate (i + 1) (48 : UInt8) ++ T).toArray⟩) W := fun W => by
        rw [← HR.out i]; exact HS.out i h W
      obtain ⟨S1, hS1⟩ : ∃ S1, S1 = List.replicate (i + 1) (48 : UInt8) ++ T := ⟨_, rfl⟩
      obtain ⟨S0, hS0⟩ : ∃ S0, S0 = List.replicate i (48 : UInt8) ++ T := ⟨_, rfl⟩
      rw [← hS1, ← hS0] at ha
      rw [← hS0]
      have HS1 := As.mk hS1
      clear hS1 hS0
      go_wp2_with (go_at_call 25; (refine (HPl.out _).mono ?_); rintro e wm ⟨rfl, rfl⟩)
      go_roundw
      case rel => exact ⟨i + 1, by omega, by go_num, by rw [HS1.out], trivial⟩
      case measure => simp [intOf]; omega
    · obtain rfl : i = k := by omega
      by_cases h0 : V1 = 0
      · have hbz : bn = 0 := by rw [← hbn, h0]; exact bitN_zero
        subst hbz
        clear hbn h
        have H0 := As.mk h0
        clear h0
        obtain ⟨S0, hS0⟩ : ∃ S0, S0 = List.replicate i (48 : UInt8) ++ T := ⟨_, rfl⟩
        rw [← hS0] at HP ⊢
        clear hS0
        go_wp2_with (first
          | (go_at_call 25; (refine (HPl.out _).mono ?_); rintro e wm ⟨rfl, rfl⟩)
          | (go_at_call 19; (refine (HP.out _).mono ?_); rintro e wn ⟨vn, rfl, ⟨qn, rfl, ⟨An, nn, cn, rfl, o, _⟩⟩, hb⟩; obtain rfl : nn = 0 := UR.Ok.zero o H0.out; replace F := (F.below hb).cons o; replace hcur := bthen hcur hb; (try replace Bl := Bl.below hb); clear o hb)
          | (go_at_call 14; (with_reducible refine (cU F (by repeat (first | exact List.mem_cons_self .. | apply List.mem_cons_of_mem))).mono ?_); rintro e wn ⟨vn, rfl, ⟨An, cn, rfl, o⟩, hb⟩; replace F := (F.below hb).cons o; replace hcur := bthen hcur hb; (try replace Bl := Bl.below hb); clear o hb)
          | (go_at_call 23; (with_reducible refine (bitsU F (by repeat (first | exact List.mem_cons_self .. | apply List.mem_cons_of_mem)) _ Hb.out).mono ?_); rintro e wn ⟨rfl, rfl⟩)
          | (go_at_call 16; (with_reducible refine (addU0 F (by repeat (first | exact List.mem_cons_self .. | apply List.mem_cons_of_mem)) (by omega)).mono ?_); rintro e wn ⟨vn, rfl, ⟨An, nn, cn, rfl, o, _⟩, hb⟩; replace F := (F.below hb).cons o; replace hcur := bthen hcur hb; (try replace Bl := Bl.below hb); clear o hb)
          | (go_at_call 15; (with_reducible refine (sU F (by repeat (first | exact List.mem_cons_self .. | apply List.mem_cons_of_mem)) (by repeat (first | exact List.mem_cons_self .. | apply List.mem_cons_of_mem)) rfl).mono ?_); rintro e wn ⟨vn, rfl, rfl, hb⟩; replace F := F.below hb; replace hcur := bthen hcur hb; (try replace Bl := Bl.below hb); clear hb)
          | (go_at_call 18; (with_reducible refine (awake01_any _ (HT.out.below hcur)).mono ?_); rintro e wn ⟨vn, rfl, rfl, hb⟩; replace F := F.below hb; replace hcur := bthen hcur hb; (try replace Bl := Bl.below hb); clear hb))
        go_ret
        exact ⟨_, rfl, rfl, hcur⟩
      · obtain ⟨D, hD⟩ : ∃ D, D = digB 4294967296 V1 := ⟨_, rfl⟩
        have hDn : D ≠ [] := fun e => h0 ((digB_eq_nil 4294967296 V1 (by omega)).1 (hD ▸ e))
        obtain ⟨m, hm⟩ : ∃ m, D.length = m + 1 := ⟨D.length - 1, by have : D.length ≠ 0 := fun e => hDn (List.eq_nil_of_length_eq_zero e); omega⟩
        have hmD : m < D.length := by omega
        obtain ⟨x, hx⟩ : ∃ x, x = D[m]'hmD := ⟨_, rfl⟩
        have hx0 : 0 < x := by
          have := digB_canon 4294967296 (by omega) V1 (D.getLast hDn) (by rw [← hD]; exact List.getLast?_eq_some_getLast hDn)
          rw [List.getLast_eq_getElem] at this
          have e : D.length - 1 = m := by omega
          simp only [e] at this
          omega
        have hble : bn ≤ 32 * (m + 1) := by
          have := bitN_le 32 V1 (by omega)
          rw [show (2 : Nat) ^ 32 = 4294967296 from rfl, ← hD, hm, hbn] at this
          exact this
        have hbgt : 32 * m < bn := by
          have h2 := bitN_limbs 32 V1 (by omega) (by rw [show (2 : Nat) ^ 32 = 4294967296 from rfl, ← hD]; exact hDn)
          simp only [show (2 : Nat) ^ 32 = 4294967296 from rfl, ← hD] at h2
          rw [hbn, hm, Nat.add_sub_cancel] at h2
          have h3 : bitN (D.getLast hDn) ≠ 0 := fun e => by
            have := (bitN_eq_zero _).1 e
            rw [List.getLast_eq_getElem] at this
            have e : D.length - 1 = m := by omega
            simp only [e] at this
            omega
          omega
        have HL : As (∀ (W : World) (base n c : Nat) (A : Option Addr), Ow encU 1 36 base W (.slice A n c) (digB 4294967296 V1) → n = m + 1 ∧ ∃ b off, A = some ⟨b, off, none⟩) := ⟨fun W base n c A f => ⟨by rw [f.len_eq, ← hD, hm], (f.rd lenU).get (by rw [← hD]; exact hDn)⟩⟩
        have HC : As (∀ (W : World) (base b off n c : Nat), Ow encU 1 36 base W (.slice (some ⟨b, off, none⟩) n c) (digB 4294967296 V1) → W.cell? ⟨b, off + m, none⟩ = some (.int .u32 (x : Int))) := ⟨fun W base b off n c f => by
          have := Rd.u (f.rd lenU) m (by rw [← hD]; exact hmD)
          simp only [← hD, ← hx] at this
          exact this⟩
        have hb1 : ((bn : Int) == 0) = false := by
          have : bn ≠ 0 := by omega
          simp [this]
        have hx1 : ((x : Int) != 0) = true := by
          have : x ≠ 0 := by omega
          simp [this]
        have hm1 : (((m + 1 : Nat) : Int) == 0) = false := by simp; omega
        have em : ((m + 1 : Nat) : Int) - 1 = (m : Int) := by omega
        have hmk : m + 1 ≤ i + T.length := by
          have := digB_len_lt 4294967296 (by omega) _ _ hsz.out
          rw [← hD, hm] at this
          exact this
        clear hbn h h0 hD hDn hm hmD hx
        obtain ⟨S0, hS0⟩ : ∃ S0, S0 = List.replicate i (48 : UInt8) ++ T := ⟨_, rfl⟩
        rw [← hS0] at HP ⊢
        clear hS0
        obtain ⟨m1, hm1e⟩ : ∃ m1, m1 = m + 1 := ⟨_, rfl⟩
        rw [← hm1e] at hm1 em hmk HL hble
        have hm1p : (0 : Int) < (m1 : Int) := by omega
        clear hm1e
        go_wp2_with (first
          | (go_at_call 25; (refine (HPl.out _).mono ?_); rintro e wm ⟨rfl, rfl⟩)
          | (go_at_call 19; (refine (HP.out _).mono ?_); rintro e wn ⟨vn, rfl, ⟨qn, rfl, ⟨An, nn, cn, rfl, o, hox⟩⟩, hb⟩; replace hox := hox.lower hcur.size; obtain ⟨hnn, bx, offx, rfl⟩ := HL.out _ _ _ _ _ hox; obtain rfl : nn = m1 := hnn; have hcx := HC.out _ _ _ _ _ _ hox; replace F := (F.below hb).cons o; replace hcur := bthen hcur hb; (try replace Bl := Bl.below hb); clear o hb)
          | (go_at_call 14; (with_reducible refine (cU F (by repeat (first | exact List.mem_cons_self .. | apply List.mem_cons_of_mem))).mono ?_); rintro e wn ⟨vn, rfl, ⟨An, cn, rfl, o⟩, hb⟩; (try (replace hox := hox.below hb; clear hcx; have hcx := HC.out _ _ _ _ _ _ hox)); replace F := (F.below hb).cons o; replace hcur := bthen hcur hb; (try replace Bl := Bl.below hb); clear o hb)
          | (go_at_call 23; (with_reducible refine (bitsU F (by repeat (first | exact List.mem_cons_self .. | apply List.mem_cons_of_mem)) _ Hb.out).mono ?_); rintro e wn ⟨rfl, rfl⟩)
          | (go_at_call 16; (with_reducible refine (addU0 F (by repeat (first | exact List.mem_cons_self .. | apply List.mem_cons_of_mem)) (by omega)).mono ?_); rintro e wn ⟨vn, rfl, ⟨An, nn, cn, rfl, o, _⟩, hb⟩; (try (replace hox := hox.below hb; clear hcx; have hcx := HC.out _ _ _ _ _ _ hox)); replace F := (F.below hb).cons o; replace hcur := bthen hcur hb; (try replace Bl := Bl.below hb); clear o hb)
          | (go_at_call 15; (with_reducible refine (sU F (by repeat (first | exact List.mem_cons_self .. | apply List.mem_cons_of_mem)) (by repeat (first | exact List.mem_cons_self .. | apply List.mem_cons_of_mem)) rfl).mono ?_); rintro e wn ⟨vn, rfl, rfl, hb⟩; (try (replace hox := hox.below hb; clear hcx; have hcx := HC.out _ _ _ _ _ _ hox)); replace F := F.below hb; replace hcur := bthen hcur hb; (try replace Bl := Bl.below hb); clear hb)
          | (go_at_call 18; (with_reducible refine (awake01_any _ (HT.out.below hcur)).mono ?_); rintro e wn ⟨vn, rfl, rfl, hb⟩; (try (replace hox := hox.below hb; clear hcx; have hcx := HC.out _ _ _ _ _ _ hox)); replace F := F.below hb; replace hcur := bthen hcur hb; (try replace Bl := Bl.below hb); clear hb))
        go_ret
        exact ⟨_, rfl, rfl, hcur⟩
end Go.Proofs.YtbdcjlikjpdhfaaDoor
