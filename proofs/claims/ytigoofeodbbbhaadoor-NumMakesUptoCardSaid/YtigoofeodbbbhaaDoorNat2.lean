/- nat.small: quotient and rest by one limb. -/
import Derived.Test.YtigoofeodbbbhaaDoorLib2
import Derived.Test.YtigoofeodbbbhaaDoorMath2
import Derived.Test.YtigoofeodbbbhaaDoorNat1
import Derived.RowKit2
namespace Go.Proofs.YtigoofeodbbbhaaDoor
open Go.RowKit Go.Proofs.YtigoofeodbbbhaaDoorL Go.Proofs.YtigoofeodbbbhaaDoorM
set_option linter.unusedVariables false
set_option linter.unusedSimpArgs false
def valU (x : Nat) : Value := .int .u32 x
theorem encU_one : ∀ x, encU x = [valU x] := fun _ => rfl
theorem u64_shift_or (r x : Nat) (hr : r < 4294967296) (hx : x < 4294967296) : bits .or .u64 ((r : Int) * 4294967296) (x : Int) = ((r * 4294967296 + x : Nat) : Int) := by
  have e1 : ((r : Int) * 4294967296) = ((r * 4294967296 : Nat) : Int) := by
    rw [Int.natCast_mul]; rfl
  rw [e1, u64_or_nat _ _ (by omega) (by omega)]
  have := Nat.shiftLeft_add_eq_or_of_lt (i := 32) (b := x) (by simpa using hx) r
  rw [Nat.shiftLeft_eq] at this
  rw [show (4294967296 : Nat) = 2 ^ 32 from rfl, this]
theorem trim_n (l : List Nat) (n : Nat) (hn : l.length = n) (A : Option Addr) (c : Nat) (w : World) (hr : Rd encU 1 w A l) (hc : n ≤ c) (hm : n ≤ 9223372036854775807) :
    Calls Tryd.prog 73 #[.slice A n c] w fun e w' => e = .returned (.slice A (trimL l).length c) ∧ w = w' := by
  subst hn; exact trim_any l A c w hr hc hm
set_option maxHeartbeats 400000 in
theorem small_any (l : List Nat) (A : Option Addr) (c d : Nat) (w : World) (hr : Rd encU 1 w A l) (hl : ∀ x ∈ l, x < 4294967296) (hd : 0 < d) (hd2 : d < 4294967296) (hc : l.length ≤ c) (hm : l.length * 4 ≤ 140737488355328) :
    Calls Tryd.prog 76 #[.slice A l.length c, .int .u32 d] w (Gives w fun v w' => ∃ q, v = .tuple #[q, .int .u32 ((valB 4294967296 l % d : Nat) : Int)] ∧ Ow encU 1 62 w.heap.size w' q (digB 4294967296 (valB 4294967296 l / d))) := by
  have HL := As.mk hl
  clear hl
  go_enter Tryd.func76, Tryd.ntmps76
  go_wp2_with ((with_reducible refine g_dst 10 ?_); go_must (refine ev_make 10 rfl Tryd.underlying24 infoU rfl (n := l.length) rfl rfl (by omega) (by omega) ?_); intro g w1 hb1 B1 hg)
  go_loopw [6, 7] (fun v u wr => ∃ k r : Nat, ∃ qs : List Nat, k ≤ l.length ∧ r < d ∧ v = .int .u64 (r : Int) ∧ u = .int .i64 ((k : Int) - 1) ∧ As (r = valB 4294967296 (l.drop k) % d) ∧ As (qs = qL 4294967296 d (l.drop k)) ∧ Below w.heap.size w wr ∧ Blk wr g ((List.replicate k 0 ++ qs).map valU) 62) (fun v u _ => (intOf u + 1).toNat)
  case atStart =>
    refine ⟨l.length, 0, [], Nat.le_refl _, hd, rfl, by go_num, ⟨?_⟩, ⟨?_⟩, hb1, ?_⟩
    · rw [List.drop_length]; simp [valB]
    · rw [List.drop_length]; rfl
    · simpa [valU] using B1
  case round =>
    obtain ⟨k, r, qs, hk, hrd, rfl, rfl, hR, hQ, hb, B⟩ := hrel
    cases k with
    | zero =>
      have hql : qs.length = l.length := by rw [hQ.out, qL_len]; simp
      have hrd' := B.rdm encU_one
      rw [List.replicate_zero, List.nil_append] at hrd' B
      have htr := trim_qL 4294967296 d (by omega) hd (l.drop 0) (fun x hx => HL.out x (by simpa using hx))
      rw [← hQ.out] at htr
      rw [List.drop_zero] at htr hR
      go_wp2_with (go_at_call 73; (with_reducible refine (trim_n qs l.length hql _ _ _ hrd' (by omega) (by omega)).mono ?_); rintro e w2 ⟨rfl, rfl⟩)
      go_ret2
      refine ⟨_, rfl, ⟨.slice (some ⟨g, 0, none⟩) (digB 4294967296 (valB 4294967296 l / d)).length l.length, ?_, ?_⟩, hb⟩
      · rw [← hR.out]; rfl
      · have := B.ow (base := w.heap.size) encU_one hg (by simp [maxLen]; omega) (trimL qs).length (trimL_le qs)
        rw [← trimL_take, htr, hql] at this
        exact this
    | succ m =>
      obtain ⟨b, off, rfl⟩ := hr.get (ne_nil_of_lt (i := m) (by omega))
      have hcell := Rd.u (hr.below hb) m (by omega)
      obtain ⟨x, hx⟩ : ∃ x, x = l[m] := ⟨_, rfl⟩
      have hx2 : x < 4294967296 := by rw [hx]; exact HL.out _ (List.getElem_mem _)
      rw [← hx] at hcell
      obtain ⟨v, hv⟩ : ∃ v, v = r * 4294967296 + x := ⟨_, rfl⟩
      have hor := u64_shift_or r x (by omega) hx2
      rw [← hv] at hor
      have hqd : v / d < 4294967296 := by
        rw [Nat.div_lt_iff_lt_mul hd, hv]
        have := Nat.mul_le_mul_right 4294967296 (Nat.succ_le_of_lt hrd)
        rw [Nat.succ_mul] at this
        rw [Nat.mul_comm 4294967296 d]; omega
      have hmd := Nat.mod_lt v hd
      have hR' : As (v % d = valB 4294967296 (l.drop m) % d) := ⟨by rw [drop_cons_of_lt l m (by omega), rem_cons, ← hR.out, ← hx, hv]⟩
      have hQ' : As (v / d :: qs = qL 4294967296 d (l.drop m)) := ⟨by rw [drop_cons_of_lt l m (by omega), qL, ← hR.out, ← hx, hv, hQ.out]⟩
      have e1 : ((v : Int).tdiv (d : Int)) = ((v / d : Nat) : Int) := by rw [Int.tdiv_eq_ediv_of_nonneg (by omega)]; rfl
      have e2 : ((v : Int).tmod (d : Int)) = ((v % d : Nat) : Int) := by rw [Int.tmod_eq_emod_of_nonneg (by omega)]; rfl
      have Hk := As.mk hx
      have Hv := As.mk hv
      clear hx hv hR hQ
      have hlen : m < (List.replicate (m + 1) 0 ++ qs).length := by simp; omega
      obtain ⟨V1, hV1⟩ : ∃ V1, V1 = v / d := ⟨_, rfl⟩
      obtain ⟨V2, hV2⟩ : ∃ V2, V2 = v % d := ⟨_, rfl⟩
      rw [← hV1] at e1 hqd hQ'
      rw [← hV2] at e2 hmd hR'
      clear hV1 hV2
      go_wp2_with ((with_reducible refine g_store 33 ?_); go_must (refine ev_set rfl (by go_simp) B (u := V1) (by go_simp; rfl) infoU hlen (by rfl) ?_); intro w2 ho B2; rw [fill_down] at B2)
      go_roundw
      case rel => exact ⟨m, V2, V1 :: qs, by omega, hmd, by go_num, by go_num, hR', hQ', hb.trans (ho.below hg), B2⟩
      case measure => simp [intOf]
end Go.Proofs.YtigoofeodbbbhaaDoor
