/- strconv.ParseUint of up to nine digits; nat.Parse. -/
import Derived.Test.YtbdcjlikjpdhfaaDoorGrow
import Derived.Test.YtbdcjlikjpdhfaaDoorMath13
import Derived.Test.YtbdcjlikjpdhfaaDoorShelf
import Derived.Laws.RangeAny
import Derived.Lib.OthersKept
import Derived.Lib.AtoiErrMem
import Derived.WalkSmall
import Derived.WalkLawsBesides
import Derived.WalkSpells
import Derived.Laws.Closers25
namespace Go.Proofs.YtbdcjlikjpdhfaaDoor
open Go.RowKit Go.Proofs.YtbdcjlikjpdhfaaDoorL Go.Proofs.YtbdcjlikjpdhfaaDoorM
set_option linter.unusedVariables false
set_option linter.unusedSimpArgs false
theorem parseUint_any (x : ByteArray) (w : World) (hd : ∀ c ∈ x.data.toList, isD c = true) (h0 : x.size ≠ 0) (h9 : x.size ≤ 9) :
    Calls Tryd.prog 42 #[.string x, .int .i64 10, .int .i64 32] w (Gives w fun v _ => v = .tuple #[.int .u64 ((numV 0 x.data.toList : Nat) : Int), .nilIface]) := by
  have hlen : x.data.toList.length ≤ 9 := by
    have : x.data.toList.length = x.size := by rw [Array.length_toList]; rfl
    omega
  have hlt := numV_lt0 x.data.toList hd
  have h10 : 10 ^ x.data.toList.length ≤ 10 ^ 9 := Nat.pow_le_pow_right (by omega) hlen
  have hle : numV 0 x.data.toList ≤ 4294967295 := by
    have : (10 : Nat) ^ 9 = 1000000000 := by decide
    omega
  have hP := Tryd.internal_strconv_ParseUint_10_b32 x h0 (by omega) w
  rw [parse_ok 4294967295 (Nat.le_refl _) _ 0 hd hle] at hP
  obtain ⟨V, hV⟩ : ∃ V, V = numV 0 x.data.toList := ⟨_, rfl⟩
  rw [← hV] at hP hle ⊢
  have HP := As.mk hP
  have HB := As.mk (Lib.bytesWorld_below w 5 x)
  clear hP hd hlt h10 hlen hV
  go_enter Tryd.func42, Tryd.ntmps42
  go_wp2_with (go_at_call 63; (refine HP.out.mono ?_); rintro e w1 ⟨rfl, hw1⟩; have hb1 : Below w.heap.size w w1 := (by rw [hw1]; exact HB.out); clear hw1; simp only [Lib.uintTupleM])
  go_ret2
  exact ⟨_, rfl, rfl, hb1⟩
theorem extract_list (s : ByteArray) (a e : Nat) (h : a ≤ e) (he : e ≤ s.size) : (s.extract a e).data.toList = (s.data.toList.drop a).take (e - a) := by
  rw [ByteArray.data_extract, Array.toList_extract, List.extract_eq_take_drop]
theorem byte_mem (s : ByteArray) (pos : Nat) (hp : pos < s.size) : s[pos]'hp ∈ s.data.toList := by
  rw [ByteArray.getElem_eq_getElem_data]; simp
theorem ne_empty (s : ByteArray) : (!s.toList.isEmpty) = decide (0 < s.size) := by
  rw [← decide_eq_emptyBytes]
  by_cases h : s = ByteArray.empty
  · subst h; rfl
  · have h2 : 0 < s.size := by
      rcases Nat.eq_zero_or_pos s.size with h0 | h0
      · exact absurd (ByteArray.size_eq_zero_iff.1 h0) h
      · exact h0
    simp [h, h2]
theorem iter_below {w wr : World} {B k pos : Nat} {s : ByteArray} (h : Below B w wr) (hk : B ≤ k) : Below B w (wr.iterAt k s pos) := Lib.below_iterAt h hk s pos
theorem pow10_9 (k : Nat) (h : k < 9) : 10 ^ k ≤ 100000000 := by
  have : (10 : Nat) ^ k ≤ 10 ^ 8 := Nat.pow_le_pow_right (by omega) (by omega)
  have e : (10 : Nat) ^ 8 = 100000000 := by decide
  omega
set_option maxRecDepth 8000 in
set_option maxHeartbeats 4000000 in
theorem parse_yes (s : ByteArray) (w : World) (hs : s.size ≤ 1073741824) (hd : ∀ c ∈ s.data.toList, isD c = true) :
    Calls Tryd.prog 19 #[.string s] w (Gives w fun v w' => ∃ q, v = .tuple #[q, .bool (decide (0 < s.size))] ∧ Ow encU 1 36 w.heap.size w' q (digB 4294967296 (numV 0 s.data.toList))) := by
  obtain ⟨t, ht⟩ : ∃ t, t = s.data.toList := ⟨_, rfl⟩
  have hsl : s.data.toList.length = s.size := by rw [Array.length_toList]; rfl
  rw [← ht] at hsl hd ⊢
  have HD := As.mk hd
  have HSL := As.mk hsl
  have Ht := As.mk ht
  clear hd hsl ht
  go_enter Tryd.func19, Tryd.ntmps19
  go_wp2
  go_loopw [5] (fun _ wr => ∃ pos : Nat, pos ≤ s.size ∧ As (wr.heap[w.heap.size]? = some (.stringIter s pos)) ∧ Below w.heap.size w wr) (fun _ wr => s.size - wr.iterPos w.heap.size)
  case atStart => exact ⟨0, by omega, ⟨World.iter_heap w s 0⟩, (Below.refl _ _).alloc (Nat.le_refl _) _⟩
  case round =>
    obtain ⟨pos, hpos, hit, hb⟩ := hrel
    have hpos0 := As.mk (iterPos_of hit.out)
    by_cases hp : pos < s.size
    · have hx := isD_of (HD.out (s[pos]'hp) (by
        have := byte_mem s pos hp
        rwa [← Ht.out] at this))
      have hnx := fun ty => Lib.run_next_ascii_at (P := Tryd.prog) wr w.heap.size s pos ty hit.out hp (by omega)
      obtain ⟨x, hxe⟩ : ∃ x, x = (s[pos]'hp).toNat := ⟨_, rfl⟩
      rw [← hxe] at hx hnx
      have hit2 := As.mk (Lib.iterAt_heap wr w.heap.size s pos (pos + 1) hit.out)
      have hb2 := iter_below (s := s) (pos := pos + 1) hb (Nat.le_refl _)
      obtain ⟨W1, hW1⟩ : ∃ W1, W1 = wr.iterAt w.heap.size s (pos + 1) := ⟨_, rfl⟩
      rw [← hW1] at hnx hit2 hb2
      have hx1 : ¬ (x : Int) < 48 := by omega
      have hx2 : ¬ (57 : Int) < (x : Int) := by omega
      clear hW1 hxe hit
      go_wp2
      go_roundw
      case rel => exact ⟨pos + 1, by omega, hit2, hb2⟩
      case measure => rw [iterPos_of hit2.out, hpos0.out]; omega
    · have hnx := fun ty => Lib.run_next_end_at (P := Tryd.prog) wr w.heap.size s pos ty hit.out hp
      go_wp2
      clear hnx hit hpos0 hp
      go_loopw [7, 6, 8, 9, 10, 11] (fun v u _ _ _ _ wr => ∃ (at_ c : Nat) (A : Option Addr) (l : List Nat), at_ ≤ s.size ∧ v = .int .i64 (at_ : Int) ∧ u = .slice A l.length c ∧ l.length ≤ at_ ∧ As (∀ x ∈ l, x < 4294967296) ∧ As (valB 4294967296 l = numV 0 (t.take at_)) ∧ Ow encU 1 36 w.heap.size wr (.slice A l.length c) l ∧ Below w.heap.size w wr) (fun v _ _ _ _ _ _ => s.size - (intOf v).toNat)
      case atStart => exact ⟨0, 0, none, [], by omega, rfl, rfl, by simp, ⟨fun x hx => (nomatch hx)⟩, ⟨by simp [valB, numV_nil]⟩, Ow.nil _ _ _ _ _, hb⟩
      case round =>
        clear hb
        obtain ⟨at_, c, A, l, hat, rfl, rfl, hll, hl, hV, ho, hb⟩ := hrel
        by_cases h : at_ < s.size
        · obtain ⟨r, hr⟩ : ∃ r, r = s.size % 9 := ⟨_, rfl⟩
          have er : (s.size : Int) % 9 = (r : Int) := by rw [hr]; rfl
          have hr9 : r < 9 := by omega
          obtain ⟨e, he, hae, hes, hed, hcase⟩ : ∃ e : Nat, (at_ = 0 ∧ 0 < r ∧ e = r ∨ (¬ (at_ = 0 ∧ 0 < r)) ∧ e = min s.size (at_ + 9)) ∧ at_ < e ∧ e ≤ s.size ∧ e - at_ ≤ 9 ∧ True := by
            by_cases hc : at_ = 0 ∧ 0 < r
            · exact ⟨r, .inl ⟨hc.1, hc.2, rfl⟩, by omega, by omega, by omega, trivial⟩
            · exact ⟨min s.size (at_ + 9), .inr ⟨hc, rfl⟩, by omega, by omega, by omega, trivial⟩
          obtain ⟨d, hd⟩ : ∃ d, d = e - at_ := ⟨_, rfl⟩
          have hxl := extract_list s at_ e (by omega) hes
          rw [← Ht.out, ← hd] at hxl
          have hxs : (s.extract at_ e).size = d := by rw [ByteArray.size_extract]; omega
          have hxd : ∀ c ∈ (s.extract at_ e).data.toList, isD c = true := fun c hc => HD.out c (by rw [hxl] at hc; exact List.mem_of_mem_drop (List.mem_of_mem_take hc))
          have hxlen : ((t.drop at_).take d).length = d := by rw [List.length_take, List.length_drop, HSL.out]; omega
          have hult := numV_lt0 _ hxd
          rw [hxl] at hult
          rw [hxlen] at hult
          have HU := As.mk (fun W => parseUint_any (s.extract at_ e) W hxd (by rw [hxs]; omega) (by rw [hxs]; omega))
          rw [hxl] at HU
          obtain ⟨u, hu⟩ : ∃ u, u = numV 0 ((t.drop at_).take d) := ⟨_, rfl⟩
          rw [← hu] at HU hult
          have hu10 : u < 4294967296 := by
            have : 10 ^ d ≤ 10 ^ 9 := Nat.pow_le_pow_right (by omega) (by omega)
            have e9 : (10 : Nat) ^ 9 = 1000000000 := by decide
            omega
          have eu : IntKind.u32.wrap (u : Int) = (u : Int) := IntWalk.u32_in _ (by omega)
          have HVn : As (numV 0 (t.take at_) * 10 ^ d + u = numV 0 (t.take e)) := ⟨by
            have h1 : t.take e = t.take at_ ++ (t.drop at_).take d := by
              rw [show e = at_ + d by omega, List.take_add]
            rw [h1, numV_append, numV_acc ((t.drop at_).take d), hxlen, ← hu]⟩
          obtain ⟨m0, hm0⟩ : ∃ m0, m0 = min s.size (at_ + 9) := ⟨_, rfl⟩
          have em0 : min (s.size : Int) ((at_ : Int) + 9) = (m0 : Int) := by rw [hm0]; omega
          have hati : (at_ : Int) < (s.size : Int) := by omega
          have haei : (at_ : Int) ≤ (e : Int) := by omega
          have hesi : (e : Int) ≤ (s.size : Int) := by omega
          have ed : (e : Int) - (at_ : Int) = (d : Int) := by omega
          have hd9 : d ≤ 9 := by omega
          have Hd := As.mk hd
          have hpow := pow10_9
          have hpre : ((at_ : Int) == 0) = true ∧ (0 : Int) < (r : Int) ∧ e = r ∨ ((at_ : Int) == 0) = true ∧ ¬ (0 : Int) < (r : Int) ∧ e = m0 ∨ ((at_ : Int) == 0) = false ∧ e = m0 := by
            rcases he with ⟨h1, h2, h3⟩ | ⟨h1, h2⟩
            · exact .inl ⟨by simp [h1], by omega, h3⟩
            · by_cases h3 : at_ = 0
              · exact .inr (.inl ⟨by simp [h3], by omega, by rw [hm0]; exact h2⟩)
              · exact .inr (.inr ⟨by simp [h3], by rw [hm0]; exact h2⟩)
          have HP := As.mk hpow
          clear hxl hxs hxd hxlen hult hu hd hr hcase he hm0 hpow
          rcases hpre with ⟨q1, q2, rfl⟩ | ⟨q1, q2, rfl⟩ | ⟨q1, rfl⟩
          all_goals
            go_wp2_with (go_at_call 42; (refine (HU.out _).mono ?_); rintro e0 w3 ⟨v3, rfl, rfl, hb3⟩; replace ho := ho.below hb3; replace hb := bthen hb hb3)
            go_loopw [11, 54] (fun p i wq => ∃ (k P : Nat), k ≤ d ∧ i = .int .i64 (k : Int) ∧ p = .int .u32 (P : Int) ∧ P ≤ 1000000000 ∧ As (P = 10 ^ k) ∧ w3 = wq) (fun _ i _ => d - (intOf i).toNat)
            case atStart => exact ⟨0, 1, by omega, rfl, rfl, by omega, ⟨by simp⟩, rfl⟩
            case round =>
              obtain ⟨k, P, hk, rfl, rfl, hP9, hP, rfl⟩ := hrel
              by_cases hkd : k < d
              · have hP8 : P ≤ 100000000 := by rw [hP.out]; exact HP.out k (by omega)
                have hP' : As (P * 10 = 10 ^ (k + 1)) := ⟨by rw [hP.out, Nat.pow_succ]⟩
                have hP9' : P * 10 ≤ 1000000000 := by omega
                go_wp2
                go_roundw
                case rel => exact ⟨k + 1, P * 10, by omega, by go_num, by go_num, hP9', ⟨hP'.out⟩, trivial⟩
                case measure => simp [intOf]; omega
              · obtain rfl : k = d := by omega
                have HG := As.mk (grow_any l A l.length c w.heap.size P u w3 ho rfl hl.out (by omega) hu10 (by omega) hb.size)
                rw [hV.out, hP.out, HVn.out, ← hP.out] at HG
                go_wp2_with (go_at_call 43; (with_reducible refine HG.out.mono ?_); rintro e1 w4 ⟨v4, l4, rfl, ho4, hl4, hv4, hn4, hb4⟩; have Hl4 := As.mk hl4; have Hv4 := As.mk hv4; clear hl4 hv4)
                obtain ⟨A4, c4, rfl, h41, h42⟩ := ho4.form
                refine ⟨?_, by simp [intOf]; omega⟩
                exact ⟨_, c4, A4, l4, hes, by go_num, rfl, by omega, Hl4, Hv4, ho4, hb.trans (hb4.mono (Nat.le_refl _))⟩
        · obtain rfl : at_ = s.size := by omega
          have htt : t.take s.size = t := List.take_of_length_le (by rw [HSL.out]; exact Nat.le_refl _)
          have T1 := As.mk (trim_any l A c wr (ho.rd lenU) (by obtain ⟨A', c', e, h1, h2⟩ := ho.form; simp only [Value.slice.injEq] at e; obtain ⟨rfl, _, rfl⟩ := e; exact h1) (by omega))
          have HO := As.mk (Ow.takeU ho (trimL l).length (trimL_le l))
          rw [← trimL_take, trimL_dig 4294967296 (by omega) l hl.out, hV.out, htt] at HO
          rw [trimL_dig 4294967296 (by omega) l hl.out, hV.out, htt] at T1
          have Hne := As.mk (ne_empty s)
          clear htt hV hl
          go_wp2_with (go_at_call 44; (with_reducible refine T1.out.mono ?_); rintro e w3 ⟨rfl, rfl⟩)
          go_ret2
          exact ⟨_, rfl, ⟨_, by rw [← Hne.out]; rfl, HO.out⟩, hb⟩
end Go.Proofs.YtbdcjlikjpdhfaaDoor
