/- A part of the proof. -/
import Derived.StillTailTactics
import Derived.Lib.MapLaws
import Derived.Lib.OthersKept
import Derived.Laws.RangeAny
import Derived.Test.YtdapbegadhcpcaaGreatDoorMG
set_option linter.unusedVariables false
set_option linter.unusedSimpArgs false
namespace Go.Proofs.YtdapbegadhcpcaaGreatDoor
open Go.RowKit Go.Proofs.YtdapbegadhcpcaaGreatDoorL Go.Proofs.YtdapbegadhcpcaaGreatDoorM
theorem iterPos_of' {w : World} {k : Nat} {s : ByteArray} {pos : Nat} (h : w.heap[k]? = some (.stringIter s pos)) : w.iterPos k = pos := by simp [World.iterPos, h]
theorem indexByte_no (c : UInt8) : ∀ l : List UInt8, c ∉ l → Lib.indexByte l c = -1
 | [], _ => rfl
 | b :: l, h => by
   have h1 := indexByte_no c l (fun h2 => h (List.mem_cons_of_mem _ h2))
   have h2 : (b == c) = false := by simpa using fun e : b = c => h (by rw [e]; exact List.mem_cons_self ..)
   rw [Lib.indexByte, h2, h1]; rfl
theorem idx_no (s : ByteArray) (b : Nat) (h : ∀ x ∈ s.data.toList, x.toNat < 128) (hb : 128 ≤ b) (hb2 : b < 256) (w : World) : Calls Tryz.prog 20 #[.string s, .int .u8 (b : Int)] w fun e w' => e = .returned (.int .i64 (-1)) ∧ w' = w := by
 refine (Tryz.strings_IndexByte s b w).mono ?_
 rintro e w' ⟨rfl, rfl⟩
 refine ⟨?_, rfl⟩
 rw [indexByte_no _ _ (fun hc => by have := h _ hc; simp at this; omega)]
theorem decode_no (s : ByteArray) (pos : Nat) (h : pos < s.size) (hb : 128 ≤ (s[pos]'h).toNat) :
 128 ≤ (Utf8.decode s pos).1 ∧ (Utf8.decode s pos).1 ≤ 1114111 ∧ 1 ≤ (Utf8.decode s pos).2 ∧ pos + (Utf8.decode s pos).2 ≤ s.size ∧ ∀ j, pos ≤ j → j < pos + (Utf8.decode s pos).2 → 128 ≤ (s.get! j).toNat := by
 have hg : s.get! pos = s[pos]'h := by
  simp [ByteArray.get!, getElem!_pos, h]
  rfl
 rw [← hg] at hb
 rw [Lib.decode_at]
 rcases Lib.decodeN_shape (s.size - pos) (s.get! pos).toNat (s.get! (pos + 1)).toNat (s.get! (pos + 2)).toNat (s.get! (pos + 3)).toNat with ⟨c, e⟩ | ⟨c1, c2, c3, cv, e⟩ | ⟨c1, c2, c3, c4, cv, cs, e⟩ | ⟨c1, c2, c3, c4, c5, cv, cw, e⟩ | e
 · omega
 · rw [e]
   refine ⟨by simp only; omega, by simp only; omega, by simp only; omega, by simp only; omega, fun j h1 h2 => ?_⟩
   simp only at h2
   rcases (show j = pos ∨ j = pos + 1 by omega) with rfl | rfl <;> omega
 · rw [e]
   refine ⟨by simp only; omega, by simp only; omega, by simp only; omega, by simp only; omega, fun j h1 h2 => ?_⟩
   simp only at h2
   rcases (show j = pos ∨ j = pos + 1 ∨ j = pos + 2 by omega) with rfl | rfl | rfl <;> omega
 · rw [e]
   refine ⟨by simp only; omega, by simp only; omega, by simp only; omega, by simp only; omega, fun j h1 h2 => ?_⟩
   simp only at h2
   rcases (show j = pos ∨ j = pos + 1 ∨ j = pos + 2 ∨ j = pos + 3 by omega) with rfl | rfl | rfl | rfl <;> omega
 · rw [e]
   refine ⟨by simp only; omega, by simp only; omega, by simp only; omega, by simp only; omega, fun j h1 h2 => ?_⟩
   simp only at h2
   rcases (show j = pos by omega) with rfl
   exact hb
def dlS : ByteArray := ⟨#[32, 10, 9, 13, 40, 41, 34, 59, 39]⟩
theorem dlS_lt (x : UInt8) (h : x ∈ dlS.data.toList) : x.toNat < 128 := by
 have : ∀ y ∈ ([32, 10, 9, 13, 40, 41, 34, 59, 39] : List UInt8), y.toNat < 128 := by decide
 exact this x h
theorem dlS_ext (a b : Nat) (x : UInt8) (h : x ∈ (dlS.extract a b).data.toList) : x.toNat < 128 := by
 rw [ByteArray.data_extract, Array.toList_extract, List.extract_eq_take_drop] at h
 exact dlS_lt x (List.mem_of_mem_drop (List.mem_of_mem_take h))
theorem dlS_get (k : Nat) (h : k < dlS.size) : (dlS[k]'h).toNat < 128 := dlS_lt _ (by rw [ByteArray.getElem_eq_getElem_data]; simp)
theorem dlS_size : dlS.size = 9 := rfl
set_option maxRecDepth 16000 in
set_option maxHeartbeats 4000000 in
theorem indexRune_no (r : Int) (h1 : 128 ≤ r) (h2 : r ≤ 1114111) (w : World) :
 Calls Tryz.prog 63 #[.string dlS, .int .i32 r] w (Gives w fun v _ => v = .int .i64 (-1)) := by
 have HX := As.mk dlS_ext
 have HG := As.mk dlS_get
 have hsz : (dlS.size : Int) = 9 := by rw [dlS_size]; rfl
 obtain ⟨D, hD⟩ : ∃ D, D = dlS := ⟨_, rfl⟩
 rw [← hD] at HX HG hsz ⊢
 have hsn : D.size = 9 := by omega
 clear hD
 have z0 : (0 : Int) ≤ r := by omega
 have z1 : ¬ r < 128 := by omega
 by_cases hr : r = 65533
 · subst hr
   go_enter Tryz.func63, Tryz.ntmps63
   go_wp2
   go_loopw [] (fun wr => ∃ pos : Nat, pos ≤ 9 ∧ As (wr.heap[w.heap.size]? = some (.stringIter D pos)) ∧ Below w.heap.size w wr) (fun wr => 9 - wr.iterPos w.heap.size)
   case atStart => exact ⟨0, by omega, ⟨World.iter_heap w D 0⟩, (Below.refl _ _).alloc (Nat.le_refl _) _⟩
   case round =>
    obtain ⟨pos, hpos, hit, hb⟩ := hrel
    have hpos0 := As.mk (iterPos_of' hit.out)
    by_cases hp : pos < 9
    · have hx := HG.out pos (by omega)
      have hnx := fun ty => Lib.run_next_ascii_at (P := Tryz.prog) wr w.heap.size D pos ty hit.out (by omega) hx
      obtain ⟨x, hxe⟩ : ∃ x, x = (D[pos]'(by omega)).toNat := ⟨_, rfl⟩
      rw [← hxe] at hx hnx
      have hit2 := As.mk (Lib.iterAt_heap wr w.heap.size D pos (pos + 1) hit.out)
      have hb2 := Lib.below_iterAt hb (Nat.le_refl _) D (pos + 1)
      obtain ⟨W1, hW1⟩ : ∃ W1, W1 = wr.iterAt w.heap.size D (pos + 1) := ⟨_, rfl⟩
      rw [← hW1] at hnx hit2 hb2
      have hx1 : ((x : Int) == 65533) = false := by simp; omega
      clear hW1 hxe hit
      go_wp2
      go_roundw
      case rel => exact ⟨pos + 1, by omega, hit2, hb2⟩
      case measure => rw [iterPos_of' hit2.out, hpos0.out]; omega
    · have hnx := fun ty => Lib.run_next_end_at (P := Tryz.prog) wr w.heap.size D pos ty hit.out (by omega)
      go_wp2
      go_ret
      exact ⟨_, rfl, rfl, hb⟩
 · have z2 : (r == 65533) = false := by simpa using hr
   cases hv : Lib.validRune r with
   | false =>
     have HV := As.mk hv
     clear hv
     go_enter Tryz.func63, Tryz.ntmps63
     go_wp2_with (go_at_call 76; (with_reducible refine (Tryz.utf8_ValidRune _ _).mono ?_); rintro e wn ⟨rfl, rfl⟩; rw [HV.out])
     go_ret
     exact ⟨_, rfl, rfl, Below.refl _ _⟩
   | true =>
     have HV := As.mk hv
     obtain ⟨f1, f2, f3⟩ := encode_facts r (by rw [Lib.validRune, decide_eq_true_iff] at hv; simp [Utf8.valid]; omega) h1
     obtain ⟨E, hE⟩ : ∃ E, E = Utf8.encode r := ⟨_, rfl⟩
     rw [← hE] at f1 f2 f3
     have f4 := f3 (by omega)
     obtain ⟨e, he⟩ : ∃ e, e = E.size - 1 := ⟨_, rfl⟩
     have hel : e < E.size := by omega
     have hed : e < D.size := by omega
     have f5 : 128 ≤ (E[e]'hel).toNat := by simp only [he]; exact f4
     have g1 := HG.out e hed
     have hb256 := (E[e]'hel).toNat_lt
     have hes : (E.size : Int) - 1 = (e : Int) := by omega
     obtain ⟨b, hb⟩ : ∃ b, b = (E[e]'hel).toNat := ⟨_, rfl⟩
     obtain ⟨x, hx⟩ : ∃ x, x = (D[e]'hed).toNat := ⟨_, rfl⟩
     rw [← hb] at f5 hb256
     rw [← hx] at g1
     have hcb : ((E[e]'hel).toNat : Int) = (b : Int) := by rw [hb]
     have hcx : ((D[e]'hed).toNat : Int) = (x : Int) := by rw [hx]
     have z3 : ((x : Int) != (b : Int)) = true := by simp; omega
     have HN := As.mk (fun (a c : Nat) (W : World) => idx_no (D.extract a c) b (HX.out a c) f5 hb256 W)
     have q1 : (e : Int) < 9 := by omega
     have q2 : (e : Int) < (E.size : Int) := by omega
     obtain ⟨f, hf⟩ : ∃ f, f = e + 1 := ⟨_, rfl⟩
     have hef : (e : Int) + 1 = (f : Int) := by omega
     have q3 : (f : Int) ≤ 9 := by omega
     have ef : IntKind.i64.wrap (f : Int) = (f : Int) := IntWalk.i64_in _ (by omega)
     have hcv := hE.symm
     clear hv f3 f4 hE he hb hx hf
     go_enter Tryz.func63, Tryz.ntmps63
     go_wp2_with (go_at_call 76; (with_reducible refine (Tryz.utf8_ValidRune _ _).mono ?_); rintro e wn ⟨rfl, rfl⟩; rw [HV.out])
     go_step3
     go_wp2
     go_loopw [9] (fun v wr => v = .int .i64 (e : Int) ∧ wn = wr) (fun _ _ => 0)
     case atStart => exact ⟨rfl, rfl⟩
     case round =>
      obtain ⟨rfl, rfl⟩ := hrel
      have Z3 := As.mk z3
      clear z3
      go_wp2
      go_step3
      go_wp2
      go_quiet (fail)
      have z3 := Z3.out
      go_wp2
      go_still_tail 7, (by kernel_rfl)
      change wpList _ _ _ _ _ (World.drew _)
      have hb := (Below.refl wn.heap.size (wn.drewN nq)).drew
      go_wp2_with (go_at_call 20; (with_reducible refine (HN.out _ _ _).mono ?_); rintro e0 w9 ⟨rfl, rfl⟩)
      rw [Exit.noGoto_ret]
      go_wp2
      rw [Exit.noGoto_ret]
      go_ret
      exact ⟨_, rfl, rfl, dr (Below.refl _ _) _⟩
theorem dlS_list : dlS.data.toList = dls := rfl
theorem dls_idx (c : UInt8) : (isDl c = true ∧ ∃ k : Nat, Lib.indexByte dls c = (k : Int)) ∨ (isDl c = false ∧ Lib.indexByte dls c = -1) := by
 rw [← dls_is, Lib.contains_iff_indexByte]
 have := Lib.indexByte_ge dls c
 by_cases h : 0 ≤ Lib.indexByte dls c
 · exact .inl ⟨by simpa using h, (Lib.indexByte dls c).toNat, by omega⟩
 · exact .inr ⟨by simpa using h, by omega⟩
theorem noAny_more {s : ByteArray} {pos k : Nat} (h : Lib.NoAny s.data.toList dls pos) (h2 : ∀ j, pos ≤ j → j < pos + k → 128 ≤ (s.get! j).toNat) : Lib.NoAny s.data.toList dls (pos + k) := fun j b hj hb => by
 rcases Nat.lt_or_ge j pos with h1 | h1
 · exact h j b h1 hb
 · have h3 := h2 j h1 hj
   have h4 : s.get! j = b := by
    obtain ⟨hl, rfl⟩ := List.getElem?_eq_some_iff.1 hb
    rw [size_list] at hl
    have : s.get! j = s[j]'hl := by
     simp [ByteArray.get!, getElem!_pos, hl]
     rfl
    rw [this, ByteArray.getElem_eq_getElem_data]; simp
   rw [h4] at h3
   rw [dls_is]
   have := byte_all (p := fun c => decide (c.toNat < 128) || isDl c == false) (by decide +kernel) b
   simp only [Bool.or_eq_true, decide_eq_true_eq, beq_iff_eq] at this
   rcases this with h5 | h5
   · omega
   · exact h5
set_option maxRecDepth 16000 in
set_option maxHeartbeats 4000000 in
theorem indexAny_any (s : ByteArray) (w : World) (hs : s.size ≤ 65536) :
 Calls Tryz.prog 58 #[.string s, .string dlS] w (Gives w fun v _ => v = .int .i64 (Lib.indexAny s.data.toList dls)) := by
 by_cases h8 : 8 < s.size
 · refine (Tryz.strings_IndexAny_long (zero_of_info (n := 256) (by kernel_rfl)).1 s dlS w (by decide) h8 (by omega) (by decide) (fun j b h => dlS_lt b (List.mem_of_getElem? h))).mono ?_
   rintro e w' ⟨rfl, rfl⟩
   exact ⟨_, rfl, by rw [dlS_list], bthen ((Below.refl _ _).alloc (Nat.le_refl _) _) ((Below.refl _ _).alloc (Nat.le_refl _) _)⟩
 · have hemp : dlS.toList.isEmpty = false := by rw [Lib.toList_data]; rfl
   have HA := As.mk (fun (r : Int) (h0 : 0 ≤ r) (h1 : r < 128) (W : World) => Tryz.strings_IndexRune_ascii dlS r W h0 h1)
   rw [dlS_list] at HA
   have HR := As.mk indexRune_no
   have hsz : (dlS.size : Int) = 9 := by rw [dlS_size]; rfl
   obtain ⟨D, hD⟩ : ∃ D, D = dlS := ⟨_, rfl⟩
   rw [← hD] at hemp HA HR hsz ⊢
   have d8 : decide ((8 : Int) < (s.size : Int)) = false := decide_eq_false (by omega)
   have hsl := size_list s
   have Hsl := As.mk hsl
   clear hD hsl
   go_enter Tryz.func58, Tryz.ntmps58
   go_wp2_with (go_at_call 64; (with_reducible refine (Tryz.strings_shouldUseASCIISet _ _).mono ?_); rintro e wn ⟨rfl, rfl⟩)
   go_loopw [] (fun wr => ∃ pos : Nat, pos ≤ s.size ∧ As (wr.heap[wn.heap.size]? = some (.stringIter s pos)) ∧ As (Lib.NoAny s.data.toList dls pos) ∧ Below wn.heap.size wn wr) (fun wr => s.size - wr.iterPos wn.heap.size)
   case atStart => exact ⟨0, by omega, ⟨World.iter_heap wn s 0⟩, ⟨Lib.NoAny.zero _ _⟩, (Below.refl _ _).alloc (Nat.le_refl _) _⟩
   case round =>
    obtain ⟨pos, hpos, hit, hna, hb⟩ := hrel
    have hpos0 := As.mk (iterPos_of' hit.out)
    by_cases hp : pos < s.size
    · obtain ⟨c, hc⟩ : ∃ c, s[pos]'hp = c := ⟨_, rfl⟩
      have hcl : s.data.toList[pos]? = some c := by rw [← hc]; exact Lib.data_getElem? s pos hp
      have Hcl := As.mk hcl
      clear hcl
      by_cases h128 : c.toNat < 128
      · have hnx := fun ty => Lib.run_next_ascii_at (P := Tryz.prog) wr wn.heap.size s pos ty hit.out hp (by rw [hc]; exact h128)
        rw [hc] at hnx
        have hit2 := As.mk (Lib.iterAt_heap wr wn.heap.size s pos (pos + 1) hit.out)
        have hb2 := Lib.below_iterAt hb (Nat.le_refl _) s (pos + 1)
        obtain ⟨W1, hW1⟩ : ∃ W1, W1 = wr.iterAt wn.heap.size s (pos + 1) := ⟨_, rfl⟩
        rw [← hW1] at hnx hit2 hb2
        have hback : ((c.toNat : Int)).toNat.toUInt8 = c := by simp
        obtain ⟨K, hK⟩ : ∃ K, K = Lib.indexByte dls c := ⟨_, rfl⟩
        have HC := As.mk (fun W => HA.out (c.toNat : Int) (by omega) (by omega) W)
        rw [hback, ← hK] at HC
        clear hW1 hit hc HA HR hback
        rcases dls_idx c with ⟨h1, k, h2⟩ | ⟨h1, h2⟩
        · have hKk : (0 : Int) ≤ K := by rw [hK, h2]; omega
          have Hr := As.mk (Lib.indexAny_hit hna.out Hcl.out (by rw [dls_is, h1]))
          clear hK h1 h2
          go_wp2_with (go_at_call 63; (with_reducible refine (HC.out _).mono ?_); rintro e wm ⟨rfl, rfl⟩)
          go_ret
          exact ⟨_, rfl, by rw [Hr.out]; rfl, hb2⟩
        · have hKk : ¬ (0 : Int) ≤ K := by rw [hK, h2]; decide
          have Hna := As.mk (Lib.NoAny.succ hna.out Hcl.out (by rw [dls_is, h1]))
          clear hK h1 h2
          go_wp2_with (go_at_call 63; (with_reducible refine (HC.out _).mono ?_); rintro e wm ⟨rfl, rfl⟩)
          go_roundw
          case rel => exact ⟨pos + 1, by omega, hit2, Hna, hb2⟩
          case measure => rw [iterPos_of' hit2.out, hpos0.out]; omega
      · have hnx := fun ty => Lib.run_next_any_at (P := Tryz.prog) wr wn.heap.size s pos ty hit.out hp
        obtain ⟨r1, r2, r3, r4, r5⟩ := decode_no s pos hp (by rw [hc]; omega)
        have Hna := As.mk (noAny_more hna.out r5)
        have hit2 := As.mk (Lib.iterAt_heap wr wn.heap.size s pos (pos + (Utf8.decode s pos).2) hit.out)
        have hb2 := Lib.below_iterAt hb (Nat.le_refl _) s (pos + (Utf8.decode s pos).2)
        obtain ⟨W1, hW1⟩ : ∃ W1, W1 = wr.iterAt wn.heap.size s (pos + (Utf8.decode s pos).2) := ⟨_, rfl⟩
        rw [← hW1] at hnx hit2 hb2
        obtain ⟨r, hr⟩ : ∃ r, r = (Utf8.decode s pos).1 := ⟨_, rfl⟩
        obtain ⟨k, hk⟩ : ∃ k, k = (Utf8.decode s pos).2 := ⟨_, rfl⟩
        rw [← hr] at r1 r2 hnx
        rw [← hk] at r3 r4 hit2 Hna
        have HC := As.mk (fun W => HR.out (r : Int) (by omega) (by omega) W)
        have hlt : wn.heap.size < W1.heap.size := (Array.getElem?_eq_some_iff.1 hit2.out).1
        clear hW1 hit hc HA HR hr hk r5
        go_wp2_with (go_at_call 63; (with_reducible refine (HC.out _).mono ?_); rintro e wm ⟨vm, rfl, rfl, hbm⟩; have hit3 := As.mk ((hbm.block _ hlt).trans hit2.out); replace hb2 := hb2.trans (hbm.mono hb2.size))
        go_roundw
        case rel => exact ⟨pos + k, by omega, hit3, Hna, hb2⟩
        case measure => rw [iterPos_of' hit3.out, hpos0.out]; omega
    · have hnx := fun ty => Lib.run_next_end_at (P := Tryz.prog) wr wn.heap.size s pos ty hit.out hp
      have Hr : As (Lib.indexAny s.data.toList dls = -1) := ⟨Lib.indexAny_none (by rw [Hsl.out, show s.size = pos by omega]; exact hna.out)⟩
      go_wp2
      go_ret
      exact ⟨_, rfl, by rw [Hr.out]; rfl, hb⟩
theorem hp_b (U : ByteArray) (l : List UInt8) (b : Bool) (h : l.isPrefixOf U.data.toList = b) (w : World) : Calls Tryz.prog 39 #[.string U, .string ⟨l.toArray⟩] w fun e w' => e = .returned (.bool b) ∧ w' = w := by
 refine (Tryz.strings_HasPrefix U ⟨l.toArray⟩ w).mono ?_
 rintro e w' ⟨rfl, rfl⟩
 exact ⟨by rw [← h]; rfl, rfl⟩
theorem indexAny_lit (s : ByteArray) (K : Int) (h : Lib.indexAny s.data.toList dls = K) (w : World) (hs : s.size ≤ 65536) :
 Calls Tryz.prog 58 #[.string s, .string ⟨#[32, 10, 9, 13, 40, 41, 34, 59, 39]⟩] w (Gives w fun v _ => v = .int .i64 K) := h ▸ indexAny_any s w hs
def tokBeg (s : List UInt8) (i : Nat) : Nat := if pre s i [35, 92] = true then min 3 (s.length - i) else 0
theorem tokStop_any (s : List UInt8) (i : Nat) (hi : i ≤ s.length) :
 (Lib.indexAny (s.drop (i + tokBeg s i)) dls = -1 ∧ tokStop s i = s.length) ∨ ∃ k : Nat, Lib.indexAny (s.drop (i + tokBeg s i)) dls = (k : Int) ∧ tokStop s i = i + tokBeg s i + k ∧ i + tokBeg s i + k < s.length := by
 unfold tokStop tokBeg
 have hp : (s[i]? = some 35 ∧ s[i + 1]? = some 92) ↔ pre s i [35, 92] = true := by
  cases h : s[i]? with
  | none => rw [pre_end (List.getElem?_eq_none_iff.1 h)]; simp
  | some c =>
    rw [pre2 h]
    simp only [Option.some.injEq, Bool.and_eq_true, beq_iff_eq]
    exact ⟨fun h => ⟨h.1.symm, h.2⟩, fun h => ⟨h.1.symm, h.2⟩⟩
 by_cases h : pre s i [35, 92] = true
 · rw [if_pos h, if_pos (hp.2 h)]
   have hl := (List.getElem?_eq_some_iff.1 (hp.2 h).2).1
   by_cases h2 : i + 2 < s.length
   · rw [if_pos h2, Nat.min_eq_left (by omega)]
     exact tokEnd_any s _ (i + 3) (Nat.lt_succ_self _) (by omega)
   · rw [if_neg h2, List.drop_eq_nil_of_le (by omega)]
     exact .inl ⟨rfl, rfl⟩
 · rw [if_neg h, if_neg (fun h2 => h (hp.1 h2))]
   exact tokEnd_any s _ i (Nat.lt_succ_self _) hi
theorem ext_list (U : ByteArray) (a b : Nat) : (U.extract a b).data.toList = (U.data.toList.take b).drop a := by
 rw [ByteArray.data_extract, Array.toList_extract, List.extract_eq_take_drop, List.drop_take]
set_option maxRecDepth 8000 in
set_option maxHeartbeats 1000000 in
theorem token1_any {w : World} {g i : Nat} {p c : Int} {T : ByteArray} (R : RB w g T i p c) (hi : i ≤ T.size) (hT : T.size ≤ 65536) :
 Calls Tryz.prog 43 #[.pointer (some ⟨g, 0, none⟩)] w (Gives w fun v _ => ∃ u : ByteArray, v = .string u ∧ u.data.toList = cut T.data.toList i (tokStop T.data.toList i)) := by
 have C := R.out.cells
 have hii : (i : Int) ≤ (T.size : Int) := by omega
 have hsl := size_list T
 have HF : As ((T.extract i T.size).data.toList = T.data.toList.drop i ∧ (T.extract i T.size).size = T.size - i) := ⟨extract_drop T i hi, by rw [ByteArray.size_extract]; omega⟩
 have HS := As.mk (tokStop_any T.data.toList i (by omega))
 have Hsl := As.mk hsl
 clear hsl
 go_enter Tryz.func43, Tryz.ntmps43
 go_wp2
 go_quiet (fail)
 generalize T.extract i T.size = U at HF ⊢
 have hbw := dr (Below.refl w.heap.size w) nq
 generalize w.drewN nq = w2 at hbw ⊢
 obtain ⟨b, hb⟩ : ∃ b, b = pre T.data.toList i [35, 92] := ⟨_, rfl⟩
 obtain ⟨m, hm⟩ : ∃ m, m = tokBeg T.data.toList i := ⟨_, rfl⟩
 have Hp : As (([35, 92] : List UInt8).isPrefixOf U.data.toList = b) := ⟨by rw [HF.out.1, hb]; rfl⟩
 have hmU : m ≤ U.size := by
  rw [hm, tokBeg, HF.out.2, Hsl.out]
  split <;> omega
 have Hm : As (m = if b = true then min 3 U.size else 0) := ⟨by rw [hm, tokBeg, HF.out.2, Hsl.out, hb]⟩
 have HD : As ((U.extract m U.size).data.toList = T.data.toList.drop (i + m)) := ⟨by
  rw [ext_list, List.take_of_length_le (by rw [size_list]; exact Nat.le_refl _), HF.out.1, List.drop_drop]⟩
 have hUs : U.size ≤ 65536 := by have := HF.out.2; omega
 have hxs : (U.extract m U.size).size ≤ 65536 := by rw [ByteArray.size_extract]; omega
 rw [← hm] at HS
 have Hxs := As.mk hxs
 have hmI : (m : Int) ≤ (U.size : Int) := by omega
 clear hxs hm
 rcases HS.out with ⟨k1, k2⟩ | ⟨k, k1, k2, k3⟩
 · have HI := As.mk (fun W => indexAny_lit (U.extract m U.size) (-1) (by rw [HD.out, k1]) W Hxs.out)
   have HI0 := As.mk (fun (h0 : m = 0) W => indexAny_lit U (-1) (by rw [HF.out.1, ← k1, h0, Nat.add_zero]) W hUs)
   have Hres : As (U.data.toList = cut T.data.toList i (tokStop T.data.toList i)) := ⟨by
    rw [k2, HF.out.1, cut, List.take_of_length_le (by rw [List.length_drop]; exact Nat.le_refl _)]⟩
   clear k1 k2 HS
   cases b with
   | true =>
     have em : min (3 : Int) (U.size : Int) = (m : Int) := by rw [Hm.out, if_pos rfl]; omega
     clear hb
     go_wp2_with (first
      | (go_at_call 39; (with_reducible refine (hp_b U [35, 92] true Hp.out _).mono ?_); rintro e wn ⟨rfl, rfl⟩)
      | (go_at_call 58; (with_reducible refine (HI.out _).mono ?_); rintro e wm ⟨vm, rfl, rfl, hbm⟩; replace hbw := bthen hbw hbm))
     go_ret
     exact ⟨_, rfl, ⟨U, rfl, Hres.out⟩, hbw⟩
   | false =>
     obtain rfl : m = 0 := by rw [Hm.out]; rfl
     have HI1 := As.mk (HI0.out rfl)
     clear hb
     go_wp2_with (first
      | (go_at_call 39; (with_reducible refine (hp_b U [35, 92] false Hp.out _).mono ?_); rintro e wn ⟨rfl, rfl⟩)
      | (go_at_call 58; (with_reducible refine (HI1.out _).mono ?_); rintro e wm ⟨vm, rfl, rfl, hbm⟩; replace hbw := bthen hbw hbm))
     go_ret
     exact ⟨_, rfl, ⟨U, rfl, Hres.out⟩, hbw⟩
 · have HI := As.mk (fun W => indexAny_lit (U.extract m U.size) (k : Int) (by rw [HD.out, k1]) W Hxs.out)
   have HI0 := As.mk (fun (h0 : m = 0) W => indexAny_lit U (k : Int) (by rw [HF.out.1, ← k1, h0, Nat.add_zero]) W hUs)
   have hkU : m + k ≤ U.size := by have := HF.out.2; have := Hsl.out; omega
   obtain ⟨f, hf⟩ : ∃ f, f = m + k := ⟨_, rfl⟩
   have Hres : As ((U.extract 0 f).data.toList = cut T.data.toList i (tokStop T.data.toList i)) := ⟨by
    rw [k2, ext_list, HF.out.1, cut, List.drop_zero, hf]
    congr 1
    omega⟩
   have e1 : (m : Int) + (k : Int) = (f : Int) := by omega
   have e2 : (f : Int) ≤ (U.size : Int) := by omega
   have e3 : IntKind.i64.wrap (f : Int) = (f : Int) := IntWalk.i64_in _ (by omega)
   clear k1 k2 k3 HS hkU
   cases b with
   | true =>
     have em : min (3 : Int) (U.size : Int) = (m : Int) := by rw [Hm.out, if_pos rfl]; omega
     clear hb hf
     go_wp2_with (first
      | (go_at_call 39; (with_reducible refine (hp_b U [35, 92] true Hp.out _).mono ?_); rintro e wn ⟨rfl, rfl⟩)
      | (go_at_call 58; (with_reducible refine (HI.out _).mono ?_); rintro e wm ⟨vm, rfl, rfl, hbm⟩; replace hbw := bthen hbw hbm))
     go_ret
     exact ⟨_, rfl, ⟨_, rfl, Hres.out⟩, hbw⟩
   | false =>
     obtain rfl : m = 0 := by rw [Hm.out]; rfl
     have HI1 := As.mk (HI0.out rfl)
     obtain rfl : f = k := by omega
     clear hb hf e1
     go_wp2_with (first
      | (go_at_call 39; (with_reducible refine (hp_b U [35, 92] false Hp.out _).mono ?_); rintro e wn ⟨rfl, rfl⟩)
      | (go_at_call 58; (with_reducible refine (HI1.out _).mono ?_); rintro e wm ⟨vm, rfl, rfl, hbm⟩; replace hbw := bthen hbw hbm))
     go_ret
     exact ⟨_, rfl, ⟨_, rfl, Hres.out⟩, hbw⟩
theorem beqD (l m : List UInt8) : (l == m) = decide (l = m) := by by_cases h : l = m <;> simp [h]
theorem dotAt_iff {s : List UInt8} {i : Nat} (hi : i ≤ s.length) : dotAt s i = (pre s i [46] && decide (cut s i (tokStop s i) = [46])) := by
 cases h : s[i]? with
 | none =>
   rw [pre_end (List.getElem?_eq_none_iff.1 h), dotAt, h]; rfl
 | some c =>
   rw [pre1 h, dotAt, h]
   by_cases hc : c = 46
   · subst hc
     have hl := (List.getElem?_eq_some_iff.1 h).1
     have hn : ¬ (s[i]? = some 35 ∧ s[i + 1]? = some 92) := fun h2 => by rw [h] at h2; exact absurd h2.1 (by decide)
     rw [tokStop, if_neg hn, tokEnd_on h (by decide)]
     cases h3 : s[i + 1]? with
     | none =>
       have h4 : s.length ≤ i + 1 := List.getElem?_eq_none_iff.1 h3
       rw [tokEnd_len h4, cut, drop_at h, show i + 1 - i = 1 by omega]
       simp
     | some d =>
       have h4 := (List.getElem?_eq_some_iff.1 h3).1
       cases hd : isDl d with
       | true =>
         rw [tokEnd_at h3 hd, cut, drop_at h, show i + 1 - i = 1 by omega]
         simp [hd]
       | false =>
         rw [tokEnd_on h3 hd]
         have h5 := tokEnd_ge s (i + 1 + 1)
         have h6 : cut s i (tokEnd s (i + 1 + 1)) ≠ [46] := fun e => by
          have h7 := congrArg List.length e
          have h8 := tokEnd_le s _ (i + 1 + 1) (Nat.lt_succ_self _) (by omega)
          rw [cut, List.length_take, List.length_drop] at h7
          simp at h7
          omega
         simp [hd, h6]
   · have h1 : ((46 : UInt8) == c) = false := by simpa using fun e => hc e.symm
     have h2 : (some c == some (46 : UInt8)) = false := by simpa using hc
     rw [h1, h2]; rfl
set_option maxRecDepth 8000 in
theorem dot_any {w : World} {g i : Nat} {p c : Int} {T : ByteArray} (R : RB w g T i p c) (hi : i ≤ T.size) (hT : T.size ≤ 65536) (b : Bool) (hb : dotAt T.data.toList i = b) :
 Calls Tryz.prog 40 #[.pointer (some ⟨g, 0, none⟩)] w (Gives w fun v _ => v = .bool b) := by
 have C := R.out.cells
 have hu := Upg.refl g w
 have hbw := Below.refl w.heap.size w
 rw [dotAt_iff (by rw [size_list]; exact hi)] at hb
 cases f1 : pre T.data.toList i [46] with
 | false =>
   rw [f1, Bool.false_and] at hb
   subst hb
   go_enter Tryz.func40, Tryz.ntmps40
   go_wp2_with (go_at_call 21; (with_reducible refine (sees_b R hi [46] false f1).mono ?_); rintro e wn ⟨vn, rfl, rfl, hbn⟩; replace R := R.below hbn; clear C; have C := R.out.cells; replace hbw := bthen hbw hbn)
   go_ret
   exact ⟨_, rfl, rfl, hbw⟩
 | true =>
   rw [f1, Bool.true_and] at hb
   have Hb := As.mk hb
   clear hb
   go_enter Tryz.func40, Tryz.ntmps40
   go_wp2_with (first
    | (go_at_call 21; (with_reducible refine (sees_b R hi [46] true f1).mono ?_); rintro e wn ⟨vn, rfl, rfl, hbn⟩; replace R := R.below hbn; clear C; have C := R.out.cells; replace hbw := bthen hbw hbn)
    | (go_at_call 43; (with_reducible refine (token1_any R hi hT).mono ?_); rintro e wn ⟨vn, rfl, ⟨u, rfl, hul⟩, hbn⟩; replace R := R.below hbn; clear C; have C := R.out.cells; replace hbw := bthen hbw hbn; have Hul := As.mk hul; clear hul))
   go_ret
   exact ⟨_, rfl, by rw [← Hb.out, ← Hul.out, ← Lib.toList_data, ← beqD]; rfl, hbw⟩
end Go.Proofs.YtdapbegadhcpcaaGreatDoor
