/- A part of the proof. -/
import Derived.Test.YtdapbegadhcpcaaGreatDoorMI
set_option linter.unusedVariables false
set_option linter.unusedSimpArgs false
namespace Go.Proofs.YtdapbegadhcpcaaGreatDoor
open Go.RowKit Go.Proofs.YtdapbegadhcpcaaGreatDoorL Go.Proofs.YtdapbegadhcpcaaGreatDoorM
theorem ne_empty5 (s : ByteArray) : (!s.toList.isEmpty) = decide (0 < s.size) := by
 rw [Lib.toList_data, ← size_list]
 cases s.data.toList <;> simp
def chrV (u : List UInt8) : Int := match charF u with | some n => (n : Int) | none => 0
def chrOk (u : List UInt8) : Bool := (charF u).isSome
theorem chr_some {u : List UInt8} {n : Nat} (h : charF u = some n) : chrV u = (n : Int) ∧ chrOk u = true := by unfold chrV chrOk; rw [h]; exact ⟨rfl, rfl⟩
theorem chr_none {u : List UInt8} (h : charF u = none) : chrV u = 0 ∧ chrOk u = false := by unfold chrV chrOk; rw [h]; exact ⟨rfl, rfl⟩
def hexF (v : Nat) : List UInt8 → Option Nat
 | [] => some v
 | c :: r => match hexD c with | none => none | some a => hexF (16 * v + a) r
theorem charF_long {u : List UInt8} (h1 : u ≠ [115, 112, 97, 99, 101]) (h2 : u ≠ [110, 101, 119, 108, 105, 110, 101]) (h3 : u ≠ [116, 97, 98]) (h4 : u ≠ [110, 117, 108]) (h5 : u.length ≠ 1) :
 charF u = (if (u.length = 2 ∨ u.length = 3) ∧ u[0]? = some 120 then hexF 0 (u.drop 1) else none) := by
 unfold charF
 rw [if_neg h1, if_neg h2, if_neg h3, if_neg h4]
 match u with
 | [] => simp
 | [c] => simp at h5
 | [x, a] =>
   by_cases hx : x = 120
   · cases h : hexD a <;> simp [hx, hexF, h]
   · simp [hx]
 | [x, a, b] =>
   by_cases hx : x = 120
   · cases h : hexD a <;> cases h' : hexD b <;> simp [hx, hexF, h, h']
   · simp [hx]
 | x :: a :: b :: d :: r => simp
theorem or16F : ∀ v d : Fin 16, bits BinOp.or IntKind.i64 ((v.val : Int) * 16) (d.val : Int) = ((16 * v.val + d.val : Nat) : Int) := by decide +kernel
theorem or16 (v d : Nat) (hv : v < 16) (hd : d < 16) : bits BinOp.or IntKind.i64 ((v : Int) * 16) (d : Int) = ((16 * v + d : Nat) : Int) := or16F ⟨v, hv⟩ ⟨d, hd⟩
set_option maxRecDepth 8000 in
set_option maxHeartbeats 2000000 in
theorem char_any5 (s : ByteArray) (w : World) (hs : s.size ≤ 65536) :
 Calls Tryz.prog 44 #[.string s] w (Gives w fun v _ => v = .tuple #[.int .i64 (chrV s.data.toList), .bool (chrOk s.data.toList)]) := by
 obtain ⟨u, hu⟩ : ∃ u, u = s.data.toList := ⟨_, rfl⟩
 have hsl := size_list s
 rw [← hu] at hsl ⊢
 have htl : ∀ l, (s.toList == l) = decide (u = l) := fun l => by rw [Lib.toList_data, ← hu, beqD]
 by_cases h1 : u = [115, 112, 97, 99, 101]
 · have e1 := htl [115, 112, 97, 99, 101]
   rw [decide_eq_true h1] at e1
   have Hc := As.mk (chr_some (show charF u = some 32 by rw [h1]; rfl))
   clear htl h1 hu hsl
   go_enter Tryz.func44, Tryz.ntmps44
   go_wp2
   go_ret2
   exact ⟨_, rfl, by rw [Hc.out.1, Hc.out.2]; rfl, Below.refl _ _⟩
 have e1 := htl [115, 112, 97, 99, 101]
 rw [decide_eq_false h1] at e1
 by_cases h2 : u = [110, 101, 119, 108, 105, 110, 101]
 · have e2 := htl [110, 101, 119, 108, 105, 110, 101]
   rw [decide_eq_true h2] at e2
   have Hc := As.mk (chr_some (show charF u = some 10 by rw [h2]; rfl))
   clear htl h2 hu hsl h1
   go_enter Tryz.func44, Tryz.ntmps44
   go_wp2
   go_ret2
   exact ⟨_, rfl, by rw [Hc.out.1, Hc.out.2]; rfl, Below.refl _ _⟩
 have e2 := htl [110, 101, 119, 108, 105, 110, 101]
 rw [decide_eq_false h2] at e2
 by_cases h3 : u = [116, 97, 98]
 · have e3 := htl [116, 97, 98]
   rw [decide_eq_true h3] at e3
   have Hc := As.mk (chr_some (show charF u = some 9 by rw [h3]; rfl))
   clear htl h3 hu hsl h1 h2
   go_enter Tryz.func44, Tryz.ntmps44
   go_wp2
   go_ret2
   exact ⟨_, rfl, by rw [Hc.out.1, Hc.out.2]; rfl, Below.refl _ _⟩
 have e3 := htl [116, 97, 98]
 rw [decide_eq_false h3] at e3
 by_cases h4 : u = [110, 117, 108]
 · have e4 := htl [110, 117, 108]
   rw [decide_eq_true h4] at e4
   have Hc := As.mk (chr_some (show charF u = some 0 by rw [h4]; rfl))
   clear htl h4 hu hsl h1 h2 h3
   go_enter Tryz.func44, Tryz.ntmps44
   go_wp2
   go_ret2
   exact ⟨_, rfl, by rw [Hc.out.1, Hc.out.2]; rfl, Below.refl _ _⟩
 have e4 := htl [110, 117, 108]
 rw [decide_eq_false h4] at e4
 clear htl
 by_cases h5 : u.length = 1
 · obtain ⟨c, hc⟩ : ∃ c, u = [c] := List.length_eq_one_iff.1 h5
   have Hc := As.mk (chr_some (show charF u = some c.toNat by
    unfold charF
    rw [if_neg h1, if_neg h2, if_neg h3, if_neg h4, hc]))
   have hz : (s.size : Int) = 1 := by omega
   have hn : 0 < s.size := by omega
   have hcx : ((s[0]'hn).toNat : Int) = (c.toNat : Int) := by
    have : u[0]? = some (s[0]'hn) := by rw [hu]; exact Lib.data_getElem? s 0 hn
    rw [hc] at this
    simp only [List.getElem?_cons_zero, Option.some.injEq] at this
    rw [← this]
   have hlt := c.toNat_lt
   have ew : IntKind.i64.wrap (c.toNat : Int) = (c.toNat : Int) := IntWalk.i64_in _ (by omega)
   clear h1 h2 h3 h4 hc hu h5 hsl
   go_enter Tryz.func44, Tryz.ntmps44
   go_wp2
   go_ret2
   exact ⟨_, rfl, by rw [Hc.out.1, Hc.out.2]; rfl, Below.refl _ _⟩
 have HL := As.mk (charF_long h1 h2 h3 h4 h5)
 have z1 : ((s.size : Int) == 1) = false := by simp; omega
 by_cases h6 : (u.length = 2 ∨ u.length = 3) ∧ u[0]? = some 120
 · have Hc := HL.out
   rw [if_pos h6] at Hc
   have hs3 : s.size ≤ 3 := by omega
   have z2 : ¬ (s.size : Int) < 2 := by omega
   have z3 : ¬ (3 : Int) < (s.size : Int) := by omega
   have hn : 0 < s.size := by omega
   have hn1 : 1 < s.size := by omega
   have hcx : ((s[0]'hn).toNat : Int) = 120 := by
    have : u[0]? = some (s[0]'hn) := by rw [hu]; exact Lib.data_getElem? s 0 hn
    rw [h6.2] at this
    simp only [Option.some.injEq] at this
    rw [← this]; rfl
   have HCc := As.mk Hc
   have hpos : (0 : Int) < (s.size : Int) := by omega
   have Hu := As.mk hu
   have Hsl := As.mk hsl
   clear h1 h2 h3 h4 hu h5 hsl Hc HL h6
   go_enter Tryz.func44, Tryz.ntmps44
   go_wp2
   go_loopw [4, 5] (fun v q wr => ∃ k V : Nat, 1 ≤ k ∧ k ≤ s.size ∧ q = .int .i64 (k : Int) ∧ v = .int .i64 (V : Int) ∧ V < 256 ∧ As ((k ≤ 1 → V = 0) ∧ (k ≤ 2 → V < 16)) ∧ As (charF u = hexF V (u.drop k)) ∧ w = wr) (fun _ q _ => s.size - (intOf q).toNat)
   case atStart => exact ⟨1, 0, Nat.le_refl _, by omega, rfl, rfl, by omega, ⟨⟨fun _ => rfl, fun _ => by omega⟩⟩, HCc, rfl⟩
   case round =>
    obtain ⟨k, V, hk1, hk2, rfl, rfl, hV, hV16, hcf, rfl⟩ := hrel
    by_cases h : k < s.size
    · obtain ⟨c, hc⟩ := get_size s h
      have hcx : s[k]'h = c := by
       have := (List.getElem?_eq_some_iff.1 hc).2
       rw [← this, ByteArray.getElem_eq_getElem_data]; simp
      have hcf2 := hcf.out
      rw [drop_at (show u[k]? = some c by rw [Hu.out]; exact hc), hexF] at hcf2
      have hki : (k : Int) < (s.size : Int) := by omega
      have hhx := hex_is c
      have hV2 := hV16.out.2 (by omega)
      cases hd : hexD c with
      | none =>
        rw [hd] at hcf2 hhx
        have Hc := As.mk (chr_none hcf2)
        have HI := As.mk (fun W => idx_b hexs c (-1) hhx W)
        simp only [hexs] at HI
        clear hc hcf2 hhx hd hcf
        go_wp2_with (go_at_call 20; (with_reducible refine (HI.out _).mono ?_); rintro e wn ⟨rfl, rfl⟩)
        go_ret2
        exact ⟨_, rfl, by rw [Hc.out.1, Hc.out.2]; rfl, Below.refl _ _⟩
      | some a =>
        rw [hd] at hcf2 hhx
        have ha := hexD_lt hd
        have HI := As.mk (fun W => idx_b hexs c (a : Int) hhx W)
        simp only [hexs] at HI
        have Hcf := As.mk hcf2
        have hsh := or16 V a hV2 ha
        clear hc hcf2 hhx hd hcf
        go_wp2_with (go_at_call 20; (with_reducible refine (HI.out _).mono ?_); rintro e wn ⟨rfl, rfl⟩)
        go_roundw
        case rel => exact ⟨k + 1, 16 * V + a, by omega, by omega, by go_num, congrArg _ (by omega), by omega, ⟨⟨fun h => by omega, fun h => by have := hV16.out.1; omega⟩⟩, Hcf, trivial⟩
        case measure => simp [intOf]; omega
    · obtain rfl : k = s.size := by omega
      have Hc := As.mk (chr_some (show charF u = some V by rw [hcf.out, List.drop_eq_nil_of_le (by rw [Hsl.out]; exact Nat.le_refl _)]; rfl))
      go_wp2
      go_ret2
      exact ⟨_, rfl, by rw [Hc.out.1, Hc.out.2]; rfl, Below.refl _ _⟩
 · have Hc := As.mk (chr_none (show charF u = none by rw [HL.out, if_neg h6]))
   by_cases h7 : s.size < 2
   · have z2 : (s.size : Int) < 2 := by omega
     clear h1 h2 h3 h4 hu h5 hsl HL h6
     go_enter Tryz.func44, Tryz.ntmps44
     go_wp2
     go_ret2
     exact ⟨_, rfl, by rw [Hc.out.1, Hc.out.2]; rfl, Below.refl _ _⟩
   · have z2 : ¬ (s.size : Int) < 2 := by omega
     by_cases h8 : 3 < s.size
     · have z3 : (3 : Int) < (s.size : Int) := by omega
       clear h1 h2 h3 h4 hu h5 hsl HL h6
       go_enter Tryz.func44, Tryz.ntmps44
       go_wp2
       go_ret2
       exact ⟨_, rfl, by rw [Hc.out.1, Hc.out.2]; rfl, Below.refl _ _⟩
     · have z3 : ¬ (3 : Int) < (s.size : Int) := by omega
       have hn : 0 < s.size := by omega
       obtain ⟨x, hx⟩ : ∃ x, x = (s[0]'hn).toNat := ⟨_, rfl⟩
       have hcx : ((s[0]'hn).toNat : Int) = (x : Int) := by rw [hx]
       have hne : x ≠ 120 := fun e => h6 ⟨by omega, by
        have h9 : u[0]? = some (s[0]'hn) := by rw [hu]; exact Lib.data_getElem? s 0 hn
        rw [h9]
        congr 1
        exact UInt8.toNat_inj.1 (by rw [← hx, e]; rfl)⟩
       have z4 : ((x : Int) != 120) = true := by simp; omega
       have hpos : (0 : Int) < (s.size : Int) := by omega
       clear h1 h2 h3 h4 hu h5 hsl HL h6 hx
       go_enter Tryz.func44, Tryz.ntmps44
       go_wp2
       go_ret2
       exact ⟨_, rfl, by rw [Hc.out.1, Hc.out.2]; rfl, Below.refl _ _⟩
def symG (k : Nat) : List UInt8 → Bool
 | [] => decide (0 < k)
 | c :: r => (isLet c || isOdd c || (decide (0 < k) && isNum c)) && symG (k + 1) r
theorem symG_all : ∀ (l : List UInt8) (k : Nat), 0 < k → symG k l = l.all (fun c => isLet c || isNum c || isOdd c)
 | [], k, h => by simp [symG, h]
 | c :: r, k, h => by
   rw [symG, symG_all r (k + 1) (by omega), List.all_cons, decide_eq_true h, Bool.true_and]
   congr 1
   cases isLet c <;> cases isNum c <;> cases isOdd c <;> rfl
theorem symF_G (l : List UInt8) : symF l = symG 0 l := by
 cases l with
 | nil => rfl
 | cons c r => rw [symF, symG, symG_all r 1 (by omega)]; simp
set_option maxRecDepth 8000 in
set_option maxHeartbeats 4000000 in
theorem symbol_any (s : ByteArray) (w : World) (hs : s.size ≤ 65536) :
 Calls Tryz.prog 46 #[.string s] w (Gives w fun v _ => v = .bool (symF s.data.toList)) := by
 obtain ⟨u, hu⟩ : ∃ u, u = s.data.toList := ⟨_, rfl⟩
 have hsl := size_list s
 have hne : (!s.toList.isEmpty) = decide (0 < s.size) := ne_empty5 s
 rw [← hu] at hsl ⊢
 have Hu := As.mk hu
 have Hsl := As.mk hsl
 obtain ⟨B, hB⟩ : ∃ B, B = symF u := ⟨_, rfl⟩
 have hB2 := hB
 rw [symF_G] at hB2
 have HB := As.mk hB2
 rw [← hB]
 clear hu hsl hB hB2
 go_enter Tryz.func46, Tryz.ntmps46
 go_wp2
 go_loopw [9] (fun q wr => ∃ k : Nat, k ≤ s.size ∧ q = .int .i64 (k : Int) ∧ As (B = symG k (u.drop k)) ∧ w = wr) (fun q _ => s.size - (intOf q).toNat)
 case atStart => exact ⟨0, by omega, rfl, HB, rfl⟩
 case round =>
  obtain ⟨k, hk, rfl, hb, rfl⟩ := hrel
  by_cases h : k < s.size
  · obtain ⟨c, hc⟩ := get_size s h
    have hb2 := hb.out
    rw [drop_at (show u[k]? = some c by rw [Hu.out]; exact hc), symG] at hb2
    obtain ⟨x, hx⟩ : ∃ x, x = c.toNat := ⟨_, rfl⟩
    have hcx : ((s[k]'h).toNat : Int) = (x : Int) := by
     have := (List.getElem?_eq_some_iff.1 hc).2
     rw [hx, ← this, ByteArray.getElem_eq_getElem_data]; simp
    have hki : (k : Int) < (s.size : Int) := by omega
    have hlt := c.toNat_lt
    rw [← hx] at hlt
    obtain ⟨K, hK⟩ : ∃ K, K = Lib.indexByte odds c := ⟨_, rfl⟩
    have HI := As.mk (fun W => idx_b odds c K hK.symm W)
    rw [← hx] at HI
    simp only [odds] at HI
    have hod := odd_is c
    rw [← hK] at hod
    have hL : isLet c = ((97 ≤ x && x ≤ 122) || (65 ≤ x && x ≤ 90)) := by rw [hx]; rfl
    have hN : isNum c = (48 ≤ x && x ≤ 57) := by rw [hx]; rfl
    clear hc hx hK hb
    rcases (show (x ≤ 47) ∨ (48 ≤ x ∧ x ≤ 57) ∨ (58 ≤ x ∧ x ≤ 64) ∨ (65 ≤ x ∧ x ≤ 90) ∨ (91 ≤ x ∧ x ≤ 96) ∨ (97 ≤ x ∧ x ≤ 122) ∨ (123 ≤ x) by omega) with h | h | h | h | h | h | h <;> clear hlt
    · have hl1 : isLet c = false := by rw [hL]; simp; omega
      have hn1 : isNum c = false := by rw [hN]; simp; omega
      have q97 : decide ((97 : Int) ≤ (x : Int)) = false := decide_eq_false (by omega)
      have q65 : decide ((65 : Int) ≤ (x : Int)) = false := decide_eq_false (by omega)
      have q48 : decide ((48 : Int) ≤ (x : Int)) = false := decide_eq_false (by omega)
      have q122 : decide ((x : Int) ≤ (122 : Int)) = true := decide_eq_true (by omega)
      have q90 : decide ((x : Int) ≤ (90 : Int)) = true := decide_eq_true (by omega)
      have q57 : decide ((x : Int) ≤ (57 : Int)) = true := decide_eq_true (by omega)
      cases ho1 : isOdd c with
      | true =>
        rw [ho1] at hod
        have hK0 : ¬ (K : Int) < 0 := by have := of_decide_eq_true hod; omega
        have Hb : As (B = symG (k + 1) (u.drop (k + 1))) := ⟨by rw [hb2, ho1]; simp⟩
        clear hb2 hL hN hl1 hn1 hod ho1
        go_wp2_with (go_at_call 20; (with_reducible refine (HI.out _).mono ?_); rintro e wn ⟨rfl, rfl⟩)
        go_roundw
        case rel => exact ⟨k + 1, by omega, by go_num, Hb, trivial⟩
        case measure => simp [intOf]; omega
      | false =>
        rw [ho1] at hod
        have hK0 : (K : Int) < 0 := by have := of_decide_eq_false hod; omega
        have Hb : As (B = false) := ⟨by rw [hb2, hl1, ho1, hn1]; simp⟩
        clear hb2 hL hN hl1 hn1 hod ho1
        go_wp2_with (go_at_call 20; (with_reducible refine (HI.out _).mono ?_); rintro e wn ⟨rfl, rfl⟩)
        go_ret
        exact ⟨_, rfl, by rw [Hb.out]; rfl, Below.refl _ _⟩
    · have hl1 : isLet c = false := by rw [hL]; simp; omega
      have hn1 : isNum c = true := by rw [hN]; simp; omega
      have q97 : decide ((97 : Int) ≤ (x : Int)) = false := decide_eq_false (by omega)
      have q65 : decide ((65 : Int) ≤ (x : Int)) = false := decide_eq_false (by omega)
      have q48 : decide ((48 : Int) ≤ (x : Int)) = true := decide_eq_true (by omega)
      have q122 : decide ((x : Int) ≤ (122 : Int)) = true := decide_eq_true (by omega)
      have q90 : decide ((x : Int) ≤ (90 : Int)) = true := decide_eq_true (by omega)
      have q57 : decide ((x : Int) ≤ (57 : Int)) = true := decide_eq_true (by omega)
      by_cases hk0 : 0 < k
      · have hk0i : (0 : Int) < (k : Int) := by omega
        have Hb : As (B = symG (k + 1) (u.drop (k + 1))) := ⟨by rw [hb2, hn1, decide_eq_true hk0]; simp⟩
        clear hb2 hL hN hl1 hn1 HI hod hk0
        go_wp2
        go_roundw
        case rel => exact ⟨k + 1, by omega, by go_num, Hb, trivial⟩
        case measure => simp [intOf]; omega
      · obtain rfl : k = 0 := by omega
        have ho1 : isOdd c = false := by
         have := byte_all (p := fun c => !(48 ≤ c.toNat && c.toNat ≤ 57) || isOdd c == false) (by decide +kernel) c
         rw [show (48 ≤ c.toNat && c.toNat ≤ 57) = isNum c from rfl, hn1] at this
         simpa using this
        have hK0 : (K : Int) < 0 := by
         rw [ho1] at hod
         simpa using hod
        have Hb : As (B = false) := ⟨by rw [hb2, hl1, ho1]; rfl⟩
        clear hb2 hL hN hl1 hn1 hod hk0 ho1
        go_wp2_with (go_at_call 20; (with_reducible refine (HI.out _).mono ?_); rintro e wn ⟨rfl, rfl⟩)
        go_ret
        exact ⟨_, rfl, by rw [Hb.out]; rfl, Below.refl _ _⟩
    · have hl1 : isLet c = false := by rw [hL]; simp; omega
      have hn1 : isNum c = false := by rw [hN]; simp; omega
      have q97 : decide ((97 : Int) ≤ (x : Int)) = false := decide_eq_false (by omega)
      have q65 : decide ((65 : Int) ≤ (x : Int)) = false := decide_eq_false (by omega)
      have q48 : decide ((48 : Int) ≤ (x : Int)) = true := decide_eq_true (by omega)
      have q122 : decide ((x : Int) ≤ (122 : Int)) = true := decide_eq_true (by omega)
      have q90 : decide ((x : Int) ≤ (90 : Int)) = true := decide_eq_true (by omega)
      have q57 : decide ((x : Int) ≤ (57 : Int)) = false := decide_eq_false (by omega)
      cases ho1 : isOdd c with
      | true =>
        rw [ho1] at hod
        have hK0 : ¬ (K : Int) < 0 := by have := of_decide_eq_true hod; omega
        have Hb : As (B = symG (k + 1) (u.drop (k + 1))) := ⟨by rw [hb2, ho1]; simp⟩
        clear hb2 hL hN hl1 hn1 hod ho1
        go_wp2_with (go_at_call 20; (with_reducible refine (HI.out _).mono ?_); rintro e wn ⟨rfl, rfl⟩)
        go_roundw
        case rel => exact ⟨k + 1, by omega, by go_num, Hb, trivial⟩
        case measure => simp [intOf]; omega
      | false =>
        rw [ho1] at hod
        have hK0 : (K : Int) < 0 := by have := of_decide_eq_false hod; omega
        have Hb : As (B = false) := ⟨by rw [hb2, hl1, ho1, hn1]; simp⟩
        clear hb2 hL hN hl1 hn1 hod ho1
        go_wp2_with (go_at_call 20; (with_reducible refine (HI.out _).mono ?_); rintro e wn ⟨rfl, rfl⟩)
        go_ret
        exact ⟨_, rfl, by rw [Hb.out]; rfl, Below.refl _ _⟩
    · have hl1 : isLet c = true := by rw [hL]; simp; omega
      have Hb : As (B = symG (k + 1) (u.drop (k + 1))) := ⟨by rw [hb2, hl1]; simp⟩
      have q97 : decide ((97 : Int) ≤ (x : Int)) = false := decide_eq_false (by omega)
      have q65 : decide ((65 : Int) ≤ (x : Int)) = true := decide_eq_true (by omega)
      have q48 : decide ((48 : Int) ≤ (x : Int)) = true := decide_eq_true (by omega)
      have q122 : decide ((x : Int) ≤ (122 : Int)) = true := decide_eq_true (by omega)
      have q90 : decide ((x : Int) ≤ (90 : Int)) = true := decide_eq_true (by omega)
      have q57 : decide ((x : Int) ≤ (57 : Int)) = false := decide_eq_false (by omega)
      clear hb2 hL hN hl1 HI hod
      go_wp2
      go_roundw
      case rel => exact ⟨k + 1, by omega, by go_num, Hb, trivial⟩
      case measure => simp [intOf]; omega
    · have hl1 : isLet c = false := by rw [hL]; simp; omega
      have hn1 : isNum c = false := by rw [hN]; simp; omega
      have q97 : decide ((97 : Int) ≤ (x : Int)) = false := decide_eq_false (by omega)
      have q65 : decide ((65 : Int) ≤ (x : Int)) = true := decide_eq_true (by omega)
      have q48 : decide ((48 : Int) ≤ (x : Int)) = true := decide_eq_true (by omega)
      have q122 : decide ((x : Int) ≤ (122 : Int)) = true := decide_eq_true (by omega)
      have q90 : decide ((x : Int) ≤ (90 : Int)) = false := decide_eq_false (by omega)
      have q57 : decide ((x : Int) ≤ (57 : Int)) = false := decide_eq_false (by omega)
      cases ho1 : isOdd c with
      | true =>
        rw [ho1] at hod
        have hK0 : ¬ (K : Int) < 0 := by have := of_decide_eq_true hod; omega
        have Hb : As (B = symG (k + 1) (u.drop (k + 1))) := ⟨by rw [hb2, ho1]; simp⟩
        clear hb2 hL hN hl1 hn1 hod ho1
        go_wp2_with (go_at_call 20; (with_reducible refine (HI.out _).mono ?_); rintro e wn ⟨rfl, rfl⟩)
        go_roundw
        case rel => exact ⟨k + 1, by omega, by go_num, Hb, trivial⟩
        case measure => simp [intOf]; omega
      | false =>
        rw [ho1] at hod
        have hK0 : (K : Int) < 0 := by have := of_decide_eq_false hod; omega
        have Hb : As (B = false) := ⟨by rw [hb2, hl1, ho1, hn1]; simp⟩
        clear hb2 hL hN hl1 hn1 hod ho1
        go_wp2_with (go_at_call 20; (with_reducible refine (HI.out _).mono ?_); rintro e wn ⟨rfl, rfl⟩)
        go_ret
        exact ⟨_, rfl, by rw [Hb.out]; rfl, Below.refl _ _⟩
    · have hl1 : isLet c = true := by rw [hL]; simp; omega
      have Hb : As (B = symG (k + 1) (u.drop (k + 1))) := ⟨by rw [hb2, hl1]; simp⟩
      have q97 : decide ((97 : Int) ≤ (x : Int)) = true := decide_eq_true (by omega)
      have q65 : decide ((65 : Int) ≤ (x : Int)) = true := decide_eq_true (by omega)
      have q48 : decide ((48 : Int) ≤ (x : Int)) = true := decide_eq_true (by omega)
      have q122 : decide ((x : Int) ≤ (122 : Int)) = true := decide_eq_true (by omega)
      have q90 : decide ((x : Int) ≤ (90 : Int)) = false := decide_eq_false (by omega)
      have q57 : decide ((x : Int) ≤ (57 : Int)) = false := decide_eq_false (by omega)
      clear hb2 hL hN hl1 HI hod
      go_wp2
      go_roundw
      case rel => exact ⟨k + 1, by omega, by go_num, Hb, trivial⟩
      case measure => simp [intOf]; omega
    · have hl1 : isLet c = false := by rw [hL]; simp; omega
      have hn1 : isNum c = false := by rw [hN]; simp; omega
      have q97 : decide ((97 : Int) ≤ (x : Int)) = true := decide_eq_true (by omega)
      have q65 : decide ((65 : Int) ≤ (x : Int)) = true := decide_eq_true (by omega)
      have q48 : decide ((48 : Int) ≤ (x : Int)) = true := decide_eq_true (by omega)
      have q122 : decide ((x : Int) ≤ (122 : Int)) = false := decide_eq_false (by omega)
      have q90 : decide ((x : Int) ≤ (90 : Int)) = false := decide_eq_false (by omega)
      have q57 : decide ((x : Int) ≤ (57 : Int)) = false := decide_eq_false (by omega)
      cases ho1 : isOdd c with
      | true =>
        rw [ho1] at hod
        have hK0 : ¬ (K : Int) < 0 := by have := of_decide_eq_true hod; omega
        have Hb : As (B = symG (k + 1) (u.drop (k + 1))) := ⟨by rw [hb2, ho1]; simp⟩
        clear hb2 hL hN hl1 hn1 hod ho1
        go_wp2_with (go_at_call 20; (with_reducible refine (HI.out _).mono ?_); rintro e wn ⟨rfl, rfl⟩)
        go_roundw
        case rel => exact ⟨k + 1, by omega, by go_num, Hb, trivial⟩
        case measure => simp [intOf]; omega
      | false =>
        rw [ho1] at hod
        have hK0 : (K : Int) < 0 := by have := of_decide_eq_false hod; omega
        have Hb : As (B = false) := ⟨by rw [hb2, hl1, ho1, hn1]; simp⟩
        clear hb2 hL hN hl1 hn1 hod ho1
        go_wp2_with (go_at_call 20; (with_reducible refine (HI.out _).mono ?_); rintro e wn ⟨rfl, rfl⟩)
        go_ret
        exact ⟨_, rfl, by rw [Hb.out]; rfl, Below.refl _ _⟩
  · obtain rfl : k = s.size := by omega
    have Hb : As (B = decide (0 < s.size)) := ⟨by rw [hb.out, List.drop_eq_nil_of_le (by rw [Hsl.out]; exact Nat.le_refl _)]; rfl⟩
    have Hne := As.mk hne
    clear hne
    go_wp2
    go_ret
    exact ⟨_, rfl, by rw [Hb.out, ← Hne.out]; rfl, Below.refl _ _⟩
end Go.Proofs.YtdapbegadhcpcaaGreatDoor
