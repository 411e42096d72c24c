/- A part of the proof. -/
import Derived.Test.YtdapbegadhcpcaaGreatDoorRfE
set_option linter.unusedVariables false
set_option linter.unusedSimpArgs false
namespace Go.Proofs.YtdapbegadhcpcaaGreatDoor
open Go.RowKit Go.Proofs.YtdapbegadhcpcaaGreatDoorL Go.Proofs.YtdapbegadhcpcaaGreatDoorM
def odds0 : List UInt8 := [33, 36, 37, 38, 42, 43, 45, 46, 47, 58, 60, 61, 62, 63, 64, 94, 95, 126]
def oddTo (c : UInt8) (n : Nat) : Bool := (odds0.take n).contains c
theorem oddTo_succ (c : UInt8) (n : Nat) (h : n < odds0.length) : oddTo c (n + 1) = (oddTo c n || c == odds0[n]) := by
 rw [oddTo, oddTo, List.take_succ_eq_append_getElem h, List.contains_append, Bool.eq_iff_iff]
 simp
theorem oddTo_more {c : UInt8} {n : Nat} (h : n < 18) (hb : true = oddTo c n) : true = oddTo c (n + 1) := by
 rw [oddTo_succ c n h, ← hb]; rfl
theorem oddTo_at {c : UInt8} {n x : Nat} (hx : x = c.toNat) (h : n < 18) (hb : false = oddTo c n) : (((odds0[n]?.getD 0).toNat : Int) == (x : Int)) = oddTo c (n + 1) := by
 rw [List.getElem?_eq_getElem (show n < odds0.length from h), Option.getD_some, oddTo_succ c n h, ← hb, Bool.false_or, hx, Bool.eq_iff_iff, beq_iff_eq, beq_iff_eq]
 constructor
 · intro e; exact UInt8.toNat_inj.1 (by omega)
 · rintro rfl; rfl
theorem symF_no {c : UInt8} {r : List UInt8} : symF (c :: r) = (!isNum c && (c :: r).all (fun c => isLet c || isNum c || isOdd c)) := by
 rw [symF]
 simp only [List.all_cons]
 have hn : ∀ c : UInt8, isNum c = true → isLet c = false ∧ isOdd c = false := fun c hc => by
  have := byte_all (p := fun c => !isNum c || (!isLet c && !isOdd c)) (by decide +kernel) c
  rw [hc] at this
  simpa using this
 cases hc : isNum c with
 | true => rw [(hn c hc).1, (hn c hc).2]; rfl
 | false => simp
set_option maxRecDepth 16000 in
set_option maxHeartbeats 16000000 in
theorem rplain_any (s : ByteArray) (w : World) (hs : s.size ≤ 65536) (h0 : s.data.toList ≠ [46]) :
 Calls Tryz.prog 54 #[.string s] w (Gives w fun v _ => v = .bool (symF s.data.toList)) := by
 obtain ⟨u, hu⟩ : ∃ u, u = s.data.toList := ⟨_, rfl⟩
 have hsl := size_list s
 have hne : (!s.toList.isEmpty) = decide (0 < s.size) := ne_empty5 s
 have htl : ∀ l, (s.toList == l) = decide (s.data.toList = l) := fun l => by rw [Lib.toList_data, beqD]
 have e46 := htl [46]
 rw [decide_eq_false h0] at e46
 rw [← hu] at hsl h0 ⊢
 have Hu := As.mk hu
 have Hsl := As.mk hsl
 by_cases hz : s.size = 0
 · have hun : u = [] := List.eq_nil_of_length_eq_zero (by omega)
   have hem : s.toList.isEmpty = true := by rw [decide_eq_false (by omega)] at hne; simpa using hne
   have hB : As (symF u = false) := ⟨by rw [hun]; rfl⟩
   have hse := htl []
   rw [show decide (s.data.toList = []) = true from decide_eq_true (by rw [← hu]; exact hun)] at hse
   clear hun hsl h0 hu htl hne
   go_enter Tryz.func54, Tryz.ntmps54
   go_wp2
   go_ret
   exact ⟨_, rfl, by first | (rw [hB.out]; rfl) | rw [hB.out], Below.refl _ _⟩
 have hem : s.toList.isEmpty = false := by rw [decide_eq_true (by omega)] at hne; simpa using hne
 have hse := htl []
 rw [show decide (s.data.toList = []) = false from decide_eq_false (by rw [← hu]; intro h; rw [h] at hsl; simp at hsl; omega)] at hse
 have hp0 : 0 < s.size := by omega
 obtain ⟨c0, hc0⟩ := get_size s hp0
 have hp0i : (0 : Int) < (s.size : Int) := by omega
 obtain ⟨x0, hx0⟩ : ∃ x, x = c0.toNat := ⟨_, rfl⟩
 have hcx0 : ((s[0]'hp0).toNat : Int) = (x0 : Int) := by rw [get_c hp0 hc0, hx0]
 have hu0 : u = c0 :: u.drop 1 := by
  have := drop_at (show u[0]? = some c0 by rw [hu]; exact hc0)
  simpa using this
 have hsy2 : symF u = (!isNum c0 && u.all (fun c => isLet c || isNum c || isOdd c)) := by
  have := symF_no (c := c0) (r := u.drop 1)
  rwa [← hu0] at this
 have hN0 : isNum c0 = (48 ≤ x0 && x0 ≤ 57) := by rw [hx0]; rfl
 clear hc0 hx0 hsl hu h0 htl hne hu0
 by_cases hnum : 48 ≤ x0 ∧ x0 ≤ 57
 · have hB : As (symF u = false) := ⟨by rw [hsy2, hN0]; simp; omega⟩
   have q1 : decide ((48 : Int) ≤ (x0 : Int)) = true := decide_eq_true (by omega)
   have q2 : decide ((x0 : Int) ≤ 57) = true := decide_eq_true (by omega)
   clear hsy2 hN0
   go_enter Tryz.func54, Tryz.ntmps54
   go_wp2
   go_ret
   exact ⟨_, rfl, by first | (rw [hB.out]; rfl) | rw [hB.out], Below.refl _ _⟩
 have hB : symF u = u.all (fun c => isLet c || isNum c || isOdd c) := by
  rw [hsy2, hN0, show (decide (48 ≤ x0) && decide (x0 ≤ 57)) = false by simp; omega]; simp
 obtain ⟨B, hBB⟩ : ∃ B, B = symF u := ⟨_, rfl⟩
 rw [← hBB]
 have HB : As (B = (u.drop 0).all (fun c => isLet c || isNum c || isOdd c)) := ⟨by rw [hBB, hB]; rfl⟩
 clear hB hBB hsy2 hN0
 obtain ⟨b1, q1⟩ : ∃ b, decide ((48 : Int) ≤ (x0 : Int)) = b := ⟨_, rfl⟩
 have key : Calls Tryz.prog 54 #[.string s] w (Gives w fun v _ => v = .bool B) := by
  cases b1
  rotate_left
  have q2 : decide ((x0 : Int) ≤ 57) = false := decide_eq_false (by have := of_decide_eq_true q1; omega)
  all_goals
   clear hnum
   go_enter Tryz.func54, Tryz.ntmps54
   go_wp2
   clear q1 hcx0
   go_loopw [3] (fun q wr => ∃ k : Nat, k ≤ s.size ∧ q = .int .i64 (k : Int) ∧ As (B = (u.drop k).all (fun c => isLet c || isNum c || isOdd c)) ∧ w = wr) (fun q _ => s.size - (intOf q).toNat)
   case atStart => exact ⟨0, Nat.zero_le _, rfl, HB, rfl⟩
   case round =>
    obtain ⟨k, hk, rfl, hb, rfl⟩ := hrel
    by_cases h : k < s.size
    · obtain ⟨c, hc⟩ := get_size s h
      obtain ⟨x, hx⟩ : ∃ x, x = c.toNat := ⟨_, rfl⟩
      have hcx : ((s[k]'h).toNat : Int) = (x : Int) := by rw [get_c h hc, hx]
      have hb2 : As (B = ((isLet c || isNum c || isOdd c) && (u.drop (k + 1)).all (fun c => isLet c || isNum c || isOdd c))) := ⟨by rw [hb.out, drop_at (show u[k]? = some c by rw [Hu.out]; exact hc), List.all_cons]⟩
      have hki : (k : Int) < (s.size : Int) := by omega
      have hlt := c.toNat_lt
      have hL : isLet c = ((97 ≤ x && x ≤ 122) || (65 ≤ x && x ≤ 90)) := by rw [hx]; rfl
      have hN : isNum c = (48 ≤ x && x ≤ 57) := by rw [hx]; rfl
      have Hx := As.mk hx
      rw [← hx] at hlt
      clear hc hx hb
      rcases (show (x ≤ 47) ∨ (48 ≤ x ∧ x ≤ 57) ∨ (58 ≤ x ∧ x ≤ 64) ∨ (65 ≤ x ∧ x ≤ 90) ∨ (91 ≤ x ∧ x ≤ 96) ∨ (97 ≤ x ∧ x ≤ 122) ∨ (123 ≤ x) by omega) with h9 | h9 | h9 | h9 | h9 | h9 | h9 <;> clear hlt
      all_goals
       first | have q97 : decide ((97 : Int) ≤ (x : Int)) = true := decide_eq_true (by omega) | have q97 : decide ((97 : Int) ≤ (x : Int)) = false := decide_eq_false (by omega)
       first | have q65 : decide ((65 : Int) ≤ (x : Int)) = true := decide_eq_true (by omega) | have q65 : decide ((65 : Int) ≤ (x : Int)) = false := decide_eq_false (by omega)
       first | have q48 : decide ((48 : Int) ≤ (x : Int)) = true := decide_eq_true (by omega) | have q48 : decide ((48 : Int) ≤ (x : Int)) = false := decide_eq_false (by omega)
       first | have q122 : decide ((x : Int) ≤ (122 : Int)) = true := decide_eq_true (by omega) | have q122 : decide ((x : Int) ≤ (122 : Int)) = false := decide_eq_false (by omega)
       first | have q90 : decide ((x : Int) ≤ (90 : Int)) = true := decide_eq_true (by omega) | have q90 : decide ((x : Int) ≤ (90 : Int)) = false := decide_eq_false (by omega)
       first | have q57 : decide ((x : Int) ≤ (57 : Int)) = true := decide_eq_true (by omega) | have q57 : decide ((x : Int) ≤ (57 : Int)) = false := decide_eq_false (by omega)
       first
        | have hl1 : isLet c = true := by rw [hL]; simp; omega
          have Hb2 : As (B = (u.drop (k + 1)).all (fun c => isLet c || isNum c || isOdd c)) := ⟨by rw [hb2.out, hl1]; simp⟩
          clear hl1 hL hN
        | have hn1 : isNum c = true := by rw [hN]; simp; omega
          have Hb2 : As (B = (u.drop (k + 1)).all (fun c => isLet c || isNum c || isOdd c)) := ⟨by rw [hb2.out, hn1]; simp⟩
          clear hn1 hL hN
        | have hl1 : isLet c = false := by rw [hL]; simp; omega
          have hn1 : isNum c = false := by rw [hN]; simp; omega
          have Hl1 := As.mk hl1
          have Hn1 := As.mk hn1
          clear hL hN hl1 hn1
       go_wp2
       first
        | go_roundw
          case rel => exact ⟨k + 1, by omega, by go_num, Hb2, by first | rfl | trivial⟩
          case measure => simp [intOf]; omega
        | skip
          have Hl1 := Hl1
          obtain ⟨wo, rfl⟩ : ∃ wo : World, wo = w := ⟨_, rfl⟩
          go_loopw [5, 6] (fun ok q wr => ∃ (n : Nat) (b : Bool), ok = .bool b ∧ q = .int .i64 (n : Int) ∧ n ≤ 18 ∧ As (b = oddTo c n) ∧ wo = wr) (fun _ q _ => 18 - (intOf q).toNat)
          case atStart => exact ⟨0, false, rfl, rfl, by omega, ⟨rfl⟩, rfl⟩
          case round =>
           obtain ⟨n, b, rfl, rfl, hn18, hbo, rfl⟩ := hrel
           by_cases hn : n < 18
           · have Hn := As.mk hn
             have hbc := hbo.out
             rcases (show n = 0 ∨ n = 1 ∨ n = 2 ∨ n = 3 ∨ n = 4 ∨ n = 5 ∨ n = 6 ∨ n = 7 ∨ n = 8 ∨ n = 9 ∨ n = 10 ∨ n = 11 ∨ n = 12 ∨ n = 13 ∨ n = 14 ∨ n = 15 ∨ n = 16 ∨ n = 17 by omega) with rfl | rfl | rfl | rfl | rfl | rfl | rfl | rfl | rfl | rfl | rfl | rfl | rfl | rfl | rfl | rfl | rfl | rfl
             all_goals
              cases b
              · have Ho := As.mk (oddTo_at Hx.out Hn.out hbc)
                clear hbc hbo hn18 hn Hn
                go_wp2
                go_roundw
                case rel => exact ⟨_, _, rfl, by first | rfl | go_num, by decide, ⟨Ho.out⟩, by first | rfl | trivial⟩
                case measure => simp [intOf]
              · have Ho := As.mk (oddTo_more Hn.out hbc)
                clear hbc hbo hn18 hn Hn
                go_wp2
                go_roundw
                case rel => exact ⟨_, true, rfl, by first | rfl | go_num, by decide, Ho, by first | rfl | trivial⟩
                case measure => simp [intOf]
           · obtain rfl : n = 18 := by omega
             have hbo2 : b = isOdd c := hbo.out
             cases b with
             | true =>
               have Hb2 : As (B = (u.drop (k + 1)).all (fun c => isLet c || isNum c || isOdd c)) := ⟨by rw [hb2.out, ← hbo2]; simp⟩
               clear hbo2 hbo
               go_wp2
               go_roundw
               case rel => exact ⟨k + 1, by omega, by go_num, Hb2, by first | rfl | trivial⟩
               case measure => simp [intOf]; omega
             | false =>
               have Hb2 : As (B = false) := ⟨by rw [hb2.out, ← hbo2, Hl1.out, Hn1.out]; rfl⟩
               clear hbo2 hbo
               go_wp2
               go_ret
               exact ⟨_, rfl, by first | (rw [Hb2.out]; rfl) | rw [Hb2.out], Below.refl _ _⟩
    · have hki : ¬ (k : Int) < (s.size : Int) := by omega
      have Hb2 : As (B = true) := ⟨by rw [hb.out, List.drop_eq_nil_of_le (by have := Hsl.out; omega)]; rfl⟩
      clear hb
      go_wp2
      go_ret
      exact ⟨_, rfl, by first | (rw [Hb2.out]; rfl) | rw [Hb2.out], Below.refl _ _⟩
 exact key
theorem rplain_b (s : ByteArray) (w : World) (hs : s.size ≤ 65536) (h0 : s.data.toList ≠ [46]) (b : Bool) (hb : symF s.data.toList = b) :
 Calls Tryz.prog 54 #[.string s] w (Gives w fun v _ => v = .bool b) := hb ▸ rplain_any s w hs h0
end Go.Proofs.YtdapbegadhcpcaaGreatDoor
