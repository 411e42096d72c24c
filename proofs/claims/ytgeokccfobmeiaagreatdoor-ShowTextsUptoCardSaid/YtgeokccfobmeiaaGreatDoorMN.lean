import Derived.Test.YtgeokccfobmeiaaGreatDoorML
import Derived.Lib.Join
import Derived.StillTailTactics
import Derived.BigQuiet
import Derived.Laws.Strings2
/- show.pieces, hex, char; tandemref06.two, char. -/
namespace Go.Proofs.YtgeokccfobmeiaaGreatDoor
open Go.RowKit Go.Proofs.YtgeokccfobmeiaaGreatDoorL Go.Proofs.YtgeokccfobmeiaaGreatDoorM
set_option linter.unusedVariables false
set_option linter.unusedSimpArgs false
theorem join_nil : ∀ l : List (List UInt8), Lib.join l [] = l.flatten
  | [] => rfl
  | [x] => by simp [Lib.join]
  | x :: y :: l => by
    have := join_nil (y :: l)
    simp only [Lib.join, List.flatten_cons, List.append_nil] at this ⊢
    first | rw [this] | simp [this]
theorem join_pieces (l : List (List UInt8)) (sep : List UInt8) (n : Nat) (hn : l.length = n) (A : Option Addr) (c : Nat) (w : World) (hr : Rd encT 1 w A l) (hc : n ≤ c) (hN : n ≤ 140737488355328) (hlen : (Lib.join l sep).length ≤ 140737488355328) :
    Calls Tryz.prog 38 #[.slice A n c, .string ⟨sep.toArray⟩] w (Gives w fun v w' => v = .string ⟨(Lib.join l sep).toArray⟩) := by
  subst hn
  rcases l with _ | ⟨x, l⟩
  · refine (Tryz.strings_Join_none A c _ w).mono ?_
    rintro e w' ⟨rfl, rfl⟩
    exact ⟨_, rfl, rfl, Below.refl _ _⟩
  · obtain ⟨b, off, rfl⟩ := hr.get (by simp)
    have hlt : b < w.heap.size := World.block_lt_of_cell? w _ (Rd.t hr 0 (by simp))
    have h := Tryz.strings_Join b off c ((x :: l).map fun y => (⟨y.toArray⟩ : ByteArray)) ⟨sep.toArray⟩ w (fun j y hy => by
      rw [List.getElem?_map] at hy
      cases hj : (x :: l)[j]? with
      | none => rw [hj] at hy; cases hy
      | some z =>
        rw [hj] at hy
        simp only [Option.map_some, Option.some.injEq] at hy
        subst hy
        obtain ⟨hlt, rfl⟩ := List.getElem?_eq_some_iff.1 hj
        exact Rd.t hr j hlt) hlt (by rw [List.length_map]; exact hN) (by rw [List.length_map]; exact hc) (by simpa [List.map_map, Function.comp_def] using hlen)
    rw [List.length_map] at h
    refine h.mono ?_
    rintro e w' ⟨rfl, hb⟩
    refine ⟨_, rfl, ?_, hb⟩
    simp [List.map_map, Function.comp_def]
theorem pieces_any (l : List (List UInt8)) (n : Nat) (hn : l.length = n) (A : Option Addr) (c : Nat) (w : World) (hr : Rd encT 1 w A l) (hc : n ≤ c) (hN : n ≤ 140737488355328) (hlen : l.flatten.length ≤ 140737488355328) :
    Calls Tryz.prog 22 #[.slice A n c] w (Gives w fun v w' => v = .string ⟨l.flatten.toArray⟩) := by
  have hj := fun w h => join_pieces l [] n hn A c w h hc hN (by rw [join_nil]; exact hlen)
  simp only [join_nil] at hj
  have HJ := As.mk hj
  clear hj
  go_enter Tryz.func22, Tryz.ntmps22
  go_wp2_with (go_at_call 38; refine (HJ.out _ hr).mono ?_; rintro e w2 ⟨v, rfl, rfl, hb⟩)
  go_ret
  exact ⟨_, rfl, rfl, hb⟩
theorem pieces2 (x y : List UInt8) (g c : Nat) (w : World) (hr : Rd encT 1 w (some ⟨g, 0, none⟩) [x, y]) (hc : 2 ≤ c) (hlen : x.length + y.length ≤ 140737488355328) :
    Calls Tryz.prog 22 #[.slice (some ⟨g, 0, none⟩) 2 c] w (Gives w fun v w' => v = .string ⟨(x ++ y).toArray⟩) := by
  have := pieces_any [x, y] 2 rfl _ c w hr hc (by omega) (by simpa using hlen)
  simpa using this
theorem pieces3 (x y z : List UInt8) (g c : Nat) (w : World) (hr : Rd encT 1 w (some ⟨g, 0, none⟩) [x, y, z]) (hc : 3 ≤ c) (hlen : x.length + (y.length + z.length) ≤ 140737488355328) :
    Calls Tryz.prog 22 #[.slice (some ⟨g, 0, none⟩) 3 c] w (Gives w fun v w' => v = .string ⟨(x ++ (y ++ z)).toArray⟩) := by
  have := pieces_any [x, y, z] 3 rfl _ c w hr hc (by omega) (by simpa using hlen)
  simpa using this
theorem and15 (x : Int) : bits .and .i64 x 15 = x % 16 := by
  unfold bits
  have h : (BitVec.ofInt 64 x &&& BitVec.ofInt 64 15).toNat = (x % 16).toNat := by
    rw [BitVec.toNat_and, BitVec.toNat_ofInt]
    rw [show (BitVec.ofInt 64 15).toNat = 2 ^ 4 - 1 from rfl, Nat.and_two_pow_sub_one_eq_mod]
    omega
  show IntKind.i64.wrap ((BitVec.ofInt 64 x &&& BitVec.ofInt 64 15).toNat : Int) = _
  rw [h, IntKind.wrap_i64]
  omega
/-- a hexadecimal digit -/
def dig16 (a : Nat) : UInt8 := if a < 10 then UInt8.ofNat (48 + a) else UInt8.ofNat (87 + a)
/-- a number's last two hexadecimal digits -/
def hex2 (n : Int) : List UInt8 := [dig16 (n / 16 % 16).toNat, dig16 (n % 16).toNat]
def hexDigits : ByteArray := ⟨#[48, 49, 50, 51, 52, 53, 54, 55, 56, 57, 97, 98, 99, 100, 101, 102]⟩
theorem hexAt : ∀ a : Fin 16, ((hexDigits.extract a.val 16).extract 0 1) = ⟨#[dig16 a.val]⟩ := by decide +kernel
theorem hexAt2 : ∀ a : Fin 16, (hexDigits.extract a.val (a.val + 1)) = ⟨#[dig16 a.val]⟩ := by decide +kernel
theorem hexS (a : Nat) (h : a < 16) : ∃ S : ByteArray, (∀ w : World, (Instr.slice 9 (.string ⟨#[48, 49, 50, 51, 52, 53, 54, 55, 56, 57, 97, 98, 99, 100, 101, 102]⟩) (some (.int .i64 (a : Int))) none none).run Tryz.prog w = .ok (.string S) w) ∧
    (∀ w : World, (Instr.slice 9 (.string S) none (some (.int .i64 1)) none).run Tryz.prog w = .ok (.string ⟨[dig16 a].toArray⟩) w) := by
  have e := hexAt ⟨a, h⟩
  refine ⟨hexDigits.extract a 16, fun w => ?_, fun w => ?_⟩
  · have := run_slice_string_l (P := Tryz.prog) w 9 hexDigits Tryz.underlying9 .i64 (a : Int) (by omega) (by show (a : Int) ≤ 16; omega)
    rw [Int.toNat_natCast] at this
    exact this
  · have hsz : (hexDigits.extract a 16).size = 16 - a := by rw [ByteArray.size_extract]; show min 16 16 - a = 16 - a; rfl
    have := run_slice_string_h (P := Tryz.prog) w 9 (hexDigits.extract a 16) Tryz.underlying9 .i64 1 (by omega) (by rw [hsz]; omega)
    rw [show (1 : Int).toNat = 1 from rfl, e] at this
    exact this
theorem hexS2 (a : Nat) (h : a < 16) : ∀ w : World, (Instr.slice 9 (.string ⟨#[48, 49, 50, 51, 52, 53, 54, 55, 56, 57, 97, 98, 99, 100, 101, 102]⟩) (some (.int .i64 (a : Int))) (some (.int .i64 ((a : Int) + 1))) none).run Tryz.prog w = .ok (.string ⟨[dig16 a].toArray⟩) w := by
  intro w
  have e := hexAt2 ⟨a, h⟩
  have := run_slice_string (P := Tryz.prog) w 9 hexDigits .i64 .i64 (a : Int) ((a : Int) + 1) Tryz.underlying9 (by omega) (by omega) (by show (a : Int) + 1 ≤ 16; omega)
  rw [Int.toNat_natCast, show ((a : Int) + 1).toNat = a + 1 by omega, e] at this
  exact this
set_option maxRecDepth 8000 in
set_option maxHeartbeats 400000 in
theorem hex_any (n : Int) (w : World) :
    Calls Tryz.prog 37 #[.int .i64 n] w (Gives w fun v w' => v = .string ⟨(hex2 n).toArray⟩) := by
  obtain ⟨a, ha⟩ : ∃ a : Nat, a = (n / 16 % 16).toNat := ⟨_, rfl⟩
  obtain ⟨b, hb⟩ : ∃ b : Nat, b = (n % 16).toNat := ⟨_, rfl⟩
  have e1 : bits .and .i64 (n / 16) 15 = (a : Int) := by rw [and15]; omega
  have e2 : bits .and .i64 n 15 = (b : Int) := by rw [and15]; omega
  have ha' : a < 16 := by omega
  have hb' : b < 16 := by omega
  have hh : As (hex2 n = [dig16 a, dig16 b]) := ⟨by rw [hex2, ← ha, ← hb]⟩
  obtain ⟨Sa, sa1, sa2⟩ := hexS a ha'
  obtain ⟨Sb, sb1, sb2⟩ := hexS b hb'
  clear ha hb
  obtain ⟨x, hx⟩ : ∃ x, x = [dig16 a] := ⟨_, rfl⟩
  obtain ⟨y, hy⟩ : ∃ y, y = [dig16 b] := ⟨_, rfl⟩
  simp only [← hx] at sa2
  simp only [← hy] at sb2
  have hf : As (x ++ y = hex2 n) := ⟨by rw [hh.out, hx, hy]; rfl⟩
  have hlen : As (x.length + y.length ≤ 140737488355328) := ⟨by rw [hx, hy]; simp⟩
  clear hx hy
  go_enter Tryz.func37, Tryz.ntmps37
  go_wp2
  go_still_tail 9, (by kernel_rfl)
  change wpList _ _ _ _ _ w.drew
  have hbd := (Below.refl w.heap.size w).drew
  generalize w.drew = w2 at hbd ⊢
  go_wp2_with (first
    | ((with_reducible refine g_dst 12 ?_); go_must (refine ev_lit (v := fun g => .slice (some ⟨g, 0, none⟩) 2 2) 12 rfl (cs := [valT x, valT y]) (t := 9) (by go_simp; rfl) ?_); intro g2 w3 hb3 B3 hg3; replace hb3 := bthen hbd hb3)
    | (go_at_call 22; (with_reducible refine (pieces2 x y _ _ _ (B3.rdm (l := [x, y]) encT_one) (by omega) hlen.out).mono ?_); rintro e w5 ⟨v5, rfl, rfl, hb5⟩))
  go_ret
  exact ⟨_, rfl, by rw [← hf.out]; simp, bthen hb3 hb5⟩
end Go.Proofs.YtgeokccfobmeiaaGreatDoor
/- tandemref06.two; a character as it is written, both ways. -/
namespace Go.Proofs.YtgeokccfobmeiaaGreatDoor
open Go.RowKit Go.Proofs.YtgeokccfobmeiaaGreatDoorL Go.Proofs.YtgeokccfobmeiaaGreatDoorM
set_option linter.unusedVariables false
set_option linter.unusedSimpArgs false
/-- a character as it is written -/
def charL (n : Int) : List UInt8 :=
  if n = 32 then [35, 92, 115, 112, 97, 99, 101] else if n = 10 then [35, 92, 110, 101, 119, 108, 105, 110, 101] else if n = 9 then [35, 92, 116, 97, 98] else if n = 0 then [35, 92, 110, 117, 108]
  else if 33 ≤ n ∧ n ≤ 126 then [35, 92] ++ [UInt8.ofNat n.toNat] else [35, 92, 120] ++ hex2 n
theorem conv_one {w : World} {g k : Nat} (hk : k < 256) (B : Blk w g [valB8 k] 5) : (convert 29 9 (.slice (some ⟨g, 0, none⟩) 1 1)).run Tryz.prog w = .ok (.string ⟨[UInt8.ofNat k].toArray⟩) w := by
  have := conv_bytes (P := Tryz.prog) (src := 29) (dst := 9) (w := w) (cap := 1) Tryz.underlying29 Tryz.underlying5 Tryz.underlying9 (B.rdm (l := [k]) encB_one)
  simpa [sB, strOfNums] using this
set_option maxHeartbeats 400000 in
theorem char_any (n : Int) (w : World) (h1 : -9223372036854775808 ≤ n) (h2 : n ≤ 9223372036854775807) :
    Calls Tryz.prog 19 #[.int .i64 n] w (Gives w fun v w' => v = .string ⟨(charL n).toArray⟩) := by
  by_cases c1 : n = 32
  · subst c1
    go_enter Tryz.func19, Tryz.ntmps19
    go_wp2
    go_ret
    exact ⟨_, rfl, rfl, Below.refl _ _⟩
  by_cases c2 : n = 10
  · subst c2
    go_enter Tryz.func19, Tryz.ntmps19
    go_wp2
    go_ret
    exact ⟨_, rfl, rfl, Below.refl _ _⟩
  by_cases c3 : n = 9
  · subst c3
    go_enter Tryz.func19, Tryz.ntmps19
    go_wp2
    go_ret
    exact ⟨_, rfl, rfl, Below.refl _ _⟩
  by_cases c4 : n = 0
  · subst c4
    go_enter Tryz.func19, Tryz.ntmps19
    go_wp2
    go_ret
    exact ⟨_, rfl, rfl, Below.refl _ _⟩
  by_cases c5 : 33 ≤ n ∧ n ≤ 126
  · obtain ⟨k, rfl⟩ : ∃ k : Nat, n = k := ⟨n.toNat, by omega⟩
    have hc : As (charL (k : Int) = [35, 92] ++ [UInt8.ofNat k]) := ⟨by rw [charL, if_neg c1, if_neg c2, if_neg c3, if_neg c4, if_pos c5]; rfl⟩
    obtain ⟨y, hy⟩ : ∃ y, y = [UInt8.ofNat k] := ⟨_, rfl⟩
    rw [← hy] at hc
    have Hy := As.mk hy
    have hyl : y.length = 1 := by rw [hy]; rfl
    have hk1 : 33 ≤ k := by omega
    have hk2 : k ≤ 126 := by omega
    have b1 : ((k : Int) == 32) = false := by simp; omega
    have b2 : ((k : Int) == 10) = false := by simp; omega
    have b3 : ((k : Int) == 9) = false := by simp; omega
    have b4 : ((k : Int) == 0) = false := by simp; omega
    clear hy c1 c2 c3 c4
    go_enter Tryz.func19, Tryz.ntmps19
    go_wp2_with (first
      | ((with_reducible refine g_dst 24 ?_); go_must (refine ev_lit (v := fun g => .slice (some ⟨g, 0, none⟩) 1 1) 24 rfl (cs := [valB8 k]) (t := 5) (by go_simp; rfl) ?_); intro g2 w2 hb2 B2 hg2; have hcv := conv_one (by omega) B2; rw [← Hy.out] at hcv)
      | ((with_reducible refine g_dst 26 ?_); go_must (refine ev_lit (v := fun g => .slice (some ⟨g, 0, none⟩) 2 2) 26 rfl (cs := [valT [35, 92], valT y]) (t := 9) (by go_simp; rfl) ?_); intro g3 w3 hb3 B3 hg3; replace hb3 := bthen hb2 hb3)
      | (go_at_call 22; (with_reducible refine (pieces2 [35, 92] y _ _ _ (B3.rdm (l := [[35, 92], y]) encT_one) (by omega) (by simp; omega)).mono ?_); rintro e w5 ⟨v5, rfl, rfl, hb5⟩))
    go_ret
    exact ⟨_, rfl, by rw [hc.out]; simp, bthen hb3 hb5⟩
  · have b1 : ((n : Int) == 32) = false := by simpa using c1
    have b2 : ((n : Int) == 10) = false := by simpa using c2
    have b3 : ((n : Int) == 9) = false := by simpa using c3
    have b4 : ((n : Int) == 0) = false := by simpa using c4
    have hc : As (charL n = [35, 92, 120] ++ hex2 n) := ⟨by rw [charL, if_neg c1, if_neg c2, if_neg c3, if_neg c4, if_neg c5]⟩
    obtain ⟨y, hy⟩ : ∃ y, y = hex2 n := ⟨_, rfl⟩
    rw [← hy] at hc
    have Hy := As.mk hy
    have hyl : y.length = 2 := by rw [hy]; rfl
    by_cases c6 : n < 33
    · have hlo : decide ((33 : Int) ≤ n) = false := by simp; omega
      clear hy c1 c2 c3 c4 c5
      go_enter Tryz.func19, Tryz.ntmps19
      go_wp2_with (first
        | (go_at_call 37; (with_reducible refine (hex_any n _).mono ?_); rintro e w2 ⟨v2, rfl, hv2, hb2⟩; rw [← Hy.out] at hv2; subst hv2)
        | ((with_reducible refine g_dst 30 ?_); go_must (refine ev_lit (v := fun g => .slice (some ⟨g, 0, none⟩) 2 2) 30 rfl (cs := [valT [35, 92, 120], valT y]) (t := 9) (by go_simp; rfl) ?_); intro g3 w3 hb3 B3 hg3; replace hb3 := bthen hb2 hb3)
        | (go_at_call 22; (with_reducible refine (pieces2 [35, 92, 120] y _ _ _ (B3.rdm (l := [[35, 92, 120], y]) encT_one) (by omega) (by simp; omega)).mono ?_); rintro e w5 ⟨v5, rfl, rfl, hb5⟩))
      go_ret
      exact ⟨_, rfl, by rw [hc.out]; simp, bthen hb3 hb5⟩
    · have hlo : (33 : Int) ≤ n := by omega
      have hhi : decide (n ≤ (126 : Int)) = false := by simp; omega
      clear hy c1 c2 c3 c4 c5
      go_enter Tryz.func19, Tryz.ntmps19
      go_wp2_with (first
        | (go_at_call 37; (with_reducible refine (hex_any n _).mono ?_); rintro e w2 ⟨v2, rfl, hv2, hb2⟩; rw [← Hy.out] at hv2; subst hv2)
        | ((with_reducible refine g_dst 30 ?_); go_must (refine ev_lit (v := fun g => .slice (some ⟨g, 0, none⟩) 2 2) 30 rfl (cs := [valT [35, 92, 120], valT y]) (t := 9) (by go_simp; rfl) ?_); intro g3 w3 hb3 B3 hg3; replace hb3 := bthen hb2 hb3)
        | (go_at_call 22; (with_reducible refine (pieces2 [35, 92, 120] y _ _ _ (B3.rdm (l := [[35, 92, 120], y]) encT_one) (by omega) (by simp; omega)).mono ?_); rintro e w5 ⟨v5, rfl, rfl, hb5⟩))
      go_ret
      exact ⟨_, rfl, by rw [hc.out]; simp, bthen hb3 hb5⟩
end Go.Proofs.YtgeokccfobmeiaaGreatDoor
/- A text as it is written: show.text. -/
namespace Go.Proofs.YtgeokccfobmeiaaGreatDoor
open Go.RowKit Go.Proofs.YtgeokccfobmeiaaGreatDoorL Go.Proofs.YtgeokccfobmeiaaGreatDoorM
set_option linter.unusedVariables false
set_option linter.unusedSimpArgs false
/-- a byte within a written text -/
def byteN (x : Nat) : List UInt8 :=
  if x = 34 then [92, 34] else if x = 92 then [92, 92] else if x = 10 then [92, 110] else if x = 9 then [92, 116]
  else if x < 32 ∨ 126 < x then [92, 120] ++ (hex2 (x : Int) ++ [59]) else [UInt8.ofNat x]
theorem byteN_len (x : Nat) : (byteN x).length ≤ 5 := by
  unfold byteN; repeat' split
  all_goals simp [hex2]
def bytesN (l : List UInt8) : List (List UInt8) := l.map fun b => byteN b.toNat
def textL (l : List UInt8) : List UInt8 := [34] ++ ((bytesN l).flatten ++ [34])
theorem bytesN_take_succ (l : List UInt8) (k : Nat) (hk : k < l.length) : bytesN (l.take k) ++ [byteN l[k].toNat] = bytesN (l.take (k + 1)) := by
  rw [List.take_succ_eq_append_getElem hk, bytesN, bytesN, List.map_append]; rfl
theorem bytesN_len (l : List UInt8) : (bytesN l).flatten.length ≤ 5 * l.length := by
  induction l with
  | nil => simp [bytesN]
  | cons b l ih =>
    have := byteN_len b.toNat
    simp only [bytesN, List.map_cons, List.flatten_cons, List.length_append, List.length_cons] at *
    omega
set_option maxRecDepth 20000 in
theorem str_one (l : List UInt8) (k : Nat) (hk : k < l.length) (y : List UInt8) (hy : y = [UInt8.ofNat l[k].toNat]) (w : World) : (Instr.slice 9 (.string ⟨l.toArray⟩) (some (.int .i64 (k : Int))) (some (.int .i64 ((k : Int) + 1))) none).run Tryz.prog w = .ok (.string ⟨y.toArray⟩) w := by
  rw [hy]
  have := run_slice_string (P := Tryz.prog) w 9 ⟨l.toArray⟩ .i64 .i64 (k : Int) ((k : Int) + 1) Tryz.underlying9 (by omega) (by omega) (by simp [ByteArray.size]; omega)
  rw [this, Int.toNat_natCast, show ((k : Int) + 1).toNat = k + 1 by omega]
  congr 2
  apply ByteArray.ext
  rw [ByteArray.data_extract]
  apply Array.ext'
  simp
  rw [drop_cons_of_lt l k hk]; rfl
set_option maxRecDepth 100000 in
set_option maxHeartbeats 1000000 in
theorem text_any (l : List UInt8) (w : World) (hm : l.length ≤ 1099511627776) :
    Calls Tryz.prog 20 #[.string ⟨l.toArray⟩] w (Gives w fun v w' => v = .string ⟨(textL l).toArray⟩) := by
  go_enter Tryz.func20, Tryz.ntmps20
  go_wp2
  go_loopw [3, 4, 5, 8] (fun v u y z wr => ∃ k : Nat, ∃ bs : List (List UInt8), k ≤ l.length ∧ bs.length = k ∧ z = .int .i64 (k : Int) ∧ As (bs = bytesN (l.take k)) ∧ Below w.heap.size w wr ∧ Ow encT 1 9 w.heap.size wr v bs) (fun v u y z _ => l.length - (intOf z).toNat)
  case atStart => exact ⟨0, [], by omega, rfl, rfl, ⟨rfl⟩, Below.refl _ _, Ow.nil _ _ _ _ _⟩
  case round =>
    obtain ⟨k, bs, hk, hbl, rfl, hbs, hb, ho⟩ := hrel
    have HB := As.mk (show (bs.length + 1) * 16 ≤ 140737488355328 from by omega)
    have HM := As.mk (show bs.length + 1 ≤ maxLen from by simp only [maxLen]; omega)
    have Hbl := As.mk hbl
    clear hbl
    by_cases h : k < l.length
    · have hst := bytesN_take_succ l k h
      obtain ⟨x, hx⟩ : ∃ x, x = l[k].toNat := ⟨_, rfl⟩
      have hx2 : x < 256 := by rw [hx]; exact UInt8.toNat_lt _
      simp only [← hx] at hst
      rw [← hbs.out] at hst
      have HX := As.mk hx
      have HST := As.mk hst
      have hget : ∀ h, (ByteArray.get (⟨l.toArray⟩ : ByteArray) k h).toNat = x := fun _ => hx.symm
      have hget2 : ∀ h, ((⟨l.toArray⟩ : ByteArray)[k]'h).toNat = x := fun _ => hx.symm
      clear hx hst
      by_cases c1 : x = 34
      · have hN : As (byteN x = [92, 34]) := ⟨by rw [byteN, if_pos c1]⟩
        have b1 : ((x : Int) == 34) = true := by simp; omega
        clear c1
        go_wp2_with (first
          | ((with_reducible refine g_dst 26 ?_); go_must (refine ev_lit (v := fun g => .slice (some ⟨g, 0, none⟩) 1 1) 26 rfl (cs := [valT [92, 34]]) (t := 9) (by go_simp; rfl) ?_); intro g2 w2 hb2 B2 hg2; replace ho := ho.below hb2; have hbw2 := bthen hb hb2; clear hb2)
          | ((with_reducible refine g_dst 27 ?_); go_must (refine ev_append 27 rfl Tryz.underlying69 infoT rfl (by decide) rfl ho rfl rfl (B2.rdm (l := [[92, 34]]) encT_one) lenT oneT (fun h => by cases h) HB.out HM.out hbw2.size ?_); intro v3 w3 ho3 hg3; have hbw3 := ho.grown hbw2 hg3 (Nat.le_refl _) hbw2.size))
        go_roundw
        case rel => exact ⟨k + 1, bs ++ [[92, 34]], by omega, by rw [List.length_append, Hbl.out]; rfl, by go_num, ⟨by rw [← HST.out, hN.out]⟩, hbw3, ho3⟩
        case measure => simp [intOf]; omega
      by_cases c2 : x = 92
      · have hN : As (byteN x = [92, 92]) := ⟨by rw [byteN, if_neg c1, if_pos c2]⟩
        have b1 : ((x : Int) == 34) = false := by simp; omega
        have b2 : ((x : Int) == 92) = true := by simp; omega
        clear c2
        go_wp2_with (first
          | ((with_reducible refine g_dst 32 ?_); go_must (refine ev_lit (v := fun g => .slice (some ⟨g, 0, none⟩) 1 1) 32 rfl (cs := [valT [92, 92]]) (t := 9) (by go_simp; rfl) ?_); intro g2 w2 hb2 B2 hg2; replace ho := ho.below hb2; have hbw2 := bthen hb hb2; clear hb2)
          | ((with_reducible refine g_dst 33 ?_); go_must (refine ev_append 33 rfl Tryz.underlying69 infoT rfl (by decide) rfl ho rfl rfl (B2.rdm (l := [[92, 92]]) encT_one) lenT oneT (fun h => by cases h) HB.out HM.out hbw2.size ?_); intro v3 w3 ho3 hg3; have hbw3 := ho.grown hbw2 hg3 (Nat.le_refl _) hbw2.size))
        go_roundw
        case rel => exact ⟨k + 1, bs ++ [[92, 92]], by omega, by rw [List.length_append, Hbl.out]; rfl, by go_num, ⟨by rw [← HST.out, hN.out]⟩, hbw3, ho3⟩
        case measure => simp [intOf]; omega
      by_cases c3 : x = 10
      · have hN : As (byteN x = [92, 110]) := ⟨by rw [byteN, if_neg c1, if_neg c2, if_pos c3]⟩
        have b1 : ((x : Int) == 34) = false := by simp; omega
        have b2 : ((x : Int) == 92) = false := by simp; omega
        have b3 : ((x : Int) == 10) = true := by simp; omega
        clear c3
        go_wp2_with (first
          | ((with_reducible refine g_dst 38 ?_); go_must (refine ev_lit (v := fun g => .slice (some ⟨g, 0, none⟩) 1 1) 38 rfl (cs := [valT [92, 110]]) (t := 9) (by go_simp; rfl) ?_); intro g2 w2 hb2 B2 hg2; replace ho := ho.below hb2; have hbw2 := bthen hb hb2; clear hb2)
          | ((with_reducible refine g_dst 39 ?_); go_must (refine ev_append 39 rfl Tryz.underlying69 infoT rfl (by decide) rfl ho rfl rfl (B2.rdm (l := [[92, 110]]) encT_one) lenT oneT (fun h => by cases h) HB.out HM.out hbw2.size ?_); intro v3 w3 ho3 hg3; have hbw3 := ho.grown hbw2 hg3 (Nat.le_refl _) hbw2.size))
        go_roundw
        case rel => exact ⟨k + 1, bs ++ [[92, 110]], by omega, by rw [List.length_append, Hbl.out]; rfl, by go_num, ⟨by rw [← HST.out, hN.out]⟩, hbw3, ho3⟩
        case measure => simp [intOf]; omega
      by_cases c4 : x = 9
      · have hN : As (byteN x = [92, 116]) := ⟨by rw [byteN, if_neg c1, if_neg c2, if_neg c3, if_pos c4]⟩
        have b1 : ((x : Int) == 34) = false := by simp; omega
        have b2 : ((x : Int) == 92) = false := by simp; omega
        have b3 : ((x : Int) == 10) = false := by simp; omega
        have b4 : ((x : Int) == 9) = true := by simp; omega
        clear c4
        go_wp2_with (first
          | ((with_reducible refine g_dst 44 ?_); go_must (refine ev_lit (v := fun g => .slice (some ⟨g, 0, none⟩) 1 1) 44 rfl (cs := [valT [92, 116]]) (t := 9) (by go_simp; rfl) ?_); intro g2 w2 hb2 B2 hg2; replace ho := ho.below hb2; have hbw2 := bthen hb hb2; clear hb2)
          | ((with_reducible refine g_dst 45 ?_); go_must (refine ev_append 45 rfl Tryz.underlying69 infoT rfl (by decide) rfl ho rfl rfl (B2.rdm (l := [[92, 116]]) encT_one) lenT oneT (fun h => by cases h) HB.out HM.out hbw2.size ?_); intro v3 w3 ho3 hg3; have hbw3 := ho.grown hbw2 hg3 (Nat.le_refl _) hbw2.size))
        go_roundw
        case rel => exact ⟨k + 1, bs ++ [[92, 116]], by omega, by rw [List.length_append, Hbl.out]; rfl, by go_num, ⟨by rw [← HST.out, hN.out]⟩, hbw3, ho3⟩
        case measure => simp [intOf]; omega
      have b1 : ((x : Int) == 34) = false := by simp; omega
      have b2 : ((x : Int) == 92) = false := by simp; omega
      have b3 : ((x : Int) == 10) = false := by simp; omega
      have b4 : ((x : Int) == 9) = false := by simp; omega
      by_cases c5 : x < 32
      · have hN : As (byteN x = [92, 120] ++ (hex2 (x : Int) ++ [59])) := ⟨by rw [byteN, if_neg c1, if_neg c2, if_neg c3, if_neg c4, if_pos (by omega)]⟩
        have b5 : decide ((x : Int) < 32) = true := by simp; omega
        have hxl : (hex2 (x : Int)).length = 2 := rfl
        obtain ⟨y, hy⟩ : ∃ y, y = hex2 (x : Int) := ⟨_, rfl⟩
        rw [← hy] at hN hxl
        obtain ⟨z, hz⟩ : ∃ z, z = [92, 120] ++ (y ++ [59]) := ⟨_, rfl⟩
        have hzl := congrArg List.length hz
        simp only [List.length_append, List.length_cons, List.length_nil] at hzl
        have Hz := As.mk hz
        have Hy := As.mk hy
        rw [← hz] at hN
        clear hy hz c5
        go_wp2_with (first
          | (go_at_call 37; (with_reducible refine (hex_any (x : Int) _).mono ?_); rintro e w2 ⟨v2, rfl, hv2, hb2⟩; rw [← Hy.out] at hv2; subst hv2; replace ho := ho.below hb2; have hbw2 := bthen hb hb2; clear hb2)
          | ((with_reducible refine g_dst 57 ?_); go_must (refine ev_lit (v := fun g => .slice (some ⟨g, 0, none⟩) 3 3) 57 rfl (cs := [valT [92, 120], valT y, valT [59]]) (t := 9) (by go_simp; rfl) ?_); intro g4 w4 hb4 B4 hg4; replace ho := ho.below hb4; have hbw4 := bthen hbw2 hb4; clear hb4)
          | (go_at_call 22; (with_reducible refine (pieces3 [92, 120] y [59] _ _ _ (B4.rdm (l := [[92, 120], y, [59]]) encT_one) (by omega) (by simp; omega)).mono ?_); rintro e w5 ⟨v5, rfl, hv5, hb5⟩; rw [← Hz.out] at hv5; subst hv5; replace ho := ho.below hb5; have hbw5 := bthen hbw4 hb5; clear hb5)
          | ((with_reducible refine g_dst 59 ?_); go_must (refine ev_lit (v := fun g => .slice (some ⟨g, 0, none⟩) 1 1) 59 rfl (cs := [valT z]) (t := 9) (by go_simp; rfl) ?_); intro g6 w6 hb6 B6 hg6; replace ho := ho.below hb6; have hbw6 := bthen hbw5 hb6; clear hb6)
          | ((with_reducible refine g_dst 60 ?_); go_must (refine ev_append 60 rfl Tryz.underlying69 infoT rfl (by decide) rfl ho rfl rfl (B6.rdm (l := [z]) encT_one) lenT oneT (fun h => by cases h) HB.out HM.out hbw6.size ?_); intro v3 w3 ho3 hg3; have hbw3 := ho.grown hbw6 hg3 (Nat.le_refl _) hbw6.size))
        go_roundw
        case rel => exact ⟨k + 1, bs ++ [z], by omega, by rw [List.length_append, Hbl.out]; rfl, by go_num, ⟨by rw [← HST.out, hN.out]⟩, hbw3, ho3⟩
        case measure => simp [intOf]; omega
      by_cases c6 : 126 < x
      · have hN : As (byteN x = [92, 120] ++ (hex2 (x : Int) ++ [59])) := ⟨by rw [byteN, if_neg c1, if_neg c2, if_neg c3, if_neg c4, if_pos (by omega)]⟩
        have b6 : decide ((126 : Int) < (x : Int)) = true := by simp; omega
        have b5 : decide ((x : Int) < 32) = false := by simp; omega
        have hxl : (hex2 (x : Int)).length = 2 := rfl
        obtain ⟨y, hy⟩ : ∃ y, y = hex2 (x : Int) := ⟨_, rfl⟩
        rw [← hy] at hN hxl
        obtain ⟨z, hz⟩ : ∃ z, z = [92, 120] ++ (y ++ [59]) := ⟨_, rfl⟩
        have hzl := congrArg List.length hz
        simp only [List.length_append, List.length_cons, List.length_nil] at hzl
        have Hz := As.mk hz
        have Hy := As.mk hy
        rw [← hz] at hN
        clear hy hz c5
        go_wp2_with (first
          | (go_at_call 37; (with_reducible refine (hex_any (x : Int) _).mono ?_); rintro e w2 ⟨v2, rfl, hv2, hb2⟩; rw [← Hy.out] at hv2; subst hv2; replace ho := ho.below hb2; have hbw2 := bthen hb hb2; clear hb2)
          | ((with_reducible refine g_dst 57 ?_); go_must (refine ev_lit (v := fun g => .slice (some ⟨g, 0, none⟩) 3 3) 57 rfl (cs := [valT [92, 120], valT y, valT [59]]) (t := 9) (by go_simp; rfl) ?_); intro g4 w4 hb4 B4 hg4; replace ho := ho.below hb4; have hbw4 := bthen hbw2 hb4; clear hb4)
          | (go_at_call 22; (with_reducible refine (pieces3 [92, 120] y [59] _ _ _ (B4.rdm (l := [[92, 120], y, [59]]) encT_one) (by omega) (by simp; omega)).mono ?_); rintro e w5 ⟨v5, rfl, hv5, hb5⟩; rw [← Hz.out] at hv5; subst hv5; replace ho := ho.below hb5; have hbw5 := bthen hbw4 hb5; clear hb5)
          | ((with_reducible refine g_dst 59 ?_); go_must (refine ev_lit (v := fun g => .slice (some ⟨g, 0, none⟩) 1 1) 59 rfl (cs := [valT z]) (t := 9) (by go_simp; rfl) ?_); intro g6 w6 hb6 B6 hg6; replace ho := ho.below hb6; have hbw6 := bthen hbw5 hb6; clear hb6)
          | ((with_reducible refine g_dst 60 ?_); go_must (refine ev_append 60 rfl Tryz.underlying69 infoT rfl (by decide) rfl ho rfl rfl (B6.rdm (l := [z]) encT_one) lenT oneT (fun h => by cases h) HB.out HM.out hbw6.size ?_); intro v3 w3 ho3 hg3; have hbw3 := ho.grown hbw6 hg3 (Nat.le_refl _) hbw6.size))
        go_roundw
        case rel => exact ⟨k + 1, bs ++ [z], by omega, by rw [List.length_append, Hbl.out]; rfl, by go_num, ⟨by rw [← HST.out, hN.out]⟩, hbw3, ho3⟩
        case measure => simp [intOf]; omega
      · have hN : As (byteN x = [UInt8.ofNat x]) := ⟨by rw [byteN, if_neg c1, if_neg c2, if_neg c3, if_neg c4, if_neg (by omega)]⟩
        have b5 : decide ((x : Int) < 32) = false := by simp; omega
        have b6 : decide ((126 : Int) < (x : Int)) = false := by simp; omega
        obtain ⟨y, hy⟩ : ∃ y, y = [UInt8.ofNat x] := ⟨_, rfl⟩
        rw [← hy] at hN
        have hsl := fun w => str_one l k h y (by rw [hy, HX.out]) w
        clear hy c5 c6
        go_wp2_with (first
          | ((with_reducible refine g_dst 20 ?_); go_must (refine ev_lit (v := fun g => .slice (some ⟨g, 0, none⟩) 1 1) 20 rfl (cs := [valT y]) (t := 9) (by go_simp; rfl) ?_); intro g2 w2 hb2 B2 hg2; replace ho := ho.below hb2; have hbw2 := bthen hb hb2; clear hb2)
          | ((with_reducible refine g_dst 21 ?_); go_must (refine ev_append 21 rfl Tryz.underlying69 infoT rfl (by decide) rfl ho rfl rfl (B2.rdm (l := [y]) encT_one) lenT oneT (fun h => by cases h) HB.out HM.out hbw2.size ?_); intro v3 w3 ho3 hg3; have hbw3 := ho.grown hbw2 hg3 (Nat.le_refl _) hbw2.size))
        go_roundw
        case rel => exact ⟨k + 1, bs ++ [y], by omega, by rw [List.length_append, Hbl.out]; rfl, by go_num, ⟨by rw [← HST.out, hN.out]⟩, hbw3, ho3⟩
        case measure => simp [intOf]; omega
    · have hf : As (bs = bytesN l) := ⟨by rw [hbs.out, List.take_of_length_le (by omega)]⟩
      obtain ⟨A3, c3, rfl, h31, h32⟩ := ho.form
      have hfl := bytesN_len l
      obtain ⟨T, hT⟩ : ∃ T, T = bs.flatten := ⟨_, rfl⟩
      have hTl : T.length ≤ 5 * l.length := by rw [hT, hf.out]; exact hfl
      have hp := fun w h => pieces_any bs bs.length rfl A3 c3 w h h31 (by have := Hbl.out; omega) (by rw [← hT]; omega)
      simp only [← hT] at hp
      have HP := As.mk hp
      have HT := As.mk hT
      clear hp hT hfl
      go_wp2_with (first
        | (go_at_call 22; (with_reducible refine (HP.out _ (ho.rd lenT)).mono ?_); rintro e w4 ⟨v4, rfl, rfl, hb4⟩; replace hb4 := bthen hb hb4)
        | ((with_reducible refine g_dst 64 ?_); go_must (refine ev_lit (v := fun g => .slice (some ⟨g, 0, none⟩) 3 3) 64 rfl (cs := [valT [34], valT T, valT [34]]) (t := 9) (by go_simp; rfl) ?_); intro g5 w5 hb5 B5 hg5; replace hb5 := bthen hb4 hb5)
        | (go_at_call 22; (with_reducible refine (pieces3 [34] T [34] _ _ _ (B5.rdm (l := [[34], T, [34]]) encT_one) (by omega) (by simp; omega)).mono ?_); rintro e w6 ⟨v6, rfl, rfl, hb6⟩))
      go_ret
      exact ⟨_, rfl, by rw [textL, ← hf.out, ← HT.out]; simp, bthen hb5 hb6⟩
end Go.Proofs.YtgeokccfobmeiaaGreatDoor
/- A text as it is written: tandemref06.Text. -/
namespace Go.Proofs.YtgeokccfobmeiaaGreatDoor
open Go.RowKit Go.Proofs.YtgeokccfobmeiaaGreatDoorL Go.Proofs.YtgeokccfobmeiaaGreatDoorM
set_option linter.unusedVariables false
set_option linter.unusedSimpArgs false
theorem strCells_enc (y : List UInt8) : Lib.strCells ⟨y.toArray⟩ = (y.map UInt8.toNat).flatMap encB := by
  rw [Lib.strCells]
  induction y with
  | nil => rfl
  | cons b y ih =>
    simp only [List.map_cons, List.flatMap_cons] at *
    rw [← ih]; rfl
/-- append(bytes, text...) -/
theorem ev_append_str {P : Program} {ops : Array Oper} {Q : Exit → Act → World → Prop} {a : Act} {rest : List Oper} (N : Tmp) {s x : Operand} {t u e ty : TypeId} {ps : String} {af : Array Edge} {base : Nat} {w : World} {v : Value} {l : List Nat}
    (ht : P.underlying t = some (.slice e)) (hu : P.underlying u = some .string) (hi : (P.info? e).map (fun i => (i.zero, i.size, i.bytes)) = some (some (.int .u8 0), 1, 1)) (hs : a.eval s = v) (f : Ow encB 1 e base w v l) {y : List UInt8} (hx : a.eval x = .string ⟨y.toArray⟩)
    (hb : l.length + y.length ≤ 140737488355328) (hbase : base ≤ w.heap.size)
    (h : ∀ v' w1, Ow encB 1 e base w1 v' (l ++ y.map UInt8.toNat) → w.grownBy w1 v.ownBlock → wpList P ops Q rest (a.put (some N) v') w1) :
    wpList P ops Q ({ dst := some N, op := .call { callee := .builtin .append, args := #[s, x], argTypes := #[t, u] }, type := ty, pos := ps, after := af, guard := none } :: rest) a w := by
  obtain ⟨i0, hi0, hz0, hz1, hz2⟩ := info_parts hi
  have hsz : (ByteArray.mk y.toArray).size = y.length := by simp [ByteArray.size]
  refine Lib.wpList_append_own_string (P := P) w rfl s x t u rfl base e i0 ht hu hi0 hz0 hz1 hz2 v l.length (l.flatMap encB) hs f.own ⟨y.toArray⟩ hx (by rw [hsz]; simp only [maxLen]; omega) (by rw [hsz]; exact hb) hbase ?_
  intro v' w' hown hg _
  refine h v' w' ⟨?_⟩ hg
  rw [hsz, strCells_enc, ← List.flatMap_append] at hown
  rw [List.length_append, List.length_map]
  exact hown
theorem sB_nat (L : List UInt8) : sB (L.map UInt8.toNat) = ⟨L.toArray⟩ := by
  simp [sB, strOfNums, List.map_map, Function.comp_def]
def natsB (l : List UInt8) : List Nat := 34 :: ((bytesN l).flatten.map UInt8.toNat)
theorem natsB_take_succ (l : List UInt8) (k : Nat) (hk : k < l.length) : natsB (l.take k) ++ (byteN l[k].toNat).map UInt8.toNat = natsB (l.take (k + 1)) := by
  rw [natsB, natsB, ← bytesN_take_succ l k hk]; simp
theorem natsB_len (l : List UInt8) : (natsB l).length ≤ 5 * l.length + 1 := by
  have := bytesN_len l
  simp only [natsB, List.length_cons, List.length_map]; omega
end Go.Proofs.YtgeokccfobmeiaaGreatDoor
