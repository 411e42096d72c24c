/- show.pieces, hex, char; tandemref06.two, char. -/
import Derived.Test.YtgeokccfobmeiaaDoorNum2
import Derived.StillTailTactics
import Derived.BigQuiet
import Derived.Laws.Strings2
namespace Go.Proofs.YtgeokccfobmeiaaDoor
open Go.RowKit Go.Proofs.YtgeokccfobmeiaaDoorL Go.Proofs.YtgeokccfobmeiaaDoorM
set_option linter.unusedVariables false
set_option linter.unusedSimpArgs false
theorem join_nil : ∀ l : List (List UInt8), Lib.join l [] = l.flatten
  | [] => rfl
  | [x] => by simp [Lib.join]
  | x :: y :: l => by
    have := join_nil (y :: l)
    simp only [Lib.join, List.flatten_cons, List.append_nil] at this ⊢
    first | rw [this] | simp [this]
theorem join_pieces (l : List (List UInt8)) (sep : List UInt8) (n : Nat) (hn : l.length = n) (A : Option Addr) (c : Nat) (w : World) (hr : Rd encT 1 w A l) (hc : n ≤ c) (hN : n ≤ 140737488355328) (hlen : (Lib.join l sep).length ≤ 140737488355328) :
    Calls Tryd.prog 30 #[.slice A n c, .string ⟨sep.toArray⟩] w (Gives w fun v w' => v = .string ⟨(Lib.join l sep).toArray⟩) := by
  subst hn
  rcases l with _ | ⟨x, l⟩
  · refine (Tryd.strings_Join_none A c _ w).mono ?_
    rintro e w' ⟨rfl, rfl⟩
    exact ⟨_, rfl, rfl, Below.refl _ _⟩
  · obtain ⟨b, off, rfl⟩ := hr.get (by simp)
    have hlt : b < w.heap.size := World.block_lt_of_cell? w _ (Rd.t hr 0 (by simp))
    have h := Tryd.strings_Join b off c ((x :: l).map fun y => (⟨y.toArray⟩ : ByteArray)) ⟨sep.toArray⟩ w (fun j y hy => by
      rw [List.getElem?_map] at hy
      cases hj : (x :: l)[j]? with
      | none => rw [hj] at hy; cases hy
      | some z =>
        rw [hj] at hy
        simp only [Option.map_some, Option.some.injEq] at hy
        subst hy
        obtain ⟨hlt, rfl⟩ := List.getElem?_eq_some_iff.1 hj
        exact Rd.t hr j hlt) hlt (by rw [List.length_map]; exact hN) (by rw [List.length_map]; exact hc) (by simpa [List.map_map, Function.comp_def] using hlen)
    rw [List.length_map] at h
    refine h.mono ?_
    rintro e w' ⟨rfl, hb⟩
    refine ⟨_, rfl, ?_, hb⟩
    simp [List.map_map, Function.comp_def]
theorem pieces_any (l : List (List UInt8)) (n : Nat) (hn : l.length = n) (A : Option Addr) (c : Nat) (w : World) (hr : Rd encT 1 w A l) (hc : n ≤ c) (hN : n ≤ 140737488355328) (hlen : l.flatten.length ≤ 140737488355328) :
    Calls Tryd.prog 20 #[.slice A n c] w (Gives w fun v w' => v = .string ⟨l.flatten.toArray⟩) := by
  have hj := fun w h => join_pieces l [] n hn A c w h hc hN (by rw [join_nil]; exact hlen)
  simp only [join_nil] at hj
  have HJ := As.mk hj
  clear hj
  go_enter Tryd.func20, Tryd.ntmps20
  go_wp2_with (go_at_call 30; refine (HJ.out _ hr).mono ?_; rintro e w2 ⟨v, rfl, rfl, hb⟩)
  go_ret
  exact ⟨_, rfl, rfl, hb⟩
theorem pieces2 (x y : List UInt8) (g c : Nat) (w : World) (hr : Rd encT 1 w (some ⟨g, 0, none⟩) [x, y]) (hc : 2 ≤ c) (hlen : x.length + y.length ≤ 140737488355328) :
    Calls Tryd.prog 20 #[.slice (some ⟨g, 0, none⟩) 2 c] w (Gives w fun v w' => v = .string ⟨(x ++ y).toArray⟩) := by
  have := pieces_any [x, y] 2 rfl _ c w hr hc (by omega) (by simpa using hlen)
  simpa using this
theorem pieces3 (x y z : List UInt8) (g c : Nat) (w : World) (hr : Rd encT 1 w (some ⟨g, 0, none⟩) [x, y, z]) (hc : 3 ≤ c) (hlen : x.length + (y.length + z.length) ≤ 140737488355328) :
    Calls Tryd.prog 20 #[.slice (some ⟨g, 0, none⟩) 3 c] w (Gives w fun v w' => v = .string ⟨(x ++ (y ++ z)).toArray⟩) := by
  have := pieces_any [x, y, z] 3 rfl _ c w hr hc (by omega) (by simpa using hlen)
  simpa using this
theorem and15 (x : Int) : bits .and .i64 x 15 = x % 16 := by
  unfold bits
  have h : (BitVec.ofInt 64 x &&& BitVec.ofInt 64 15).toNat = (x % 16).toNat := by
    rw [BitVec.toNat_and, BitVec.toNat_ofInt]
    rw [show (BitVec.ofInt 64 15).toNat = 2 ^ 4 - 1 from rfl, Nat.and_two_pow_sub_one_eq_mod]
    omega
  show IntKind.i64.wrap ((BitVec.ofInt 64 x &&& BitVec.ofInt 64 15).toNat : Int) = _
  rw [h, IntKind.wrap_i64]
  omega
/-- a hexadecimal digit -/
def dig16 (a : Nat) : UInt8 := if a < 10 then UInt8.ofNat (48 + a) else UInt8.ofNat (87 + a)
/-- a number's last two hexadecimal digits -/
def hex2 (n : Int) : List UInt8 := [dig16 (n / 16 % 16).toNat, dig16 (n % 16).toNat]
def hexDigits : ByteArray := ⟨#[48, 49, 50, 51, 52, 53, 54, 55, 56, 57, 97, 98, 99, 100, 101, 102]⟩
theorem hexAt : ∀ a : Fin 16, ((hexDigits.extract a.val 16).extract 0 1) = ⟨#[dig16 a.val]⟩ := by decide +kernel
theorem hexAt2 : ∀ a : Fin 16, (hexDigits.extract a.val (a.val + 1)) = ⟨#[dig16 a.val]⟩ := by decide +kernel
theorem hexS (a : Nat) (h : a < 16) : ∃ S : ByteArray, (∀ w : World, (Instr.slice 9 (.string ⟨#[48, 49, 50, 51, 52, 53, 54, 55, 56, 57, 97, 98, 99, 100, 101, 102]⟩) (some (.int .i64 (a : Int))) none none).run Tryd.prog w = .ok (.string S) w) ∧
    (∀ w : World, (Instr.slice 9 (.string S) none (some (.int .i64 1)) none).run Tryd.prog w = .ok (.string ⟨[dig16 a].toArray⟩) w) := by
  have e := hexAt ⟨a, h⟩
  refine ⟨hexDigits.extract a 16, fun w => ?_, fun w => ?_⟩
  · have := run_slice_string_l (P := Tryd.prog) w 9 hexDigits Tryd.underlying9 .i64 (a : Int) (by omega) (by show (a : Int) ≤ 16; omega)
    rw [Int.toNat_natCast] at this
    exact this
  · have hsz : (hexDigits.extract a 16).size = 16 - a := by rw [ByteArray.size_extract]; show min 16 16 - a = 16 - a; rfl
    have := run_slice_string_h (P := Tryd.prog) w 9 (hexDigits.extract a 16) Tryd.underlying9 .i64 1 (by omega) (by rw [hsz]; omega)
    rw [show (1 : Int).toNat = 1 from rfl, e] at this
    exact this
theorem hexS2 (a : Nat) (h : a < 16) : ∀ w : World, (Instr.slice 9 (.string ⟨#[48, 49, 50, 51, 52, 53, 54, 55, 56, 57, 97, 98, 99, 100, 101, 102]⟩) (some (.int .i64 (a : Int))) (some (.int .i64 ((a : Int) + 1))) none).run Tryd.prog w = .ok (.string ⟨[dig16 a].toArray⟩) w := by
  intro w
  have e := hexAt2 ⟨a, h⟩
  have := run_slice_string (P := Tryd.prog) w 9 hexDigits .i64 .i64 (a : Int) ((a : Int) + 1) Tryd.underlying9 (by omega) (by omega) (by show (a : Int) + 1 ≤ 16; omega)
  rw [Int.toNat_natCast, show ((a : Int) + 1).toNat = a + 1 by omega, e] at this
  exact this
set_option maxRecDepth 8000 in
set_option maxHeartbeats 400000 in
theorem hex_any (n : Int) (w : World) :
    Calls Tryd.prog 29 #[.int .i64 n] w (Gives w fun v w' => v = .string ⟨(hex2 n).toArray⟩) := by
  obtain ⟨a, ha⟩ : ∃ a : Nat, a = (n / 16 % 16).toNat := ⟨_, rfl⟩
  obtain ⟨b, hb⟩ : ∃ b : Nat, b = (n % 16).toNat := ⟨_, rfl⟩
  have e1 : bits .and .i64 (n / 16) 15 = (a : Int) := by rw [and15]; omega
  have e2 : bits .and .i64 n 15 = (b : Int) := by rw [and15]; omega
  have ha' : a < 16 := by omega
  have hb' : b < 16 := by omega
  have hh : As (hex2 n = [dig16 a, dig16 b]) := ⟨by rw [hex2, ← ha, ← hb]⟩
  obtain ⟨Sa, sa1, sa2⟩ := hexS a ha'
  obtain ⟨Sb, sb1, sb2⟩ := hexS b hb'
  clear ha hb
  obtain ⟨x, hx⟩ : ∃ x, x = [dig16 a] := ⟨_, rfl⟩
  obtain ⟨y, hy⟩ : ∃ y, y = [dig16 b] := ⟨_, rfl⟩
  simp only [← hx] at sa2
  simp only [← hy] at sb2
  have hf : As (x ++ y = hex2 n) := ⟨by rw [hh.out, hx, hy]; rfl⟩
  have hlen : As (x.length + y.length ≤ 140737488355328) := ⟨by rw [hx, hy]; simp⟩
  clear hx hy
  go_enter Tryd.func29, Tryd.ntmps29
  go_wp2
  go_still_tail 9, (by kernel_rfl)
  change wpList _ _ _ _ _ w.drew
  have hbd := (Below.refl w.heap.size w).drew
  generalize w.drew = w2 at hbd ⊢
  go_wp2_with (first
    | ((with_reducible refine g_dst 12 ?_); go_must (refine ev_lit (v := fun g => .slice (some ⟨g, 0, none⟩) 2 2) 12 rfl (cs := [valT x, valT y]) (t := 9) (by go_simp; rfl) ?_); intro g2 w3 hb3 B3 hg3; replace hb3 := bthen hbd hb3)
    | (go_at_call 20; (with_reducible refine (pieces2 x y _ _ _ (B3.rdm (l := [x, y]) encT_one) (by omega) hlen.out).mono ?_); rintro e w5 ⟨v5, rfl, rfl, hb5⟩))
  go_ret
  exact ⟨_, rfl, by rw [← hf.out]; simp, bthen hb3 hb5⟩
end Go.Proofs.YtgeokccfobmeiaaDoor
