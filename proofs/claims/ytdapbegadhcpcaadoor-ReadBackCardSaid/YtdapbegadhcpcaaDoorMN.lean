import Derived.Test.YtdapbegadhcpcaaDoorML
import Derived.Lib.Join
import Derived.StillTailTactics
import Derived.BigQuiet
import Derived.Laws.Strings2
/- show.pieces, hex, char; tandemref06.two, char. -/
namespace Go.Proofs.YtdapbegadhcpcaaDoor
open Go.RowKit Go.Proofs.YtdapbegadhcpcaaDoorL Go.Proofs.YtdapbegadhcpcaaDoorM
set_option linter.unusedVariables false
set_option linter.unusedSimpArgs false
theorem join_nil : ∀ l : List (List UInt8), Lib.join l [] = l.flatten
  | [] => rfl
  | [x] => by simp [Lib.join]
  | x :: y :: l => by
    have := join_nil (y :: l)
    simp only [Lib.join, List.flatten_cons, List.append_nil] at this ⊢
    first | rw [this] | simp [this]
theorem and15 (x : Int) : bits .and .i64 x 15 = x % 16 := by
  unfold bits
  have h : (BitVec.ofInt 64 x &&& BitVec.ofInt 64 15).toNat = (x % 16).toNat := by
    rw [BitVec.toNat_and, BitVec.toNat_ofInt]
    rw [show (BitVec.ofInt 64 15).toNat = 2 ^ 4 - 1 from rfl, Nat.and_two_pow_sub_one_eq_mod]
    omega
  show IntKind.i64.wrap ((BitVec.ofInt 64 x &&& BitVec.ofInt 64 15).toNat : Int) = _
  rw [h, IntKind.wrap_i64]
  omega
/-- a hexadecimal digit -/
def dig16 (a : Nat) : UInt8 := if a < 10 then UInt8.ofNat (48 + a) else UInt8.ofNat (87 + a)
/-- a number's last two hexadecimal digits -/
def hex2 (n : Int) : List UInt8 := [dig16 (n / 16 % 16).toNat, dig16 (n % 16).toNat]
def hexDigits : ByteArray := ⟨#[48, 49, 50, 51, 52, 53, 54, 55, 56, 57, 97, 98, 99, 100, 101, 102]⟩
theorem hexAt : ∀ a : Fin 16, ((hexDigits.extract a.val 16).extract 0 1) = ⟨#[dig16 a.val]⟩ := by decide +kernel
theorem hexAt2 : ∀ a : Fin 16, (hexDigits.extract a.val (a.val + 1)) = ⟨#[dig16 a.val]⟩ := by decide +kernel
theorem hexS (a : Nat) (h : a < 16) : ∃ S : ByteArray, (∀ w : World, (Instr.slice 9 (.string ⟨#[48, 49, 50, 51, 52, 53, 54, 55, 56, 57, 97, 98, 99, 100, 101, 102]⟩) (some (.int .i64 (a : Int))) none none).run Tryd.prog w = .ok (.string S) w) ∧
    (∀ w : World, (Instr.slice 9 (.string S) none (some (.int .i64 1)) none).run Tryd.prog w = .ok (.string ⟨[dig16 a].toArray⟩) w) := by
  have e := hexAt ⟨a, h⟩
  refine ⟨hexDigits.extract a 16, fun w => ?_, fun w => ?_⟩
  · have := run_slice_string_l (P := Tryd.prog) w 9 hexDigits Tryd.underlying9 .i64 (a : Int) (by omega) (by show (a : Int) ≤ 16; omega)
    rw [Int.toNat_natCast] at this
    exact this
  · have hsz : (hexDigits.extract a 16).size = 16 - a := by rw [ByteArray.size_extract]; show min 16 16 - a = 16 - a; rfl
    have := run_slice_string_h (P := Tryd.prog) w 9 (hexDigits.extract a 16) Tryd.underlying9 .i64 1 (by omega) (by rw [hsz]; omega)
    rw [show (1 : Int).toNat = 1 from rfl, e] at this
    exact this
theorem hexS2 (a : Nat) (h : a < 16) : ∀ w : World, (Instr.slice 9 (.string ⟨#[48, 49, 50, 51, 52, 53, 54, 55, 56, 57, 97, 98, 99, 100, 101, 102]⟩) (some (.int .i64 (a : Int))) (some (.int .i64 ((a : Int) + 1))) none).run Tryd.prog w = .ok (.string ⟨[dig16 a].toArray⟩) w := by
  intro w
  have e := hexAt2 ⟨a, h⟩
  have := run_slice_string (P := Tryd.prog) w 9 hexDigits .i64 .i64 (a : Int) ((a : Int) + 1) Tryd.underlying9 (by omega) (by omega) (by show (a : Int) + 1 ≤ 16; omega)
  rw [Int.toNat_natCast, show ((a : Int) + 1).toNat = a + 1 by omega, e] at this
  exact this
end Go.Proofs.YtdapbegadhcpcaaDoor
/- tandemref06.two; a character as it is written, both ways. -/
namespace Go.Proofs.YtdapbegadhcpcaaDoor
open Go.RowKit Go.Proofs.YtdapbegadhcpcaaDoorL Go.Proofs.YtdapbegadhcpcaaDoorM
set_option linter.unusedVariables false
set_option linter.unusedSimpArgs false
set_option maxRecDepth 8000 in
set_option maxHeartbeats 400000 in
theorem two_any (n : Int) (w : World) (h1 : -9223372036854775808 ≤ n) (h2 : n ≤ 9223372036854775807) :
    Calls Tryd.prog 45 #[.int .i64 n] w (Gives w fun v w' => v = .string ⟨(hex2 n).toArray⟩) := by
  obtain ⟨m, hm⟩ : ∃ m : Nat, m = (n % 256).toNat := ⟨_, rfl⟩
  obtain ⟨a, ha⟩ : ∃ a : Nat, a = m / 16 := ⟨_, rfl⟩
  obtain ⟨b, hb⟩ : ∃ b : Nat, b = m % 16 := ⟨_, rfl⟩
  have ha' : a < 16 := by omega
  have hb' : b < 16 := by omega
  have hh : As (hex2 n = [dig16 a, dig16 b]) := ⟨by rw [hex2, show (n / 16 % 16).toNat = a by omega, show (n % 16).toNat = b by omega]⟩
  obtain ⟨t, ht⟩ : ∃ t : Int, t = n.tmod 256 := ⟨_, rfl⟩
  have htm : t = (m : Int) ∨ (t < 0 ∧ t + 256 = (m : Int)) := by
    rw [ht, Int.tmod_eq_emod]
    split <;> omega
  have e1 : ((m : Int).tdiv 16) = (a : Int) := by rw [Int.tdiv_eq_ediv_of_nonneg (by omega)]; omega
  have e2 : ((m : Int).tmod 16) = (b : Int) := by rw [Int.tmod_eq_emod_of_nonneg (by omega)]; omega
  have e1' : ((m : Int) / 16) = (a : Int) := by omega
  have e2' : ((m : Int) % 16) = (b : Int) := by omega
  have e3 : IntKind.i64.wrap (a : Int) = (a : Int) := IntWalk.i64_in _ (by omega)
  have e4 : IntKind.i64.wrap (b : Int) = (b : Int) := IntWalk.i64_in _ (by omega)
  have e5 : IntKind.i64.wrap ((a : Int) + 1) = (a : Int) + 1 := IntWalk.i64_in _ (by omega)
  have e6 : IntKind.i64.wrap ((b : Int) + 1) = (b : Int) + 1 := IntWalk.i64_in _ (by omega)
  have sa := hexS2 a ha'
  have sb := hexS2 b hb'
  obtain ⟨x, hx⟩ : ∃ x, x = [dig16 a] := ⟨_, rfl⟩
  obtain ⟨y, hy⟩ : ∃ y, y = [dig16 b] := ⟨_, rfl⟩
  simp only [← hx] at sa
  simp only [← hy] at sb
  have hf : As (x ++ y = hex2 n) := ⟨by rw [hh.out, hx, hy]; rfl⟩
  have hadd : ∀ w : World, (Op.stringOp .add ⟨x.toArray⟩ ⟨y.toArray⟩).run Tryd.prog w = .ok (.string ⟨(x ++ y).toArray⟩) w := fun w => run_add_lists w x y (by rw [hx, hy]; simp)
  have hm2 : m < 256 := by omega
  have Ht := As.mk ht
  have et : n.tmod 256 = t := ht.symm
  have ew : IntKind.i64.wrap t = t := IntWalk.i64_in _ (by omega)
  clear hx hy ha hb hm ht
  rcases htm with rfl | ⟨htn, hts⟩
  · go_enter Tryd.func45, Tryd.ntmps45
    go_wp2
    go_still_tail 13, (by kernel_rfl)
    change wpList _ _ _ _ _ w.drew
    have hbd := (Below.refl w.heap.size w).drew
    generalize w.drew = w2 at hbd ⊢
    go_wp2
    go_ret
    exact ⟨_, rfl, by rw [← hf.out]; rfl, hbd⟩
  · have ew2 : IntKind.i64.wrap (t + 256) = (m : Int) := by rw [hts]; exact IntWalk.i64_in _ (by omega)
    go_enter Tryd.func45, Tryd.ntmps45
    go_wp2
    go_still_tail 13, (by kernel_rfl)
    change wpList _ _ _ _ _ w.drew
    have hbd := (Below.refl w.heap.size w).drew
    generalize w.drew = w2 at hbd ⊢
    go_wp2
    go_ret
    exact ⟨_, rfl, by rw [← hf.out]; rfl, hbd⟩
/-- a character as it is written -/
def charL (n : Int) : List UInt8 :=
  if n = 32 then [35, 92, 115, 112, 97, 99, 101] else if n = 10 then [35, 92, 110, 101, 119, 108, 105, 110, 101] else if n = 9 then [35, 92, 116, 97, 98] else if n = 0 then [35, 92, 110, 117, 108]
  else if 33 ≤ n ∧ n ≤ 126 then [35, 92] ++ [UInt8.ofNat n.toNat] else [35, 92, 120] ++ hex2 n
theorem conv_one {w : World} {g k : Nat} (hk : k < 256) (B : Blk w g [valB8 k] 5) : (convert 60 9 (.slice (some ⟨g, 0, none⟩) 1 1)).run Tryd.prog w = .ok (.string ⟨[UInt8.ofNat k].toArray⟩) w := by
  have := conv_bytes (P := Tryd.prog) (src := 60) (dst := 9) (w := w) (cap := 1) Tryd.underlying60 Tryd.underlying5 Tryd.underlying9 (B.rdm (l := [k]) encB_one)
  simpa [sB, strOfNums] using this
set_option maxHeartbeats 400000 in
theorem rchar_any (n : Int) (w : World) (h1 : -9223372036854775808 ≤ n) (h2 : n ≤ 9223372036854775807) :
    Calls Tryd.prog 29 #[.int .i64 n] w (Gives w fun v w' => v = .string ⟨(charL n).toArray⟩) := by
  by_cases c1 : n = 32
  · subst c1
    go_enter Tryd.func29, Tryd.ntmps29
    go_wp2
    go_ret
    exact ⟨_, rfl, rfl, Below.refl _ _⟩
  by_cases c2 : n = 10
  · subst c2
    go_enter Tryd.func29, Tryd.ntmps29
    go_wp2
    go_ret
    exact ⟨_, rfl, rfl, Below.refl _ _⟩
  by_cases c3 : n = 9
  · subst c3
    go_enter Tryd.func29, Tryd.ntmps29
    go_wp2
    go_ret
    exact ⟨_, rfl, rfl, Below.refl _ _⟩
  by_cases c4 : n = 0
  · subst c4
    go_enter Tryd.func29, Tryd.ntmps29
    go_wp2
    go_ret
    exact ⟨_, rfl, rfl, Below.refl _ _⟩
  by_cases c5 : 33 ≤ n ∧ n ≤ 126
  · obtain ⟨k, rfl⟩ : ∃ k : Nat, n = k := ⟨n.toNat, by omega⟩
    have hc : As (charL (k : Int) = [35, 92] ++ [UInt8.ofNat k]) := ⟨by rw [charL, if_neg c1, if_neg c2, if_neg c3, if_neg c4, if_pos c5]; rfl⟩
    obtain ⟨y, hy⟩ : ∃ y, y = [UInt8.ofNat k] := ⟨_, rfl⟩
    rw [← hy] at hc
    have Hy := As.mk hy
    have hyl : y.length = 1 := by rw [hy]; rfl
    have hk1 : 33 ≤ k := by omega
    have hk2 : k ≤ 126 := by omega
    have b1 : ((k : Int) == 32) = false := by simp; omega
    have b2 : ((k : Int) == 10) = false := by simp; omega
    have b3 : ((k : Int) == 9) = false := by simp; omega
    have b4 : ((k : Int) == 0) = false := by simp; omega
    have hadd : ∀ w : World, (Op.stringOp .add ⟨#[35, 92]⟩ ⟨y.toArray⟩).run Tryd.prog w = .ok (.string ⟨([35, 92] ++ y).toArray⟩) w := fun w => run_add_lists w [35, 92] y (by simp; omega)
    clear hy c1 c2 c3 c4
    go_enter Tryd.func29, Tryd.ntmps29
    go_wp2_with ((with_reducible refine g_dst 20 ?_); go_must (refine ev_lit (v := fun g => .slice (some ⟨g, 0, none⟩) 1 1) 20 rfl (cs := [valB8 k]) (t := 5) (by go_simp; rfl) ?_); intro g2 w2 hb2 B2 hg2; have hcv := conv_one (by omega) B2; rw [← Hy.out] at hcv)
    go_ret
    exact ⟨_, rfl, by rw [hc.out]; simp, hb2⟩
  · have b1 : ((n : Int) == 32) = false := by simpa using c1
    have b2 : ((n : Int) == 10) = false := by simpa using c2
    have b3 : ((n : Int) == 9) = false := by simpa using c3
    have b4 : ((n : Int) == 0) = false := by simpa using c4
    have hc : As (charL n = [35, 92, 120] ++ hex2 n) := ⟨by rw [charL, if_neg c1, if_neg c2, if_neg c3, if_neg c4, if_neg c5]⟩
    obtain ⟨y, hy⟩ : ∃ y, y = hex2 n := ⟨_, rfl⟩
    rw [← hy] at hc
    have Hy := As.mk hy
    have hyl : y.length = 2 := by rw [hy]; rfl
    have hadd : ∀ w : World, (Op.stringOp .add ⟨#[35, 92, 120]⟩ ⟨y.toArray⟩).run Tryd.prog w = .ok (.string ⟨([35, 92, 120] ++ y).toArray⟩) w := fun w => run_add_lists w [35, 92, 120] y (by simp; omega)
    by_cases c6 : n < 33
    · have hlo : decide ((33 : Int) ≤ n) = false := by simp; omega
      clear hy c1 c2 c3 c4 c5
      go_enter Tryd.func29, Tryd.ntmps29
      go_wp2_with (go_at_call 45; (with_reducible refine (two_any n _ h1 h2).mono ?_); rintro e w2 ⟨v2, rfl, hv2, hb2⟩; rw [← Hy.out] at hv2; subst hv2)
      go_ret
      exact ⟨_, rfl, by rw [hc.out]; simp, hb2⟩
    · have hlo : (33 : Int) ≤ n := by omega
      have hhi : decide (n ≤ (126 : Int)) = false := by simp; omega
      clear hy c1 c2 c3 c4 c5
      go_enter Tryd.func29, Tryd.ntmps29
      go_wp2_with (go_at_call 45; (with_reducible refine (two_any n _ h1 h2).mono ?_); rintro e w2 ⟨v2, rfl, hv2, hb2⟩; rw [← Hy.out] at hv2; subst hv2)
      go_ret
      exact ⟨_, rfl, by rw [hc.out]; simp, hb2⟩
end Go.Proofs.YtdapbegadhcpcaaDoor
/- A text as it is written: show.text. -/
namespace Go.Proofs.YtdapbegadhcpcaaDoor
open Go.RowKit Go.Proofs.YtdapbegadhcpcaaDoorL Go.Proofs.YtdapbegadhcpcaaDoorM
set_option linter.unusedVariables false
set_option linter.unusedSimpArgs false
/-- a byte within a written text -/
def byteN (x : Nat) : List UInt8 :=
  if x = 34 then [92, 34] else if x = 92 then [92, 92] else if x = 10 then [92, 110] else if x = 9 then [92, 116]
  else if x < 32 ∨ 126 < x then [92, 120] ++ (hex2 (x : Int) ++ [59]) else [UInt8.ofNat x]
theorem byteN_len (x : Nat) : (byteN x).length ≤ 5 := by
  unfold byteN; repeat' split
  all_goals simp [hex2]
def bytesN (l : List UInt8) : List (List UInt8) := l.map fun b => byteN b.toNat
def textL (l : List UInt8) : List UInt8 := [34] ++ ((bytesN l).flatten ++ [34])
theorem bytesN_take_succ (l : List UInt8) (k : Nat) (hk : k < l.length) : bytesN (l.take k) ++ [byteN l[k].toNat] = bytesN (l.take (k + 1)) := by
  rw [List.take_succ_eq_append_getElem hk, bytesN, bytesN, List.map_append]; rfl
theorem bytesN_len (l : List UInt8) : (bytesN l).flatten.length ≤ 5 * l.length := by
  induction l with
  | nil => simp [bytesN]
  | cons b l ih =>
    have := byteN_len b.toNat
    simp only [bytesN, List.map_cons, List.flatten_cons, List.length_append, List.length_cons] at *
    omega
set_option maxRecDepth 20000 in
theorem str_one (l : List UInt8) (k : Nat) (hk : k < l.length) (y : List UInt8) (hy : y = [UInt8.ofNat l[k].toNat]) (w : World) : (Instr.slice 9 (.string ⟨l.toArray⟩) (some (.int .i64 (k : Int))) (some (.int .i64 ((k : Int) + 1))) none).run Tryd.prog w = .ok (.string ⟨y.toArray⟩) w := by
  rw [hy]
  have := run_slice_string (P := Tryd.prog) w 9 ⟨l.toArray⟩ .i64 .i64 (k : Int) ((k : Int) + 1) Tryd.underlying9 (by omega) (by omega) (by simp [ByteArray.size]; omega)
  rw [this, Int.toNat_natCast, show ((k : Int) + 1).toNat = k + 1 by omega]
  congr 2
  apply ByteArray.ext
  rw [ByteArray.data_extract]
  apply Array.ext'
  simp
  rw [drop_cons_of_lt l k hk]; rfl
end Go.Proofs.YtdapbegadhcpcaaDoor
/- A text as it is written: tandemref06.Text. -/
namespace Go.Proofs.YtdapbegadhcpcaaDoor
open Go.RowKit Go.Proofs.YtdapbegadhcpcaaDoorL Go.Proofs.YtdapbegadhcpcaaDoorM
set_option linter.unusedVariables false
set_option linter.unusedSimpArgs false
theorem strCells_enc (y : List UInt8) : Lib.strCells ⟨y.toArray⟩ = (y.map UInt8.toNat).flatMap encB := by
  rw [Lib.strCells]
  induction y with
  | nil => rfl
  | cons b y ih =>
    simp only [List.map_cons, List.flatMap_cons] at *
    rw [← ih]; rfl
/-- append(bytes, text...) -/
theorem ev_append_str {P : Program} {ops : Array Oper} {Q : Exit → Act → World → Prop} {a : Act} {rest : List Oper} (N : Tmp) {s x : Operand} {t u e ty : TypeId} {ps : String} {af : Array Edge} {base : Nat} {w : World} {v : Value} {l : List Nat}
    (ht : P.underlying t = some (.slice e)) (hu : P.underlying u = some .string) (hi : (P.info? e).map (fun i => (i.zero, i.size, i.bytes)) = some (some (.int .u8 0), 1, 1)) (hs : a.eval s = v) (f : Ow encB 1 e base w v l) {y : List UInt8} (hx : a.eval x = .string ⟨y.toArray⟩)
    (hb : l.length + y.length ≤ 140737488355328) (hbase : base ≤ w.heap.size)
    (h : ∀ v' w1, Ow encB 1 e base w1 v' (l ++ y.map UInt8.toNat) → w.grownBy w1 v.ownBlock → wpList P ops Q rest (a.put (some N) v') w1) :
    wpList P ops Q ({ dst := some N, op := .call { callee := .builtin .append, args := #[s, x], argTypes := #[t, u] }, type := ty, pos := ps, after := af, guard := none } :: rest) a w := by
  obtain ⟨i0, hi0, hz0, hz1, hz2⟩ := info_parts hi
  have hsz : (ByteArray.mk y.toArray).size = y.length := by simp [ByteArray.size]
  refine Lib.wpList_append_own_string (P := P) w rfl s x t u rfl base e i0 ht hu hi0 hz0 hz1 hz2 v l.length (l.flatMap encB) hs f.own ⟨y.toArray⟩ hx (by rw [hsz]; simp only [maxLen]; omega) (by rw [hsz]; exact hb) hbase ?_
  intro v' w' hown hg _
  refine h v' w' ⟨?_⟩ hg
  rw [hsz, strCells_enc, ← List.flatMap_append] at hown
  rw [List.length_append, List.length_map]
  exact hown
theorem sB_nat (L : List UInt8) : sB (L.map UInt8.toNat) = ⟨L.toArray⟩ := by
  simp [sB, strOfNums, List.map_map, Function.comp_def]
def natsB (l : List UInt8) : List Nat := 34 :: ((bytesN l).flatten.map UInt8.toNat)
theorem natsB_take_succ (l : List UInt8) (k : Nat) (hk : k < l.length) : natsB (l.take k) ++ (byteN l[k].toNat).map UInt8.toNat = natsB (l.take (k + 1)) := by
  rw [natsB, natsB, ← bytesN_take_succ l k hk]; simp
theorem natsB_len (l : List UInt8) : (natsB l).length ≤ 5 * l.length + 1 := by
  have := bytesN_len l
  simp only [natsB, List.length_cons, List.length_map]; omega
set_option maxRecDepth 100000 in
set_option maxHeartbeats 1000000 in
theorem rtext_any (l : List UInt8) (w : World) (hm : l.length ≤ 1099511627776) :
    Calls Tryd.prog 30 #[.string ⟨l.toArray⟩] w (Gives w fun v w' => v = .string ⟨(textL l).toArray⟩) := by
  go_enter Tryd.func30, Tryd.ntmps30
  go_wp2_with ((with_reducible refine g_dst 6 ?_); go_must (refine ev_lit (v := fun g => .slice (some ⟨g, 0, none⟩) 1 1) 6 rfl (cs := [valB8 34]) (t := 5) (by go_simp; rfl) ?_); intro g1 w1 hb1 B1 hg1)
  have ho1 := Blk.ow (l := [34]) (enc := encB) (f := valB8) (base := w.heap.size) B1 encB_one hg1 (by simp [maxLen]) 1 (by simp)
  go_loopw [3, 4, 5] (fun v u y wr => ∃ k : Nat, ∃ bs : List Nat, k ≤ l.length ∧ bs.length ≤ 5 * k + 1 ∧ u = .int .i64 (k : Int) ∧ As (bs = natsB (l.take k)) ∧ Below w.heap.size w wr ∧ Ow encB 1 5 w.heap.size wr v bs) (fun v u y _ => l.length - (intOf u).toNat)
  case atStart => exact ⟨0, [34], by omega, by simp, rfl, ⟨rfl⟩, hb1, ho1⟩
  case round =>
    obtain ⟨k, bs, hk, hbl, rfl, hbs, hb, ho⟩ := hrel
    have HB := As.mk (show ∀ n, n ≤ 10 → (bs.length + n) * 1 ≤ 140737488355328 from fun n hn => by omega)
    have HM := As.mk (show ∀ n, n ≤ 10 → bs.length + n ≤ maxLen from fun n hn => by simp only [maxLen]; omega)
    have Hbl := As.mk hbl
    clear hbl
    by_cases h : k < l.length
    · have hst := natsB_take_succ l k h
      have hnl := natsB_len (l.take (k + 1))
      rw [List.length_take, Nat.min_eq_left (by omega)] at hnl
      obtain ⟨x, hx⟩ : ∃ x, x = l[k].toNat := ⟨_, rfl⟩
      have hx2 : x < 256 := by rw [hx]; exact UInt8.toNat_lt _
      simp only [← hx] at hst
      rw [← hbs.out] at hst
      rw [← hst] at hnl
      have HX := As.mk hx
      have HST := As.mk hst
      have HNL := As.mk hnl
      have hget : ∀ h, (ByteArray.get (⟨l.toArray⟩ : ByteArray) k h).toNat = x := fun _ => hx.symm
      have hget2 : ∀ h, ((⟨l.toArray⟩ : ByteArray)[k]'h).toNat = x := fun _ => hx.symm
      clear hx hst hnl
      by_cases c1 : x = 34
      · have hN : As ((byteN x).map UInt8.toNat = [92, x]) := ⟨by rw [byteN, if_pos c1, c1]; rfl⟩
        have HST2 := HST.out
        have HNL2 := HNL.out
        rw [hN.out] at HST2 HNL2
        have HST3 := As.mk HST2
        have HNL3 := As.mk HNL2
        clear HST2 HNL2
        have b1 : ((x : Int) == 34) = true := by simp; omega
        clear c1
        go_wp2_with (first
          | ((with_reducible refine g_dst 29 ?_); go_must (refine ev_lit (v := fun g => .slice (some ⟨g, 0, none⟩) 2 2) 29 rfl (cs := [valB8 92, valB8 x]) (t := 5) (by go_simp; rfl) ?_); intro g2 w2 hb2 B2 hg2; replace ho := ho.below hb2; have hbw2 := bthen hb hb2; clear hb2)
          | ((with_reducible refine g_dst 30 ?_); go_must (refine ev_append 30 rfl Tryd.underlying60 infoB rfl (by decide) rfl ho rfl rfl (B2.rdm (l := [92, x]) encB_one) lenB oneB (fun h => by cases h) (HB.out _ (by omega)) (HM.out _ (by omega)) hbw2.size ?_); intro v3 w3 ho3 hg3; have hbw3 := ho.grown hbw2 hg3 (Nat.le_refl _) hbw2.size))
        go_roundw
        case rel => exact ⟨k + 1, bs ++ [92, x], by omega, HNL3.out, by go_num, ⟨HST3.out⟩, hbw3, ho3⟩
        case measure => simp [intOf]; omega
      by_cases c2 : x = 92
      · have hN : As ((byteN x).map UInt8.toNat = [92, x]) := ⟨by rw [byteN, if_neg c1, if_pos c2, c2]; rfl⟩
        have HST2 := HST.out
        have HNL2 := HNL.out
        rw [hN.out] at HST2 HNL2
        have HST3 := As.mk HST2
        have HNL3 := As.mk HNL2
        clear HST2 HNL2
        have b1 : ((x : Int) == 34) = false := by simp; omega
        have b2 : ((x : Int) == 92) = true := by simp; omega
        clear c1 c2
        go_wp2_with (first
          | ((with_reducible refine g_dst 29 ?_); go_must (refine ev_lit (v := fun g => .slice (some ⟨g, 0, none⟩) 2 2) 29 rfl (cs := [valB8 92, valB8 x]) (t := 5) (by go_simp; rfl) ?_); intro g2 w2 hb2 B2 hg2; replace ho := ho.below hb2; have hbw2 := bthen hb hb2; clear hb2)
          | ((with_reducible refine g_dst 30 ?_); go_must (refine ev_append 30 rfl Tryd.underlying60 infoB rfl (by decide) rfl ho rfl rfl (B2.rdm (l := [92, x]) encB_one) lenB oneB (fun h => by cases h) (HB.out _ (by omega)) (HM.out _ (by omega)) hbw2.size ?_); intro v3 w3 ho3 hg3; have hbw3 := ho.grown hbw2 hg3 (Nat.le_refl _) hbw2.size))
        go_roundw
        case rel => exact ⟨k + 1, bs ++ [92, x], by omega, HNL3.out, by go_num, ⟨HST3.out⟩, hbw3, ho3⟩
        case measure => simp [intOf]; omega
      have b1 : ((x : Int) == 34) = false := by simp; omega
      have b2 : ((x : Int) == 92) = false := by simp; omega
      by_cases c3 : x = 10
      · have hN : As ((byteN x).map UInt8.toNat = [92, 110]) := ⟨by rw [byteN, if_neg c1, if_neg c2, if_pos c3]; rfl⟩
        have HST2 := HST.out
        have HNL2 := HNL.out
        rw [hN.out] at HST2 HNL2
        have HST3 := As.mk HST2
        have HNL3 := As.mk HNL2
        clear HST2 HNL2
        have b3 : ((x : Int) == 10) = true := by simp; omega
        clear c1 c2 c3
        go_wp2_with (first
          | ((with_reducible refine g_dst 35 ?_); go_must (refine ev_lit (v := fun g => .slice (some ⟨g, 0, none⟩) 2 2) 35 rfl (cs := [valB8 92, valB8 110]) (t := 5) (by go_simp; rfl) ?_); intro g2 w2 hb2 B2 hg2; replace ho := ho.below hb2; have hbw2 := bthen hb hb2; clear hb2)
          | ((with_reducible refine g_dst 36 ?_); go_must (refine ev_append 36 rfl Tryd.underlying60 infoB rfl (by decide) rfl ho rfl rfl (B2.rdm (l := [92, 110]) encB_one) lenB oneB (fun h => by cases h) (HB.out _ (by omega)) (HM.out _ (by omega)) hbw2.size ?_); intro v3 w3 ho3 hg3; have hbw3 := ho.grown hbw2 hg3 (Nat.le_refl _) hbw2.size))
        go_roundw
        case rel => exact ⟨k + 1, bs ++ [92, 110], by omega, HNL3.out, by go_num, ⟨HST3.out⟩, hbw3, ho3⟩
        case measure => simp [intOf]; omega
      have b3 : ((x : Int) == 10) = false := by simp; omega
      by_cases c4 : x = 9
      · have hN : As ((byteN x).map UInt8.toNat = [92, 116]) := ⟨by rw [byteN, if_neg c1, if_neg c2, if_neg c3, if_pos c4]; rfl⟩
        have HST2 := HST.out
        have HNL2 := HNL.out
        rw [hN.out] at HST2 HNL2
        have HST3 := As.mk HST2
        have HNL3 := As.mk HNL2
        clear HST2 HNL2
        have b4 : ((x : Int) == 9) = true := by simp; omega
        clear c1 c2 c3 c4
        go_wp2_with (first
          | ((with_reducible refine g_dst 41 ?_); go_must (refine ev_lit (v := fun g => .slice (some ⟨g, 0, none⟩) 2 2) 41 rfl (cs := [valB8 92, valB8 116]) (t := 5) (by go_simp; rfl) ?_); intro g2 w2 hb2 B2 hg2; replace ho := ho.below hb2; have hbw2 := bthen hb hb2; clear hb2)
          | ((with_reducible refine g_dst 42 ?_); go_must (refine ev_append 42 rfl Tryd.underlying60 infoB rfl (by decide) rfl ho rfl rfl (B2.rdm (l := [92, 116]) encB_one) lenB oneB (fun h => by cases h) (HB.out _ (by omega)) (HM.out _ (by omega)) hbw2.size ?_); intro v3 w3 ho3 hg3; have hbw3 := ho.grown hbw2 hg3 (Nat.le_refl _) hbw2.size))
        go_roundw
        case rel => exact ⟨k + 1, bs ++ [92, 116], by omega, HNL3.out, by go_num, ⟨HST3.out⟩, hbw3, ho3⟩
        case measure => simp [intOf]; omega
      have b4 : ((x : Int) == 9) = false := by simp; omega
      by_cases c5 : x < 32
      · have hN : As ((byteN x).map UInt8.toNat = [92, 120] ++ ((hex2 (x : Int)).map UInt8.toNat ++ [59])) := ⟨by rw [byteN, if_neg c1, if_neg c2, if_neg c3, if_neg c4, if_pos (by omega)]; simp⟩
        have b5 : decide ((x : Int) < 32) = true := by simp; omega
        have hxl : (hex2 (x : Int)).length = 2 := rfl
        obtain ⟨y, hy⟩ : ∃ y, y = hex2 (x : Int) := ⟨_, rfl⟩
        rw [← hy] at hN hxl
        have Hy := As.mk hy
        clear hy c1 c2 c3 c4 c5
        have HST2 := HST.out
        have HNL2 := HNL.out
        rw [hN.out] at HST2 HNL2
        have HST3 := As.mk HST2
        have HNL3 := As.mk HNL2
        clear HST2 HNL2
        go_wp2_with (first
          | ((with_reducible refine g_dst 51 ?_); go_must (refine ev_lit (v := fun g => .slice (some ⟨g, 0, none⟩) 2 2) 51 rfl (cs := [valB8 92, valB8 120]) (t := 5) (by go_simp; rfl) ?_); intro g2 w2 hb2 B2 hg2; replace ho := ho.below hb2; have hbw2 := bthen hb hb2; clear hb2)
          | ((with_reducible refine g_dst 52 ?_); go_must (refine ev_append 52 rfl Tryd.underlying60 infoB rfl (by decide) rfl ho rfl rfl (B2.rdm (l := [92, 120]) encB_one) lenB oneB (fun h => by cases h) (HB.out _ (by omega)) (HM.out _ (by omega)) hbw2.size ?_); intro v3 w3 ho3 hg3; have hbw3 := ho.grown hbw2 hg3 (Nat.le_refl _) hbw2.size)
          | (go_at_call 45; (with_reducible refine (two_any (x : Int) _ (by omega) (by omega)).mono ?_); rintro e w4 ⟨v4, rfl, hv4, hb4⟩; rw [← Hy.out] at hv4; subst hv4; replace ho3 := ho3.below hb4; have hbw4 := bthen hbw3 hb4; clear hb4)
          | ((with_reducible refine g_dst 57 ?_); go_must (refine ev_append_str 57 Tryd.underlying60 Tryd.underlying9 infoB rfl ho3 (y := y) rfl (by have := HB.out 4 (by omega); simp; omega) hbw4.size ?_); intro v5 w5 ho5 hg5; have hbw5 := ho3.grown hbw4 hg5 (Nat.le_refl _) hbw4.size)
          | ((with_reducible refine g_dst 59 ?_); go_must (refine ev_lit (v := fun g => .slice (some ⟨g, 0, none⟩) 1 1) 59 rfl (cs := [valB8 59]) (t := 5) (by go_simp; rfl) ?_); intro g6 w6 hb6 B6 hg6; replace ho5 := ho5.below hb6; have hbw6 := bthen hbw5 hb6; clear hb6)
          | ((with_reducible refine g_dst 60 ?_); go_must (refine ev_append 60 rfl Tryd.underlying60 infoB rfl (by decide) rfl ho5 rfl rfl (B6.rdm (l := [59]) encB_one) lenB oneB (fun h => by cases h) (by have := HB.out 5 (by omega); simp; omega) (by have := HM.out 5 (by omega); simp; omega) hbw6.size ?_); intro v7 w7 ho7 hg7; have hbw7 := ho5.grown hbw6 hg7 (Nat.le_refl _) hbw6.size))
        go_roundw
        case rel => exact ⟨k + 1, bs ++ ([92, 120] ++ (y.map UInt8.toNat ++ [59])), by omega, HNL3.out, by go_num, ⟨HST3.out⟩, hbw7, by simpa [List.append_assoc] using ho7⟩
        case measure => simp [intOf]; omega
      by_cases c6 : 126 < x
      · have hN : As ((byteN x).map UInt8.toNat = [92, 120] ++ ((hex2 (x : Int)).map UInt8.toNat ++ [59])) := ⟨by rw [byteN, if_neg c1, if_neg c2, if_neg c3, if_neg c4, if_pos (by omega)]; simp⟩
        have b5 : decide ((x : Int) < 32) = false := by simp; omega
        have b6 : decide ((127 : Int) ≤ (x : Int)) = true := by simp; omega
        have hxl : (hex2 (x : Int)).length = 2 := rfl
        obtain ⟨y, hy⟩ : ∃ y, y = hex2 (x : Int) := ⟨_, rfl⟩
        rw [← hy] at hN hxl
        have Hy := As.mk hy
        clear hy c1 c2 c3 c4 c5
        have HST2 := HST.out
        have HNL2 := HNL.out
        rw [hN.out] at HST2 HNL2
        have HST3 := As.mk HST2
        have HNL3 := As.mk HNL2
        clear HST2 HNL2
        go_wp2_with (first
          | ((with_reducible refine g_dst 51 ?_); go_must (refine ev_lit (v := fun g => .slice (some ⟨g, 0, none⟩) 2 2) 51 rfl (cs := [valB8 92, valB8 120]) (t := 5) (by go_simp; rfl) ?_); intro g2 w2 hb2 B2 hg2; replace ho := ho.below hb2; have hbw2 := bthen hb hb2; clear hb2)
          | ((with_reducible refine g_dst 52 ?_); go_must (refine ev_append 52 rfl Tryd.underlying60 infoB rfl (by decide) rfl ho rfl rfl (B2.rdm (l := [92, 120]) encB_one) lenB oneB (fun h => by cases h) (HB.out _ (by omega)) (HM.out _ (by omega)) hbw2.size ?_); intro v3 w3 ho3 hg3; have hbw3 := ho.grown hbw2 hg3 (Nat.le_refl _) hbw2.size)
          | (go_at_call 45; (with_reducible refine (two_any (x : Int) _ (by omega) (by omega)).mono ?_); rintro e w4 ⟨v4, rfl, hv4, hb4⟩; rw [← Hy.out] at hv4; subst hv4; replace ho3 := ho3.below hb4; have hbw4 := bthen hbw3 hb4; clear hb4)
          | ((with_reducible refine g_dst 57 ?_); go_must (refine ev_append_str 57 Tryd.underlying60 Tryd.underlying9 infoB rfl ho3 (y := y) rfl (by have := HB.out 4 (by omega); simp; omega) hbw4.size ?_); intro v5 w5 ho5 hg5; have hbw5 := ho3.grown hbw4 hg5 (Nat.le_refl _) hbw4.size)
          | ((with_reducible refine g_dst 59 ?_); go_must (refine ev_lit (v := fun g => .slice (some ⟨g, 0, none⟩) 1 1) 59 rfl (cs := [valB8 59]) (t := 5) (by go_simp; rfl) ?_); intro g6 w6 hb6 B6 hg6; replace ho5 := ho5.below hb6; have hbw6 := bthen hbw5 hb6; clear hb6)
          | ((with_reducible refine g_dst 60 ?_); go_must (refine ev_append 60 rfl Tryd.underlying60 infoB rfl (by decide) rfl ho5 rfl rfl (B6.rdm (l := [59]) encB_one) lenB oneB (fun h => by cases h) (by have := HB.out 5 (by omega); simp; omega) (by have := HM.out 5 (by omega); simp; omega) hbw6.size ?_); intro v7 w7 ho7 hg7; have hbw7 := ho5.grown hbw6 hg7 (Nat.le_refl _) hbw6.size))
        go_roundw
        case rel => exact ⟨k + 1, bs ++ ([92, 120] ++ (y.map UInt8.toNat ++ [59])), by omega, HNL3.out, by go_num, ⟨HST3.out⟩, hbw7, by simpa [List.append_assoc] using ho7⟩
        case measure => simp [intOf]; omega
      · have hN : As ((byteN x).map UInt8.toNat = [x]) := ⟨by rw [byteN, if_neg c1, if_neg c2, if_neg c3, if_neg c4, if_neg (by omega)]; simp; omega⟩
        have b5 : decide ((x : Int) < 32) = false := by simp; omega
        have b6 : decide ((127 : Int) ≤ (x : Int)) = false := by simp; omega
        clear c1 c2 c3 c4 c5 c6
        have HST2 := HST.out
        have HNL2 := HNL.out
        rw [hN.out] at HST2 HNL2
        have HST3 := As.mk HST2
        have HNL3 := As.mk HNL2
        clear HST2 HNL2
        go_wp2_with (first
          | ((with_reducible refine g_dst 18 ?_); go_must (refine ev_lit (v := fun g => .slice (some ⟨g, 0, none⟩) 1 1) 18 rfl (cs := [valB8 x]) (t := 5) (by go_simp; rfl) ?_); intro g2 w2 hb2 B2 hg2; replace ho := ho.below hb2; have hbw2 := bthen hb hb2; clear hb2)
          | ((with_reducible refine g_dst 19 ?_); go_must (refine ev_append 19 rfl Tryd.underlying60 infoB rfl (by decide) rfl ho rfl rfl (B2.rdm (l := [x]) encB_one) lenB oneB (fun h => by cases h) (HB.out _ (by omega)) (HM.out _ (by omega)) hbw2.size ?_); intro v3 w3 ho3 hg3; have hbw3 := ho.grown hbw2 hg3 (Nat.le_refl _) hbw2.size))
        go_roundw
        case rel => exact ⟨k + 1, bs ++ [x], by omega, HNL3.out, by go_num, ⟨HST3.out⟩, hbw3, ho3⟩
        case measure => simp [intOf]; omega
    · have hf : As (bs = natsB l) := ⟨by rw [hbs.out, List.take_of_length_le (by omega)]⟩
      obtain ⟨T, hT⟩ : ∃ T, T = bs ++ [34] := ⟨_, rfl⟩
      have hTt : As (sB T = ⟨(textL l).toArray⟩) := ⟨by
        rw [hT, hf.out, ← sB_nat]
        congr 1
        simp [natsB, textL]⟩
      have HT := As.mk hT
      have hTl : T.length = bs.length + 1 := by rw [hT]; simp
      have HTl := As.mk hTl
      clear hT hTl
      go_wp2_with (first
        | ((with_reducible refine g_dst 62 ?_); go_must (refine ev_lit (v := fun g => .slice (some ⟨g, 0, none⟩) 1 1) 62 rfl (cs := [valB8 34]) (t := 5) (by go_simp; rfl) ?_); intro g2 w2 hb2 B2 hg2; replace ho := ho.below hb2; have hbw2 := bthen hb hb2; clear hb2)
        | ((with_reducible refine g_dst 63 ?_); go_must (refine ev_append 63 rfl Tryd.underlying60 infoB rfl (by decide) rfl ho rfl rfl (B2.rdm (l := [34]) encB_one) lenB oneB (fun h => by cases h) (HB.out _ (by omega)) (HM.out _ (by omega)) hbw2.size ?_); intro v3 w3 ho3 hg3; have hbw3 := ho.grown hbw2 hg3 (Nat.le_refl _) hbw2.size; rw [← HT.out] at ho3; obtain ⟨A3, c3, rfl, h31, h32⟩ := ho3.form; obtain ⟨b3, o3, rfl⟩ := (ho3.rd lenB).get (List.ne_nil_of_length_pos (by have := HTl.out; omega)); have hcv := conv_bytes (P := Tryd.prog) (src := 60) (dst := 9) (w := w3) (cap := c3) Tryd.underlying60 Tryd.underlying5 Tryd.underlying9 (ho3.rd lenB); rw [hTt.out] at hcv))
      go_ret
      exact ⟨_, rfl, rfl, hbw3⟩
end Go.Proofs.YtdapbegadhcpcaaDoor
