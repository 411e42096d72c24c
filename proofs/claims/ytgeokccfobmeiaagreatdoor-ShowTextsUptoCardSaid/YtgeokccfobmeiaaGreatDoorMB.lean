import Derived.Test.YtgeokccfobmeiaaGreatDoorMA
import Derived.Laws.BytesArg
/- tandemref01: trim, at, half, full, add, small: what they compute, in numbers. -/
namespace Go.Proofs.YtgeokccfobmeiaaGreatDoor
open Go.RowKit Go.Proofs.YtgeokccfobmeiaaGreatDoorL Go.Proofs.YtgeokccfobmeiaaGreatDoorM
set_option linter.unusedVariables false
set_option linter.unusedSimpArgs false
theorem infoI : (Tryz.prog.info? 3).map (fun i => (i.zero, i.size, i.bytes)) = some (some (.int .i64 0), 1, 8) := by kernel_rfl
def encI (x : Nat) : List Value := [.int .i64 x]
def valI (x : Nat) : Value := .int .i64 x
theorem encI_one : ∀ x, encI x = [valI x] := fun _ => rfl
theorem lenI : ∀ x, (encI x).length = 1 := fun _ => rfl
theorem oneI : ∀ x, ∀ u ∈ encI x, u.oneCell' = true := fun x => by simp [encI, Value.oneCell']
theorem Rd.i {w : World} {b off : Nat} {l : List Nat} (f : Rd encI 1 w (some ⟨b, off, none⟩) l) (i : Nat) (hi : i < l.length) : w.cell? ⟨b, off + i, none⟩ = some (.int .i64 (l[i] : Nat)) := by
  have := f.cell i hi 0 _ rfl
  simpa using this
theorem Rd.trimI {w : World} {A : Option Addr} {l : List Nat} (f : Rd encI 1 w A l) : Rd encI 1 w A (trimL l) := by
  rw [trimL_take]; exact f.take _
end Go.Proofs.YtgeokccfobmeiaaGreatDoor
/- tandemref01: full, add, Add: what they compute, in numbers. -/
namespace Go.Proofs.YtgeokccfobmeiaaGreatDoor
open Go.RowKit Go.Proofs.YtgeokccfobmeiaaGreatDoorL Go.Proofs.YtgeokccfobmeiaaGreatDoorM
set_option linter.unusedVariables false
set_option linter.unusedSimpArgs false
theorem valB_zero_of_le (B : Nat) (l : List Nat) (k : Nat) (h : l.length ≤ k) : l.take k = l := List.take_of_length_le h
end Go.Proofs.YtgeokccfobmeiaaGreatDoor
/- Sums of many lists of digits; how long they are. Plain mathematics. -/
namespace Go.Proofs.YtgeokccfobmeiaaGreatDoorM
set_option linter.unusedVariables false
set_option linter.unusedSimpArgs false
def sumV (B : Nat) : List (List Nat) → Nat
  | [] => 0
  | l :: m => valB B l + sumV B m
theorem sumV_append (B : Nat) : ∀ l m, sumV B (l ++ m) = sumV B l + sumV B m
  | [], m => by simp [sumV]
  | x :: l, m => by simp only [List.cons_append, sumV, sumV_append B l m]; omega
theorem sumV_take_succ (B : Nat) (l : List (List Nat)) (k : Nat) (hk : k < l.length) : sumV B (l.take (k + 1)) = sumV B (l.take k) + valB B l[k] := by
  rw [List.take_succ_eq_append_getElem hk, sumV_append]; simp [sumV]
theorem sumV_lt (B N : Nat) (hB : 0 < B) : ∀ L : List (List Nat), (∀ l ∈ L, (∀ x ∈ l, x < B) ∧ l.length ≤ N) → sumV B L + L.length ≤ L.length * B ^ N
  | [], _ => by simp [sumV]
  | l :: m, h => by
    have h1 := sumV_lt B N hB m (fun x hx => h x (List.mem_cons_of_mem _ hx))
    obtain ⟨h2, h3⟩ := h l (List.mem_cons_self ..)
    have h4 := valB_lt B hB l h2
    have h5 : B ^ l.length ≤ B ^ N := Nat.pow_le_pow_right hB h3
    simp only [sumV, List.length_cons, Nat.add_mul, Nat.one_mul]
    omega
/-- a sum of fewer than 2^48 numbers of at most N limbs has at most 2N + 3 half limbs -/
theorem sumV_len (N : Nat) (L : List (List Nat)) (h : ∀ l ∈ L, (∀ x ∈ l, x < 4294967296) ∧ l.length ≤ N) (hL : L.length < 281474976710656) : (digB 65536 (sumV 4294967296 L)).length ≤ 2 * N + 3 := by
  refine digB_len_lt 65536 (by omega) _ _ ?_
  have h1 := sumV_lt 4294967296 N (by omega) L h
  have h2 : (4294967296 : Nat) ^ N = 65536 ^ (2 * N) := by rw [Nat.pow_mul]
  rw [h2] at h1
  have h3 : (65536 : Nat) ^ (2 * N + 3) = 65536 ^ (2 * N) * 281474976710656 := by rw [Nat.pow_add]
  rw [h3]
  have hp : 0 < (65536 : Nat) ^ (2 * N) := Nat.pow_pos (by omega)
  have h4 : L.length * 65536 ^ (2 * N) < 281474976710656 * 65536 ^ (2 * N) := Nat.mul_lt_mul_of_pos_right hL hp
  rw [Nat.mul_comm (65536 ^ (2 * N))]
  omega
end Go.Proofs.YtgeokccfobmeiaaGreatDoorM
/- tandemref01.Add: the sum of many. -/
namespace Go.Proofs.YtgeokccfobmeiaaGreatDoor
open Go.RowKit Go.Proofs.YtgeokccfobmeiaaGreatDoorL Go.Proofs.YtgeokccfobmeiaaGreatDoorM
set_option linter.unusedVariables false
set_option linter.unusedSimpArgs false
/-- a list of limbs in memory -/
structure Sl where
  A : Option Addr
  c : Nat
  l : List Nat
def encS (s : Sl) : List Value := [.slice s.A s.l.length s.c]
def valS (s : Sl) : Value := .slice s.A s.l.length s.c
theorem encS_one : ∀ s, encS s = [valS s] := fun _ => rfl
theorem lenS : ∀ s, (encS s).length = 1 := fun _ => rfl
theorem oneS : ∀ x, ∀ u ∈ encS x, u.oneCell' = true := fun x => by simp [encS, Value.oneCell']
theorem Rd.s {w : World} {b off : Nat} {l : List Sl} (f : Rd encS 1 w (some ⟨b, off, none⟩) l) (i : Nat) (hi : i < l.length) : w.cell? ⟨b, off + i, none⟩ = some (.slice l[i].A l[i].l.length l[i].c) := by
  have := f.cell i hi 0 _ rfl
  simpa using this
/-- it reads as that list, and its numbers are limbs -/
structure Sl.Good (s : Sl) (w : World) : Prop where
  rd : Rd encU 1 w s.A s.l
  lt : ∀ x ∈ s.l, x < 4294967296
  cap : s.l.length ≤ s.c
  max : s.l.length ≤ 274877906944
  none : s.A = none → s.c = 0
theorem Sl.Good.below {s : Sl} {w w1 : World} (h : s.Good w) (hb : Below w.heap.size w w1) : s.Good w1 := ⟨h.rd.below hb, h.lt, h.cap, h.max, h.none⟩
theorem sums_len {L : List Sl} {w : World} (h : ∀ s ∈ L, s.Good w) (hL : L.length < 281474976710656) (k : Nat) : (digB 65536 (sumV 4294967296 ((L.map Sl.l).take k))).length ≤ 2 * 274877906944 + 3 := by
  refine sumV_len 274877906944 _ (fun l hl => ?_) (by rw [List.length_take, List.length_map]; omega)
  have := List.mem_of_mem_take hl
  obtain ⟨s, hs, rfl⟩ := List.mem_map.1 this
  exact ⟨(h s hs).lt, (h s hs).max⟩
theorem half_len (l : List Nat) (h : ∀ x ∈ l, x < 4294967296) (hl : l.length ≤ 274877906944) : (digB 65536 (valB 4294967296 l)).length ≤ 4398046511104 := by
  rw [← trim_halves l h]
  refine Nat.le_trans (trimL_le _) ?_
  rw [halves_len]; omega
end Go.Proofs.YtgeokccfobmeiaaGreatDoor
/- Decimal digits as a text; a list turned round by swapping. Plain mathematics. -/
namespace Go.Proofs.YtgeokccfobmeiaaGreatDoorM
set_option linter.unusedVariables false
set_option linter.unusedSimpArgs false
/-- the bytes of the decimal text -/
def decL (v : Nat) : List Nat := if v = 0 then [48] else ((digB 10 v).map (48 + ·)).reverse
theorem decL_pos {v : Nat} (h : 0 < v) : decL v = ((digB 10 v).map (48 + ·)).reverse := by rw [decL, if_neg (by omega)]
theorem pow10_le (n : Nat) : (65536 : Nat) ^ n ≤ 10 ^ (5 * n) := by
  rw [Nat.pow_mul]; exact Nat.pow_le_pow_left (by omega) n
theorem dig10_len (l : List Nat) (h : ∀ x ∈ l, x < 65536) : (digB 10 (valB 65536 l)).length ≤ 5 * l.length :=
  digB_len_lt 10 (by omega) _ _ (Nat.lt_of_lt_of_le (valB_lt 65536 (by omega) l h) (pow10_le _))
theorem digB_len_mono (B : Nat) (hB : 1 < B) (q x : Nat) (h : q ≤ x) : (digB B q).length ≤ (digB B x).length := by
  refine digB_len_lt B hB _ _ (Nat.lt_of_le_of_lt h ?_)
  have := valB_lt B (by omega) (digB B x) (digB_lt B hB x)
  rwa [digB_val B hB] at this
theorem digB_snoc_step (B x : Nat) (hB : 1 < B) (hx : 0 < x) (D ds : List Nat) (h : D = ds ++ digB B x) : D = (ds ++ [x % B]) ++ digB B (x / B) := by
  rw [h, digB_pos B x hB hx, List.append_assoc]; rfl
theorem dec_step (x : Nat) (hx : 0 < x) (E bs : List Nat) (h : E = bs ++ (digB 10 x).map (48 + ·)) : E = (bs ++ [48 + x % 10]) ++ (digB 10 (x / 10)).map (48 + ·) := by
  rw [h, digB_pos 10 x (by omega) hx, List.append_assoc]; rfl
/-- the first i and the last i are turned round -/
structure Swapped (D X : List Nat) (i : Nat) : Prop where
  len : X.length = D.length
  out : ∀ j, j < D.length → (j < i ∨ D.length ≤ j + i) → X[j]? = D[D.length - 1 - j]?
  mid : ∀ j, i ≤ j → j + i < D.length → X[j]? = D[j]?
theorem Swapped.start (D : List Nat) : Swapped D D 0 := ⟨rfl, fun j h1 h2 => by omega, fun _ _ _ => rfl⟩
theorem Swapped.done {D X : List Nat} {i : Nat} (h : Swapped D X i) (hi : D.length ≤ 2 * i + 1) : X = D.reverse := by
  apply List.ext_getElem?
  intro j
  by_cases hj : j < D.length
  · rw [List.getElem?_reverse hj]
    by_cases h1 : j < i ∨ D.length ≤ j + i
    · exact h.out j hj h1
    · rw [h.mid j (by omega) (by omega)]
      congr 1; omega
  · rw [List.getElem?_eq_none (by rw [h.len]; omega), List.getElem?_eq_none (by simp; omega)]
theorem Swapped.step {D X : List Nat} {i : Nat} (h : Swapped D X i) (hi : 2 * i + 1 < D.length) : Swapped D ((X.set i (X.getD (D.length - 1 - i) 0)).set (D.length - 1 - i) (X.getD i 0)) (i + 1) := by
  have e1 : X.getD (D.length - 1 - i) 0 = D.getD (D.length - 1 - i) 0 := by
    simp only [List.getD]; rw [h.mid _ (by omega) (by omega)]
  have e2 : X.getD i 0 = D.getD i 0 := by
    simp only [List.getD]; rw [h.mid _ (by omega) (by omega)]
  rw [e1, e2]
  refine ⟨by simp [h.len], fun j hj hc => ?_, fun j h1 h2 => ?_⟩
  · rw [List.getElem?_set, List.getElem?_set]
    by_cases c1 : D.length - 1 - i = j
    · subst c1
      rw [if_pos rfl, if_pos (by simp [h.len]; omega), show D.length - 1 - (D.length - 1 - i) = i by omega, List.getD, List.getElem?_eq_getElem (by omega)]
      rfl
    · rw [if_neg c1]
      by_cases c2 : i = j
      · subst c2
        rw [if_pos rfl, if_pos (by rw [h.len]; omega), List.getD, List.getElem?_eq_getElem (by omega)]
        rfl
      · rw [if_neg c2]
        exact h.out j hj (by omega)
  · rw [List.getElem?_set, List.getElem?_set, if_neg (by omega), if_neg (by omega)]
    exact h.mid j (by omega) (by omega)
end Go.Proofs.YtgeokccfobmeiaaGreatDoorM
/- tandemref01.Text: the decimal digits. -/
namespace Go.Proofs.YtgeokccfobmeiaaGreatDoor
open Go.RowKit Go.Proofs.YtgeokccfobmeiaaGreatDoorL Go.Proofs.YtgeokccfobmeiaaGreatDoorM
set_option linter.unusedVariables false
set_option linter.unusedSimpArgs false
theorem infoB : (Tryz.prog.info? 5).map (fun i => (i.zero, i.size, i.bytes)) = some (some (.int .u8 0), 1, 1) := by kernel_rfl
def encB (x : Nat) : List Value := [.int .u8 x]
def valB8 (x : Nat) : Value := .int .u8 x
theorem encB_one : ∀ x, encB x = [valB8 x] := fun _ => rfl
theorem lenB : ∀ x, (encB x).length = 1 := fun _ => rfl
theorem oneB : ∀ x, ∀ u ∈ encB x, u.oneCell' = true := fun x => by simp [encB, Value.oneCell']
/-- a text of bytes -/
def sB (l : List Nat) : ByteArray := strOfNums (l.map Int.ofNat)
theorem Rd.b {w : World} {b off : Nat} {l : List Nat} (f : Rd encB 1 w (some ⟨b, off, none⟩) l) (i : Nat) (hi : i < l.length) : w.cell? ⟨b, off + i, none⟩ = some (.int .u8 (l[i] : Nat)) := by
  have := f.cell i hi 0 _ rfl
  simpa using this
theorem blk_rdp {α : Type} {enc : α → List Value} {f : α → Value} {w : World} {g : Nat} {l : List α} {tl : List Value} {e : TypeId} (B : Blk w g (l.map f ++ tl) e) (hf : ∀ x, enc x = [f x]) : Rd enc 1 w (some ⟨g, 0, none⟩) l := by
  refine ⟨fun _ => ⟨g, 0, rfl, fun i x hx j v hv => ?_⟩⟩
  have hi : i < l.length := (List.getElem?_eq_some_iff.1 hx).1
  rw [hf] at hv
  have hj : j = 0 := by
    have := (List.getElem?_eq_some_iff.1 hv).1
    simp at this; exact this
  subst hj
  rw [B.cells, Nat.zero_add, Nat.mul_one, Nat.add_zero, List.getElem?_append_left (by simpa using hi), List.getElem?_map, hx]
  simpa using hv
theorem conv_bytes {P : Program} {w : World} {src dst e : TypeId} {b off cap : Nat} {l : List Nat} (hs : P.underlying src = some (.slice e)) (he : P.underlying e = some (.int .u8)) (hd : P.underlying dst = some .string) (hr : Rd encB 1 w (some ⟨b, off, none⟩) l) :
    (convert src dst (.slice (some ⟨b, off, none⟩) l.length cap)).run P w = .ok (.string (sB l)) w := by
  refine run_convert_bytes_arg w src e hs he b off l.length cap (l.map Int.ofNat) (by simp) (fun i hi => ?_) dst hd
  rw [Rd.b hr i hi]
  simp [List.getD, List.getElem?_eq_getElem hi]
theorem half_len2 (l : List Nat) (h : ∀ x ∈ l, x < 4294967296) : (digB 65536 (valB 4294967296 l)).length ≤ 2 * l.length := by
  rw [← trim_halves l h, ← halves_len]
  exact trimL_le _
end Go.Proofs.YtgeokccfobmeiaaGreatDoor
