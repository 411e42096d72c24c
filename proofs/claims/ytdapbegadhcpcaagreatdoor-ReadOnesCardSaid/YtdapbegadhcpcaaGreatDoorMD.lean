/- A part of the proof. -/
import Derived.Test.YtdapbegadhcpcaaGreatDoorMA
import Derived.Deep.AppendLies
import Derived.Test.YtdapbegadhcpcaaGreatDoorMC
import Derived.Lib.ParseIntB
import Derived.Lib.ItoaNum
import Derived.Lib.MapLaws
set_option linter.unusedVariables false
set_option linter.unusedSimpArgs false
namespace Go.Proofs.YtdapbegadhcpcaaGreatDoor
open Go.RowKit Go.Proofs.YtdapbegadhcpcaaGreatDoorL
theorem ev_append1 {α : Type} {enc : α → List Value} {sz : Nat} {e : TypeId} {base : Nat} {v : Value} {l : List α} {P : Program} {ops : Array Oper} {Q : Exit → Act → World → Prop} {a : Act} {w : World} {rest : List Oper} (N : Tmp) {s y : Operand} {t ty : TypeId} {ps : String} {af : Array Edge}
 (ht : P.underlying t = some (.slice e)) {z : Value} {bytes : Nat} (hi : (P.info? e).map (fun i => (i.zero, i.size, i.bytes)) = some (some z, sz, bytes)) (hz : z.cells.size = sz) (hsz : 0 < sz)
 (hs : a.eval s = v) (f : Ow enc sz e base w v l) (x : α) {g c : Nat} (hy : a.eval y = .slice (some ⟨g, 0, none⟩) 1 c) (B : Blk w g (enc x) e) (hen : (enc x).length = sz) (h1 : ∀ u ∈ enc x, u.oneCell' = true)
 (hb : (l.length + 1) * bytes ≤ 140737488355328) (hm : l.length + 1 ≤ maxLen) (hbase : base ≤ w.heap.size)
 (h : ∀ v' w1, Ow enc sz e base w1 v' (l ++ [x]) → w.grownBy w1 v.ownBlock → (∀ k, v'.ownBlock = some k → v.ownBlock = some k ∨ k = w.heap.size) → wpList P ops Q rest (a.put (some N) v') w1) :
 wpList P ops Q ({ dst := some N, op := .call { callee := .builtin .append, args := #[s, y], argTypes := #[t, t] }, type := ty, pos := ps, after := af, guard := none } :: rest) a w := by
 obtain ⟨i0, hi0, hz0, hz1, hz2⟩ := info_parts hi
 refine wpList_append_lies (P := P) w rfl s y t rfl base e i0 z sz bytes ht hi0 hz0 hz1 hz2 hz hsz v l.length (l.flatMap enc) hs f.own ⟨g, 0, none⟩ 1 c (enc x) hy (by rw [hen]; omega) (fun j u hu => ?_) h1 (by omega) hm hb hbase w.heap.size rfl ?_
 · rw [Addr.add_lit, B.cells]
   simpa using hu
 · intro g' cap w' hown hg hor hlt
   refine h _ w' ⟨?_⟩ hg ?_
   · rw [List.length_append, List.length_singleton, List.flatMap_append]
     simpa using hown
   · intro k hk
     simp only [Value.ownBlock, Option.some.injEq] at hk
     subst hk
     exact hor
def addrBlock : Option Addr → List Nat
 | none => []
 | some a => [a.block]
theorem Rd.keep {α : Type} {enc : α → List Value} {sz : Nat} {w w1 : World} {A : Option Addr} {l : List α} (f : Rd enc sz w A l) (h : l.length ≠ 0 → ∀ b ∈ addrBlock A, w1.heap[b]? = w.heap[b]?) : Rd enc sz w1 A l :=
 ⟨fun hn => by
   obtain ⟨b, off, rfl, hh⟩ := f.at_ hn
   have hk := h (fun e => hn (List.eq_nil_of_length_eq_zero e)) b (by simp [addrBlock])
   exact ⟨b, off, rfl, fun i x hx j v hv => (World.cell?_of_block (w := w) hk).trans (hh i x hx j v hv)⟩⟩
theorem own_block_ge {α : Type} {enc : α → List Value} {sz : Nat} {e : TypeId} {base n c : Nat} {w : World} {A : Option Addr} {l : List α} (f : Ow enc sz e base w (.slice A n c) l) : ∀ b ∈ addrBlock A, base ≤ b := by
 intro b hb
 rcases f.own.2 with ⟨h, _⟩ | ⟨g, cap, cur, h, hg, _⟩
 · simp only [Value.slice.injEq] at h
   rw [h.1] at hb; cases hb
 · simp only [Value.slice.injEq] at h
   rw [h.1] at hb
   simp only [addrBlock, List.mem_singleton] at hb
   omega
end Go.Proofs.YtdapbegadhcpcaaGreatDoor
namespace Go.Proofs.YtdapbegadhcpcaaGreatDoorL
open Go.RowKit
theorem sts {P : Program} {ops : Array Oper} {K : Act → World → Prop} {Q : Exit → Act → World → Prop} {E : Prop} {a : Act} {w w1 : World} {o : Oper}
 (hw : Region.wanted o (yielded ops a.tmps) = true) (hrun : (execOp a.eval o).run P w = .ok .skip w1) (h : K (a.put o.dst undef) w1) :
 if Region.wanted o (yielded ops a.tmps) = true then Oper.wp P o a w K Q else E := by
 rw [if_pos hw]
 unfold Oper.wp
 rw [hrun]
 exact h
theorem st_store {P : Program} {ops : Array Oper} {K : Act → World → Prop} {Q : Exit → Act → World → Prop} {E : Prop} {a : Act} {w : World} {t ty : TypeId} {x y : Operand} {ps : String} {af : Array Edge} {gd : Option (Nat × Bool)}
 (hw : Region.wanted { dst := none, op := .store t x y, type := ty, pos := ps, after := af, guard := gd } (yielded ops a.tmps) = true) {g off : Nat} (hx : a.eval x = .pointer (some ⟨g, off, none⟩)) {cs : List Value} {t' : TypeId} (f : Blk w g cs t')
 {news : List Value} (hy : (a.eval y).cells = news.toArray) {z : Option Value} {b : Nat} (hi : (P.info? t).map (fun i => (i.zero, i.size, i.bytes)) = some (z, news.length, b)) (hfit : off + news.length ≤ cs.length) (h1 : ∀ v ∈ news, v.oneCell' = true)
 (h : ∀ w1, Only g w w1 → Blk w1 g (cs.take off ++ news ++ cs.drop (off + news.length)) t' → K a w1) :
 if Region.wanted { dst := none, op := .store t x y, type := ty, pos := ps, after := af, guard := gd } (yielded ops a.tmps) = true then Oper.wp P { dst := none, op := .store t x y, type := ty, pos := ps, after := af, guard := gd } a w K Q else E := by
 have hst := run_storeCells_at P g off t' news 0 cs.toArray w f.h (by simpa using hfit) h1
 simp only [Nat.add_zero] at hst
 refine sts (w1 := w.setRow g (cs.take off ++ news ++ cs.drop (off + news.length)).toArray) hw ?_ ?_
 · cases hq : P.info? t with
   | none => rw [hq] at hi; cases hi
   | some i =>
     rw [hq] at hi
     simp only [Option.map_some, Option.some.injEq, Prod.mk.injEq] at hi
     simp only [execOp, Instr.storeAt, hx, Instr.sureAddr, storeVar, hy, sizeOf, typeInfo]
     simp [hq, hi.2.1, hst, go_sem]
 · exact h _ (only_setRow w g _) ⟨setRow_heap w g cs.toArray _ t' _ f.h⟩
theorem wp_gen {P : Program} {c : Code} {Q : Exit → Act → World → Prop} {a : Act} {w : World} (h : ∀ Q', As (Q' = Q) → c.wp P Q' a w) : c.wp P Q a w := h Q ⟨rfl⟩
theorem wp_gen2 {P : Program} {c : Code} {Q : Exit → Act → World → Prop} {a : Act} {w : World} (h : ∀ R, As (R = Q) → c.wp P (NoPanic R) a w) : c.wp P Q a w := Code.wp_mono NoPanic.imp (h Q ⟨rfl⟩)
theorem only_setCell (w : World) (g i : Nat) (v : Value) : Only g w (w.setCell ⟨g, i, none⟩ v) := by
 refine ⟨?_, ?_, ?_, ?_, fun k hk => ?_⟩ <;> first | rfl | (simp [World.setCell]) | skip
 all_goals simp [World.setCell, Array.getElem?_modify, Ne.symm hk]
theorem Only.trans {g : Nat} {w w1 w2 : World} (h : Only g w w1) (k : Only g w1 w2) : Only g w w2 := ⟨k.os.trans h.os, k.tape.trans h.tape, k.output.trans h.output, k.size.trans h.size, fun j hj => (k.block j hj).trans (h.block j hj)⟩
theorem set2_gen {w : World} {g : Nat} {a b : Value} {t : TypeId} (B : Blk w g [a, b] t) (v u : Value) : Only g w ((w.setCell ⟨g, 0, none⟩ v).setCell ⟨g, 1, none⟩ u) ∧ Blk ((w.setCell ⟨g, 0, none⟩ v).setCell ⟨g, 1, none⟩ u) g [v, u] t :=
 ⟨(only_setCell w g 0 v).trans (only_setCell _ g 1 u), (B.set 0 v).set 1 u⟩
end Go.Proofs.YtdapbegadhcpcaaGreatDoorL
namespace Go.Proofs.YtdapbegadhcpcaaGreatDoor
open Go.RowKit Go.Proofs.YtdapbegadhcpcaaGreatDoorL Go.Proofs.YtdapbegadhcpcaaGreatDoorM
structure Upg (g : Nat) (w w1 : World) : Prop where
 os : w1.os = w.os
 tape : w1.tape = w.tape
 output : w1.output = w.output
 size : w.heap.size ≤ w1.heap.size
 block : ∀ k, k < w.heap.size → k ≠ g → w1.heap[k]? = w.heap[k]?
theorem Upg.refl (g : Nat) (w : World) : Upg g w w := ⟨rfl, rfl, rfl, Nat.le_refl _, fun _ _ _ => rfl⟩
theorem Upg.trans {g : Nat} {w W w1 : World} (h : Upg g w W) (k : Upg g W w1) : Upg g w w1 :=
 ⟨k.os.trans h.os, k.tape.trans h.tape, k.output.trans h.output, Nat.le_trans h.size k.size, fun i hi hne => (k.block i (Nat.lt_of_lt_of_le hi h.size) hne).trans (h.block i hi hne)⟩
theorem Upg.of_below {g : Nat} {w w1 : World} (h : Below w.heap.size w w1) : Upg g w w1 := ⟨h.os, h.tape, h.output, h.size, fun k hk _ => h.block k hk⟩
theorem Upg.of_only {g : Nat} {w w1 : World} (h : Only g w w1) : Upg g w w1 := ⟨h.os, h.tape, h.output, Nat.le_of_eq h.size.symm, fun k _ hne => h.block k hne⟩
theorem Upg.drew {g : Nat} {w w1 : World} (h : Upg g w w1) : Upg g w w1.drew := ⟨h.os, h.tape, h.output, h.size, h.block⟩
theorem Upg.below {g B : Nat} {w w1 : World} (h : Upg g w w1) (hB : B ≤ w.heap.size) (hg : B ≤ g) : Below B w w1 := ⟨h.os, h.tape, h.output, h.size, fun k hk => h.block k (by omega) (by omega)⟩
theorem Upg.new {g : Nat} {w w0 w1 : World} (h0 : Below w.heap.size w w0) (h : Upg g w0 w1) (hg : w.heap.size ≤ g) : Below w.heap.size w w1 := h0.trans (h.below h0.size hg)
section
variable {g : Nat} {w w1 : World}
theorem blk_upg {k : Nat} {cs : List Value} {t : TypeId} (f : Blk w k cs t) (h : Upg g w w1) (hne : k ≠ g) : Blk w1 k cs t := ⟨(h.block k f.lt hne).trans f.h⟩
theorem ow_upg {α : Type} {enc : α → List Value} {sz : Nat} {e : TypeId} {base : Nat} {v : Value} {l : List α} (f : Ow enc sz e base w v l) (h : Upg g w w1) (hg : g < base) : Ow enc sz e base w1 v l := by
 obtain ⟨h1, h2⟩ := f.own
 refine ⟨h1, ?_⟩
 rcases h2 with h2 | ⟨k, cap, cur, hv, hk, hh, r⟩
 · exact .inl h2
 · exact .inr ⟨k, cap, cur, hv, hk, (h.block k (Array.getElem?_eq_some_iff.1 hh).1 (by omega)).trans hh, r⟩
end
end Go.Proofs.YtdapbegadhcpcaaGreatDoor
namespace Go.Proofs.YtdapbegadhcpcaaGreatDoorM
def isD (c : UInt8) : Bool := decide (48 ≤ c.toNat ∧ c.toNat ≤ 57)
theorem isD_of {c : UInt8} (h : isD c = true) : 48 ≤ c.toNat ∧ c.toNat ≤ 57 := by rwa [isD, decide_eq_true_iff] at h
theorem isD_not {c : UInt8} (h : isD c = false) : c.toNat < 48 ∨ 57 < c.toNat := by rw [isD, decide_eq_false_iff_not] at h; omega
def numV (a : Nat) (l : List UInt8) : Nat := l.foldl (fun a c => a * 10 + (c.toNat - 48)) a
theorem numV_nil (a : Nat) : numV a [] = a := rfl
theorem numV_cons (a : Nat) (c : UInt8) (l : List UInt8) : numV a (c :: l) = numV (a * 10 + (c.toNat - 48)) l := by rw [numV, numV, List.foldl_cons]
theorem numV_append (l m : List UInt8) (a : Nat) : numV a (l ++ m) = numV (numV a l) m := List.foldl_append
theorem numV_acc (l : List UInt8) : ∀ a : Nat, numV a l = a * 10 ^ l.length + numV 0 l := by
 induction l with
 | nil => intro a; rw [numV_nil, numV_nil, List.length_nil]; simp
 | cons c l ih =>
   intro a
   rw [numV_cons, ih, numV_cons, ih (0 * 10 + (c.toNat - 48)), List.length_cons, Nat.pow_succ, Nat.add_mul, Nat.zero_mul, Nat.zero_add, Nat.mul_assoc, Nat.mul_comm 10]
   omega
theorem numV_lt (l : List UInt8) : ∀ a : Nat, (∀ c ∈ l, isD c = true) → numV a l < (a + 1) * 10 ^ l.length := by
 induction l with
 | nil => intro a _; rw [numV_nil, List.length_nil]; simp
 | cons c l ih =>
   intro a h
   have h1 := isD_of (h c (List.mem_cons_self ..))
   have h2 := ih (a * 10 + (c.toNat - 48)) (fun x hx => h x (List.mem_cons_of_mem _ hx))
   rw [numV_cons, List.length_cons, Nat.pow_succ]
   have h3 : (a * 10 + (c.toNat - 48) + 1) * 10 ^ l.length ≤ ((a + 1) * 10) * 10 ^ l.length := Nat.mul_le_mul_right _ (by omega)
   rw [Nat.mul_assoc, Nat.mul_comm 10] at h3
   omega
theorem numV_lt0 (l : List UInt8) (h : ∀ c ∈ l, isD c = true) : numV 0 l < 10 ^ l.length := by
 have := numV_lt l 0 h
 rwa [Nat.zero_add, Nat.one_mul] at this
theorem parse_ok (M : Nat) (hM2 : M ≤ 4294967295) (l : List UInt8) : ∀ a : Nat, (∀ c ∈ l, isD c = true) → numV a l ≤ M → Lib.parseUintM M a l = .ok (numV a l) := by
 induction l with
 | nil => intro a _ _; rfl
 | cons c l ih =>
   intro a h hM
   have h1 := isD_of (h c (List.mem_cons_self ..))
   have h2 : a * 10 + (c.toNat - 48) ≤ numV (a * 10 + (c.toNat - 48)) l := by
    have := numV_acc l (a * 10 + (c.toNat - 48))
    have h3 : (a * 10 + (c.toNat - 48)) * 1 ≤ (a * 10 + (c.toNat - 48)) * 10 ^ l.length := Nat.mul_le_mul_left _ (Nat.pow_pos (by omega))
    omega
   rw [numV_cons] at hM ⊢
   rw [Lib.parseUintM, if_pos h1, if_neg (by omega), if_neg (by omega)]
   exact ih _ (fun x hx => h x (List.mem_cons_of_mem _ hx)) hM
theorem numV_snoc (l : List UInt8) (c : UInt8) (a : Nat) : numV a (l ++ [c]) = numV a l * 10 + (c.toNat - 48) := by
 rw [numV_append]; rfl
theorem rune_no_digit (s : ByteArray) (pos : Nat) (h : pos < s.size) (hd : isD (s[pos]'h) = false) : (Utf8.decode s pos).1 < 48 ∨ 57 < (Utf8.decode s pos).1 := by
 have hg : s.get! pos = s[pos]'h := by
  simp [ByteArray.get!, getElem!_pos, h]
  rfl
 have hn := isD_not hd
 rw [Lib.decode_at, hg]
 rcases Lib.decodeN_shape (s.size - pos) (s[pos]'h).toNat (s.get! (pos + 1)).toNat (s.get! (pos + 2)).toNat (s.get! (pos + 3)).toNat with ⟨_, e⟩ | ⟨_, _, _, h4, e⟩ | ⟨_, _, _, _, h4, _, e⟩ | ⟨_, _, _, _, _, h4, _, e⟩ | e
 all_goals rw [e]; simp only; omega
theorem fill_up {α : Type} (z v : α) (m : Nat) (S : List α) (k : Nat) (hk : S.length = k) : (S ++ List.replicate (m + 1) z).set k v = (S ++ [v]) ++ List.replicate m z := by
 subst hk
 rw [List.replicate_succ, List.set_append]
 simp
theorem valB_set (B : Nat) : ∀ (l : List Nat) (j v : Nat) (hj : j < l.length), valB B (l.set j v) + B ^ j * l[j] = valB B l + B ^ j * v
 | x :: l, 0, v, hj => by simp [valB]; omega
 | x :: l, j + 1, v, hj => by
   have h := valB_set B l j v (by simpa using hj)
   have h2 : B * (valB B (l.set j v) + B ^ j * l[j]'(by simpa using hj)) = B * (valB B l + B ^ j * v) := by rw [h]
   rw [Nat.mul_add, Nat.mul_add, ← Nat.mul_assoc, ← Nat.mul_assoc, Nat.mul_comm B (B ^ j), ← Nat.pow_succ] at h2
   simp only [List.set_cons_succ, valB_cons, List.getElem_cons_succ, Nat.succ_eq_add_one] at h2 ⊢
   omega
theorem set_lt {B j v : Nat} {l : List Nat} (h : ∀ x ∈ l, x < B) (hv : v < B) : ∀ x ∈ l.set j v, x < B := by
 intro x hx
 rcases List.mem_or_eq_of_mem_set hx with h1 | h1
 · exact h x h1
 · omega
theorem snoc_lt {B v : Nat} {l : List Nat} (h : ∀ x ∈ l, x < B) (hv : v < B) : ∀ x ∈ l ++ [v], x < B := by
 intro x hx
 rcases List.mem_append.1 hx with h1 | h1
 · exact h x h1
 · simp at h1; omega
theorem valB_split (B : Nat) (l : List Nat) (k : Nat) : valB B l = valB B (l.take k) + B ^ (l.take k).length * valB B (l.drop k) := by
 conv => lhs; rw [← List.take_append_drop k l]
 rw [valB_append]
theorem mul_step (B : Nat) (P : List Nat) (j v c T : Nat) (hj : j < P.length) (hT : T = c + v + P[j]) : valB B (P.set j (T % B)) + B ^ (j + 1) * (T / B) = valB B P + B ^ j * (c + v) := by
 have h1 := valB_set B P j (T % B) hj
 have h2 : B ^ j * T = B ^ j * (T % B) + B ^ (j + 1) * (T / B) := by
  rw [Nat.pow_succ, Nat.mul_assoc, ← Nat.mul_add, Nat.mod_add_div]
 have h3 : B ^ j * T = B ^ j * (c + v) + B ^ j * P[j] := by rw [hT, Nat.mul_add]
 omega
theorem carry_room (B : Nat) (hB : 0 < B) (n k c v T : Nat) (hT : T < B ^ n) (h : v + B ^ k * c = T) (hc : 0 < c) (hB1 : 1 < B) : k < n := by
 refine Nat.lt_of_not_le (fun hle => ?_)
 have h1 : B ^ n ≤ B ^ k := Nat.pow_le_pow_right hB hle
 have h2 : B ^ k * 1 ≤ B ^ k * c := Nat.mul_le_mul_left _ hc
 omega
theorem mul_lt_pow (B : Nat) (a b : List Nat) (hB : 0 < B) (ha : ∀ x ∈ a, x < B) (hb : ∀ x ∈ b, x < B) : valB B a * valB B b < B ^ (a.length + b.length) := by
 rw [Nat.pow_add]
 have h1 := valB_lt B hB a ha
 have h2 := valB_lt B hB b hb
 exact Nat.mul_lt_mul'' h1 h2
theorem lt_pow_len (B : Nat) (hB : 1 < B) (v : Nat) : v < B ^ (digB B v).length := by
 have := valB_lt B (by omega) (digB B v) (digB_lt B hB v)
 rwa [digB_val B hB] at this
def sval (neg : Bool) (v : Nat) : Int := if neg then -(v : Int) else (v : Int)
theorem sval_abs (neg : Bool) (v : Nat) : (sval neg v).natAbs = v := by cases neg <;> simp [sval]
theorem sval_lt (neg : Bool) (v : Nat) : decide (sval neg v < 0) = (neg && decide (0 < v)) := by
 cases neg
 · simp [sval]
 · rw [Bool.eq_iff_iff]; simp only [sval, if_true, decide_eq_true_eq, Bool.true_and]; omega
theorem sval_of (z : Int) : sval (decide (z < 0)) z.natAbs = z := by
 by_cases h : z < 0
 · simp [sval, h]; omega
 · simp [sval, h]; omega
end Go.Proofs.YtdapbegadhcpcaaGreatDoorM
