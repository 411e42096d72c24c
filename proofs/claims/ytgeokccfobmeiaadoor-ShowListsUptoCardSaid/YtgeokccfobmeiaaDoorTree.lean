/- Data: a tree with its places in memory; its text. -/
import Derived.Test.YtgeokccfobmeiaaDoorShow4
namespace Go.Proofs.YtgeokccfobmeiaaDoor
open Go.RowKit Go.Proofs.YtgeokccfobmeiaaDoorL Go.Proofs.YtgeokccfobmeiaaDoorM
set_option linter.unusedVariables false
set_option linter.unusedSimpArgs false
/-- a datum, and where its lists lie -/
inductive LD where
  | mk (kind n : Int) (neg : Bool) (A : Option Addr) (c : Nat) (mag : List Nat) (text : List UInt8) (Ai : Option Addr) (ci : Nat) (items : List LD) (Ar : Option Addr) (cr : Nat) (rest : List LD)
/-- its cells -/
def encD : LD → List Value
  | .mk kind n neg A c mag text Ai ci items Ar cr rest => [.int .i64 kind, .int .i64 n, .bool neg, .slice A mag.length c, .string ⟨text.toArray⟩, .slice Ai items.length ci, .slice Ar rest.length cr]
theorem lenD : ∀ x, (encD x).length = 7 := fun x => by cases x; rfl
theorem oneD : ∀ x, ∀ u ∈ encD x, u.oneCell' = true := fun x => by cases x; simp [encD, Value.oneCell']
mutual
/-- the text of a datum: written, or shown -/
def showL : Bool → LD → List UInt8
  | wr, .mk kind n neg _ _ mag text _ _ items _ _ rest =>
    if kind = 1 then numT neg (valB 4294967296 mag)
    else if kind = 2 then (if n = 1 then [35, 116] else [35, 102])
    else if kind = 3 then (if wr then charL n else [UInt8.ofNat (n % 256).toNat])
    else if kind = 4 then (if wr then textL text else text)
    else if kind = 5 then text
    else if kind = 6 then
      (if rest.length = 0 then [40] ++ (Lib.join (showAll wr items) [32] ++ [41])
       else if items.length = 0 then (showAll wr rest).headD []
       else [40] ++ (Lib.join (showAll wr items) [32] ++ ([32, 46, 32] ++ ((showAll wr rest).headD [] ++ [41]))))
    else if kind = 7 then [35, 40] ++ (Lib.join (showAll wr items) [32] ++ [41])
    else if kind = 9 then [35, 60, 112, 114, 111, 99, 101, 100, 117, 114, 101, 62]
    else if kind = 10 then ([35, 60, 99, 111, 110, 100, 105, 116, 105, 111, 110, 32] ++ text) ++ (((showAll true items).map fun x => 32 :: x).flatten ++ [62])
    else [35, 60, 118, 111, 105, 100, 62]
def showAll : Bool → List LD → List (List UInt8)
  | _, [] => []
  | wr, x :: l => showL wr x :: showAll wr l
end
theorem showAll_map (wr : Bool) : ∀ l, showAll wr l = l.map (showL wr)
  | [] => by simp [showAll]
  | x :: l => by rw [showAll, showAll_map wr l]; rfl
mutual
/-- how great it is -/
def wtD : LD → Nat
  | .mk _ _ _ _ _ mag text _ _ items _ _ rest => 1 + mag.length + text.length + wtAll items + wtAll rest
def wtAll : List LD → Nat
  | [] => 0
  | x :: l => wtD x + wtAll l
end
theorem wt_mem {x : LD} : ∀ {l : List LD}, x ∈ l → wtD x ≤ wtAll l
  | y :: l, h => by
    rw [wtAll]
    rcases List.mem_cons.1 h with rfl | h
    · omega
    · have := wt_mem h; omega
theorem wtD_pos (x : LD) : 1 ≤ wtD x := by cases x; rw [wtD]; omega
theorem wt_len : ∀ l : List LD, l.length ≤ wtAll l
  | [] => by simp
  | x :: l => by
    have := wt_len l
    have := wtD_pos x
    rw [wtAll, List.length_cons]; omega
/-- a datum lies as it should -/
inductive Good (w : World) : LD → Prop
  | mk {kind n : Int} {neg : Bool} {A : Option Addr} {c : Nat} {mag : List Nat} {text : List UInt8} {Ai : Option Addr} {ci : Nat} {items : List LD} {Ar : Option Addr} {cr : Nat} {rest : List LD}
    (hn1 : -9223372036854775808 ≤ n) (hn2 : n ≤ 9223372036854775807) (lim : Lim w A c mag)
    (ri : Rd encD 7 w Ai items) (li : items.length ≤ ci) (ni : Ai = none → ci = 0) (rr : Rd encD 7 w Ar rest) (lr : rest.length ≤ cr) (nr : Ar = none → cr = 0)
    (gi : ∀ x ∈ items, Good w x) (gr : ∀ x ∈ rest, Good w x) : Good w (.mk kind n neg A c mag text Ai ci items Ar cr rest)
theorem Good.to {w w1 : World} {x : LD} (h : Good w x) (hb : Below w.heap.size w w1) : Good w1 x := by
  induction h with
  | mk hn1 hn2 lim ri li ni rr lr nr gi gr ihi ihr => exact Good.mk hn1 hn2 (lim.below hb) (ri.below hb) li ni (rr.below hb) lr nr ihi ihr
theorem tail_len (sep : List UInt8) : ∀ r : List (List UInt8), (Lib.joinTail sep r).length = r.flatten.length + sep.length * r.length
  | [] => by simp [Lib.joinTail]
  | x :: r => by
    have := tail_len sep r
    simp only [Lib.joinTail, List.map_cons, List.flatten_cons, List.length_append, List.length_cons] at *
    rw [Nat.mul_add, Nat.mul_one]
    omega
theorem join_len (sep : List UInt8) (l : List (List UInt8)) : (Lib.join l sep).length ≤ l.flatten.length + sep.length * l.length := by
  cases l with
  | nil => simp [Lib.join_nil]
  | cons x r =>
    rw [Lib.join_cons, List.length_append, tail_len, List.flatten_cons, List.length_append, List.length_cons, Nat.mul_add, Nat.mul_one]
    omega
theorem numT_len (neg : Bool) (l : List Nat) (h : ∀ x ∈ l, x < 4294967296) : (numT neg (valB 4294967296 l)).length ≤ 18 * l.length + 2 := by
  have h1 : (Lib.decDigits (valB 4294967296 l)).length ≤ 18 * l.length + 1 := by
    rcases Nat.eq_zero_or_pos (valB 4294967296 l) with h0 | h0
    · rw [h0, Lib.decDigits_one (by omega)]; simp
    · rw [← joinL_dec _ h0]
      refine Nat.le_trans (joinL_len _ (fun x hx => ?_)) ?_
      · obtain ⟨r, hr, rfl⟩ := List.mem_map.1 hx
        exact dec_len9 r (digB_lt 1000000000 (by omega) _ r hr)
      · rw [List.length_map]
        have := dig9_len l h
        omega
  rw [numT]
  split
  · simp; omega
  · omega
theorem charL_len (n : Int) : (charL n).length ≤ 9 := by
  unfold charL; repeat' split
  all_goals simp [hex2]
theorem textL_len (l : List UInt8) : (textL l).length ≤ 5 * l.length + 2 := by
  have := bytesN_len l
  simp only [textL, List.length_append, List.length_singleton] at *
  omega
theorem row_len2 {l : List LD} {wr : Bool} (h : ∀ x ∈ l, (showL wr x).length + 1 ≤ 20 * wtD x) : (Lib.join (showAll wr l) [32]).length ≤ 20 * wtAll l := by
  have h1 := join_len [32] (showAll wr l)
  have h3 : (showAll wr l).length = l.length := by rw [showAll_map, List.length_map]
  have h2 : (showAll wr l).flatten.length + l.length ≤ 20 * wtAll l := by
    clear h1 h3
    induction l with
    | nil => simp [showAll, wtAll]
    | cons x l ih =>
      have i1 := ih (fun y hy => h y (List.mem_cons_of_mem _ hy))
      have i2 := h x (List.mem_cons_self ..)
      simp only [showAll, wtAll, List.flatten_cons, List.length_append, List.length_cons]
      omega
  simp only [List.length_singleton, Nat.one_mul] at h1
  omega
theorem head_len {l : List LD} {wr : Bool} (h : ∀ x ∈ l, (showL wr x).length + 1 ≤ 20 * wtD x) : ((showAll wr l).headD []).length ≤ 20 * wtAll l := by
  cases l with
  | nil => simp [showAll]
  | cons x l =>
    have := h x (List.mem_cons_self ..)
    simp only [showAll, List.headD_cons, wtAll]
    omega
theorem conds_len {l : List LD} (h : ∀ x ∈ l, (showL true x).length + 1 ≤ 20 * wtD x) : ((showAll true l).map fun x => 32 :: x).flatten.length ≤ 20 * wtAll l := by
  induction l with
  | nil => simp [showAll, wtAll]
  | cons x l ih =>
    have i1 := ih (fun y hy => h y (List.mem_cons_of_mem _ hy))
    have i2 := h x (List.mem_cons_self ..)
    simp only [showAll, wtAll, List.map_cons, List.flatten_cons, List.length_append, List.length_cons]
    omega
/-- a text is at most so long -/
theorem show_len {w : World} {x : LD} (h : Good w x) : ∀ wr, (showL wr x).length + 1 ≤ 20 * wtD x := by
  induction h with
  | @mk kind n neg A c mag text Ai ci items Ar cr rest hn1 hn2 lim ri li ni rr lr nr gi gr ihi ihr =>
    intro wr
    have a1 := row_len2 (l := items) (wr := wr) (fun x hx => ihi x hx wr)
    have a2 := head_len (l := rest) (wr := wr) (fun x hx => ihr x hx wr)
    have a3 := conds_len (l := items) (fun x hx => ihi x hx true)
    have a4 := numT_len neg mag lim.lt
    have a5 := charL_len n
    have a6 := textL_len text
    rw [showL, wtD]
    repeat' split
    all_goals ((try simp only [List.length_append, List.length_cons, List.length_nil]); omega)
end Go.Proofs.YtgeokccfobmeiaaDoor
