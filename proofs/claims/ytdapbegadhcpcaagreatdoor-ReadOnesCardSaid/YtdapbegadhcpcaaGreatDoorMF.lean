/- A part of the proof. -/
import Derived.Test.YtdapbegadhcpcaaGreatDoorME
import Derived.Lib.IndexAny
import Derived.Lib.Bytealg
set_option linter.unusedVariables false
set_option linter.unusedSimpArgs false
namespace Go.Proofs.YtdapbegadhcpcaaGreatDoorM
section
variable {s p u : List UInt8}
theorem gp (k : Nat) : (p ++ u)[p.length + k]? = u[k]? := by
 rw [List.getElem?_append_right (by omega), show p.length + k - p.length = k by omega]
theorem gp0 : (p ++ u)[p.length]? = u[0]? := gp 0
theorem tokEnd_at {i : Nat} {c : UInt8} (h : s[i]? = some c) (hc : isDl c = true) : tokEnd s i = i := by
 obtain ⟨hl, rfl⟩ := List.getElem?_eq_some_iff.1 h
 rw [tokEnd_lt hl, if_pos hc]
theorem tokEnd_on {i : Nat} {c : UInt8} (h : s[i]? = some c) (hc : isDl c = false) : tokEnd s i = tokEnd s (i + 1) := by
 obtain ⟨hl, rfl⟩ := List.getElem?_eq_some_iff.1 h
 rw [tokEnd_lt hl, if_neg (by rw [hc]; decide)]
theorem lineEnd_on {i : Nat} {c : UInt8} (h : s[i]? = some c) (hc : c ≠ 10) : lineEnd s i = lineEnd s (i + 1) := by
 obtain ⟨hl, rfl⟩ := List.getElem?_eq_some_iff.1 h
 rw [lineEnd_lt hl, if_neg hc]
end
section
variable {T : List UInt8}
structure Fst (T : List UInt8) (i : Nat) : Prop where
 st : bcls T i = .stop
 ic : ∀ v acc, icls T v acc i = .more
theorem Fst.lt {i : Nat} (h : Fst T i) : i < T.length := bcls_lt (by rw [h.st]; decide)
theorem sym_a : plainF [97] = .ok (dSym [97]) := by simp [plainF, numF, symF, isLet, isD]
end
def hx (a : Nat) : UInt8 := if a < 10 then UInt8.ofNat (48 + a) else UInt8.ofNat (87 + a)
def hx2 (n : Nat) : List UInt8 := [hx (n / 16 % 16), hx (n % 16)]
def wByte (x : Nat) : List UInt8 :=
 if x = 34 then [92, 34] else if x = 92 then [92, 92] else if x = 10 then [92, 110] else if x = 9 then [92, 116]
 else if x < 32 ∨ 126 < x then [92, 120] ++ (hx2 x ++ [59]) else [UInt8.ofNat x]
def wBody (l : List UInt8) : List UInt8 := (l.map fun b => wByte b.toNat).flatten
def wChr (n : Nat) : List UInt8 :=
 if n = 32 then [115, 112, 97, 99, 101] else if n = 10 then [110, 101, 119, 108, 105, 110, 101] else if n = 9 then [116, 97, 98] else if n = 0 then [110, 117, 108]
 else if 33 ≤ n ∧ n ≤ 126 then [UInt8.ofNat n] else 120 :: hx2 n
def wNum (neg : Bool) (v : Nat) : List UInt8 := if neg = true ∧ v ≠ 0 then 45 :: Lib.decDigits v else Lib.decDigits v
def Dlm (q : List UInt8) : Prop := ∀ c, q[0]? = some c → isDl c = true
theorem tokEnd_run (q : List UInt8) (hq : Dlm q) : ∀ (t p : List UInt8), (∀ c ∈ t, isDl c = false) → tokEnd (p ++ (t ++ q)) p.length = p.length + t.length
 | [], p, _ => by
   rw [List.nil_append]
   cases hc : q[0]? with
   | none => rw [tokEnd_len (by rw [List.getElem?_eq_none_iff] at hc; simp; omega)]; simp
   | some c => rw [tokEnd_at (c := c) (by rw [gp0]; exact hc) (hq c hc)]; simp
 | c :: t, p, h => by
   have h1 : (p ++ (c :: t ++ q))[p.length]? = some c := by rw [gp0]; rfl
   rw [tokEnd_on h1 (h c (List.mem_cons_self ..))]
   have := tokEnd_run q hq t (p ++ [c]) (fun x hx => h x (List.mem_cons_of_mem _ hx))
   rw [List.append_assoc, List.singleton_append, List.length_append] at this
   simp only [List.length_cons, List.length_nil, List.cons_append] at this ⊢
   rw [this]; omega
theorem cut_mid {p t q : List UInt8} : cut (p ++ (t ++ q)) p.length (p.length + t.length) = t := by
 have := cut_ext (p := p) (s := t) (t := q) (i := 0) (j := t.length) (Nat.le_refl _)
 rw [List.append_assoc, Nat.add_zero] at this
 rw [this, cut, List.drop_zero, Nat.sub_zero, List.take_length]
theorem tok_plain {p t q : List UInt8} {x : DV} (hq : Dlm q) (ht : ∀ c ∈ t, isDl c = false) (h0 : t ≠ []) (hn : ¬ (t[0]? = some 35 ∧ t[1]? = some 92)) (hx : plainF t = .ok x) : tokR (p ++ (t ++ q)) p.length = .ok (x, p.length + t.length) := by
 have hno : ¬ ((p ++ (t ++ q))[p.length]? = some 35 ∧ (p ++ (t ++ q))[p.length + 1]? = some 92) := by
  intro h
  rcases t with _ | ⟨c, _ | ⟨e, t⟩⟩
  · exact h0 rfl
  · rw [gp0, gp 1] at h
    have h2 : q[0]? = some 92 := by simpa using h.2
    have := hq _ h2
    exact absurd this (by decide)
  · rw [gp0, gp 1] at h
    exact hn (by simpa using h)
 have hs : tokStop (p ++ (t ++ q)) p.length = p.length + t.length := by
  unfold tokStop
  rw [if_neg hno, tokEnd_run q hq t p ht]
 unfold tokR
 rw [if_neg hno, hs, cut_mid, hx]
inductive Rdb : Nat → DV → Prop
 | int {n} (z : Int) : Rdb n (dInt z)
 | bool {n} (b : Bool) : Rdb n (dBool b)
 | char {n} (k : Nat) (h : k < 256) : Rdb n (dChar k)
 | str {n} (t : List UInt8) : Rdb n (dStr t)
 | sym {n} (t : List UInt8) (h : plainF t = .ok (dSym t)) : Rdb n (dSym t)
 | list {n} (l : List DV) (h : ∀ x ∈ l, Rdb n x) : Rdb (n + 1) (dList l [])
 | dot {n} (l : List DV) (x : DV) (h0 : l ≠ []) (h : ∀ x ∈ l, Rdb n x) (hx : Rdb n x) (hk : x.kind ≠ 6) : Rdb (n + 1) (dList l [x])
 | vec {n} (l : List DV) (h : ∀ x ∈ l, Rdb n x) : Rdb (n + 1) (dVec l)
theorem Rdb.mono {n : Nat} {x : DV} (h : Rdb n x) : ∀ {m : Nat}, n ≤ m → Rdb m x := by
 induction h with
 | int z => intro m _; exact .int z
 | bool b => intro m _; exact .bool b
 | char k h => intro m _; exact .char k h
 | str t => intro m _; exact .str t
 | sym t h => intro m _; exact .sym t h
 | list l h ih =>
   intro m hm
   obtain ⟨m, rfl⟩ : ∃ k, m = k + 1 := ⟨m - 1, by omega⟩
   exact .list l (fun x hx => ih x hx (by omega))
 | dot l x h0 h hx hk ih ihx =>
   intro m hm
   obtain ⟨m, rfl⟩ : ∃ k, m = k + 1 := ⟨m - 1, by omega⟩
   exact .dot l x h0 (fun x hx => ih x hx (by omega)) (ihx (by omega)) hk
 | vec l h ih =>
   intro m hm
   obtain ⟨m, rfl⟩ : ∃ k, m = k + 1 := ⟨m - 1, by omega⟩
   exact .vec l (fun x hx => ih x hx (by omega))
theorem hexD_lt {c : UInt8} {a : Nat} (h : hexD c = some a) : a < 16 := by
 unfold hexD at h
 split at h
 · cases h; omega
 · split at h
   · cases h; omega
   · cases h
theorem charF_lt {u : List UInt8} {n : Nat} (h : charF u = some n) : n < 256 := by
 unfold charF at h
 split at h
 · cases h; omega
 · split at h
   · cases h; omega
   · split at h
     · cases h; omega
     · split at h
       · cases h; omega
       · split at h
         · cases h; exact UInt8.toNat_lt _
         · split at h
           · have := hexD_lt h; omega
           · cases h
         · split at h
           · split at h
             · rename_i ha hb
               cases h
               have := hexD_lt ha
               have := hexD_lt hb
               omega
             · cases h
           · cases h
         · cases h
theorem plainF_form {t : List UInt8} {x : DV} (h : plainF t = .ok x) : (∃ z, x = dInt z) ∨ (∃ b, x = dBool b) ∨ (x = dSym t ∧ plainF t = .ok (dSym t)) := by
 have h0 := h
 unfold plainF at h
 split at h
 · cases h; exact .inr (.inl ⟨_, rfl⟩)
 · split at h
   · cases h; exact .inr (.inl ⟨_, rfl⟩)
   · split at h
     · cases h
     · split at h
       · cases h; exact .inl ⟨_, rfl⟩
       · split at h
         · cases h; exact .inr (.inr ⟨rfl, h0⟩)
         · cases h
section
variable {s : List UInt8}
theorem tokR_rdb {i e : Nat} {x : DV} (h : tokR s i = .ok (x, e)) (n : Nat) : Rdb n x := by
 unfold tokR at h
 split at h
 · split at h
   · rename_i v hv
     cases h
     exact .char _ (charF_lt hv)
   · cases h
 · split at h
   · rename_i d hd
     cases h
     rcases plainF_form hd with ⟨z, rfl⟩ | ⟨b, rfl⟩ | ⟨rfl, hp⟩
     · exact .int z
     · exact .bool b
     · exact .sym _ hp
   · cases h
end
def wTail (l : List (List UInt8)) : List UInt8 := (l.map fun x => 32 :: x).flatten
def wJoin : List (List UInt8) → List UInt8
 | [] => []
 | x :: r => x ++ wTail r
mutual
def wV : DV → List UInt8
 | .mk k n neg mag text items rest =>
   if k = 1 then wNum neg (valB 4294967296 mag)
   else if k = 2 then (if n = 1 then [35, 116] else [35, 102])
   else if k = 3 then 35 :: 92 :: wChr n.toNat
   else if k = 4 then 34 :: (wBody text ++ [34])
   else if k = 5 then text
   else if k = 6 then (if rest.length = 0 then 40 :: (wJoin (wAll items) ++ [41]) else 40 :: (wJoin (wAll items) ++ (32 :: 46 :: 32 :: ((wAll rest).headD [] ++ [41]))))
   else if k = 7 then 35 :: 40 :: (wJoin (wAll items) ++ [41])
   else []
def wAll : List DV → List (List UInt8)
 | [] => []
 | x :: l => wV x :: wAll l
end
theorem dlm_cons {c : UInt8} (q : List UInt8) (h : isDl c = true) : Dlm (c :: q) := fun x hx => by
 simp only [List.getElem?_cons_zero, Option.some.injEq] at hx
 rw [← hx]; exact h
section
variable {s p q : List UInt8}
theorem dcls_tok {i : Nat} {c : UInt8} (h : s[i]? = some c) (h1 : c ≠ 40) (h2 : c ≠ 41) (h3 : c ≠ 39) (h4 : c ≠ 96) (h5 : c ≠ 44) (h6 : c ≠ 34) (h7 : c = 35 → s[i + 1]? ≠ some 40) : dcls s i = .tok := by
 rw [dcls, h]
 simp only
 rw [if_neg h1, if_neg (fun h => h7 h.1 h.2), if_neg h2, if_neg h3, if_neg h4, if_neg h5, if_neg h6]
end
def pre (s : List UInt8) (i : Nat) (l : List UInt8) : Bool := l.isPrefixOf (s.drop i)
section
variable {s : List UInt8} {i : Nat} {c : UInt8}
theorem drop_at (h : s[i]? = some c) : s.drop i = c :: s.drop (i + 1) := by
 obtain ⟨hl, rfl⟩ := List.getElem?_eq_some_iff.1 h
 exact List.drop_eq_getElem_cons hl
theorem pre1 (h : s[i]? = some c) (x : UInt8) : pre s i [x] = (x == c) := by
 unfold pre
 rw [drop_at h]
 simp [List.isPrefixOf]
theorem pre2 (h : s[i]? = some c) (x y : UInt8) : pre s i [x, y] = (x == c && s[i + 1]? == some y) := by
 unfold pre
 rw [drop_at h]
 cases h2 : s[i + 1]? with
 | none =>
   have : s.drop (i + 1) = [] := List.drop_eq_nil_of_le (List.getElem?_eq_none_iff.1 h2)
   rw [this]
   simp [List.isPrefixOf]
 | some d =>
   rw [drop_at h2]
   have e : (some d == some y) = (y == d) := by
    by_cases hd : d = y
    · subst hd; simp
    · have hd2 : ¬ y = d := fun h => hd h.symm
      rw [show (some d == some y) = false from by simpa using hd, show (y == d) = false from by simpa using hd2]
   rw [e]
   simp [List.isPrefixOf]
theorem pre_end (h : s.length ≤ i) (x : UInt8) (l : List UInt8) : pre s i (x :: l) = false := by
 unfold pre
 rw [List.drop_eq_nil_of_le h]; rfl
end
def dls : List UInt8 := [32, 10, 9, 13, 40, 41, 34, 59, 39]
theorem byte_all {p : UInt8 → Bool} (h : ∀ k : Fin 256, p (UInt8.ofNat k.val) = true) (c : UInt8) : p c = true := by
 have := h ⟨c.toNat, c.toNat_lt⟩
 simpa using this
theorem dls_is (c : UInt8) : dls.contains c = isDl c := by
 have := byte_all (p := fun c => dls.contains c == isDl c) (by decide +kernel) c
 simpa using this
theorem blank_is (c : UInt8) : decide (0 ≤ Go.Lib.indexByte [32, 10, 9, 13] c) = isBl c := by
 have := byte_all (p := fun c => decide (0 ≤ Go.Lib.indexByte [32, 10, 9, 13] c) == isBl c) (by decide +kernel) c
 simpa using this
theorem tokEnd_any (s : List UInt8) : ∀ (m i : Nat), s.length - i < m → i ≤ s.length →
 (Go.Lib.indexAny (s.drop i) dls = -1 ∧ tokEnd s i = s.length) ∨ ∃ k : Nat, Go.Lib.indexAny (s.drop i) dls = (k : Int) ∧ tokEnd s i = i + k ∧ i + k < s.length
 | 0, i, h, _ => absurd h (by omega)
 | m + 1, i, h, hi => by
   rcases Nat.lt_or_ge i s.length with hl | hl
   · rw [tokEnd_lt hl, List.drop_eq_getElem_cons hl, Go.Lib.indexAny, dls_is]
     by_cases hd : isDl s[i] = true
     · rw [if_pos hd, if_pos hd]
       exact .inr ⟨0, rfl, rfl, by omega⟩
     · rw [if_neg hd, if_neg hd]
       rcases tokEnd_any s m (i + 1) (by omega) (by omega) with ⟨h1, h2⟩ | ⟨k, h1, h2, h3⟩
       · rw [if_pos (by rw [h1]; rfl), h2]
         exact .inl ⟨by trivial, by trivial⟩
       · rw [if_neg (fun h => by rw [h1] at h; have := beq_iff_eq.1 h; omega), h2, h1]
         exact .inr ⟨k + 1, by omega, by omega, by omega⟩
   · rw [List.drop_eq_nil_of_le hl, tokEnd_len hl]
     exact .inl ⟨rfl, by omega⟩
def hexs : List UInt8 := [48, 49, 50, 51, 52, 53, 54, 55, 56, 57, 97, 98, 99, 100, 101, 102]
theorem hex_is (c : UInt8) : Go.Lib.indexByte hexs c = (match hexD c with | some a => (a : Int) | none => -1) := by
 have := byte_all (p := fun c => Go.Lib.indexByte hexs c == (match hexD c with | some a => (a : Int) | none => -1)) (by decide +kernel) c
 simpa using this
def odds : List UInt8 := [33, 36, 37, 38, 42, 43, 45, 46, 47, 58, 60, 61, 62, 63, 64, 94, 95, 126]
theorem odd_is (c : UInt8) : decide (0 ≤ Go.Lib.indexByte odds c) = isOdd c := by
 have := byte_all (p := fun c => decide (0 ≤ Go.Lib.indexByte odds c) == isOdd c) (by decide +kernel) c
 simpa using this
def escs : List UInt8 := [34, 92, 110, 116]
def escV (c : UInt8) : Option UInt8 := if c = 34 then some 34 else if c = 92 then some 92 else if c = 110 then some 10 else if c = 116 then some 9 else none
theorem esc_is (c : UInt8) : (escV c = none ∧ Go.Lib.indexByte escs c = -1) ∨ ∃ k : Nat, k < 4 ∧ Go.Lib.indexByte escs c = (k : Int) ∧ escV c = some (([34, 92, 10, 9] : List UInt8).getD k 0) := by
 have := byte_all (p := fun c => (escV c == none && Go.Lib.indexByte escs c == -1) || ([0, 1, 2, 3] : List Nat).any (fun k => Go.Lib.indexByte escs c == (k : Int) && escV c == some (([34, 92, 10, 9] : List UInt8).getD k 0))) (by decide +kernel) c
 simp only [Bool.or_eq_true, Bool.and_eq_true, List.any_eq_true, beq_iff_eq] at this
 rcases this with ⟨h1, h2⟩ | ⟨k, hk, h1, h2⟩
 · exact .inl ⟨h1, h2⟩
 · exact .inr ⟨k, by simp at hk; omega, h1, h2⟩
section
variable {s : List UInt8}
theorem run_end {d i e : Nat} {x : DV} (h : Run s (.blanks d i) (.ok (x, e))) (he : e < s.length) : bcls s e = .stop := run_stop h rfl rfl he
theorem next_of {d e : Nat} {r : Rs} (h1 : bcls s e = .stop) (h : Run s (.datum d e) r) : Run s (.next d e) r := .n_ok (.b_stop h1) (bcls_lt (by rw [h1]; decide)) h
theorem dot_err {d e : Nat} (h : dotAt s e = true) : Run s (.datum d e) (.error (e, 15)) := by
 unfold dotAt at h
 simp only [Bool.and_eq_true, beq_iff_eq] at h
 obtain ⟨h1, h2⟩ := h
 have hd : dcls s e = .tok := dcls_tok h1 (by decide) (by decide) (by decide) (by decide) (by decide) (by decide) (fun h => absurd h (by decide))
 have hl := (List.getElem?_eq_some_iff.1 h1).1
 have ht : tokR s e = .error (e, 15) := by
  have hn : ¬ (s[e]? = some 35 ∧ s[e + 1]? = some 92) := fun h => by rw [h1] at h; exact absurd h.1 (by decide)
  have hstop : tokStop s e = e + 1 := by
   rw [tokStop, if_neg hn, tokEnd_on h1 (by decide)]
   cases h3 : s[e + 1]? with
   | none => exact tokEnd_len (List.getElem?_eq_none_iff.1 h3) 
   | some c => rw [h3] at h2; exact tokEnd_at h3 h2
  have hc : cut s e (e + 1) = [46] := by
   unfold cut
   rw [drop_at h1, show e + 1 - e = 1 by omega]; rfl
  rw [tokR, if_neg hn, hstop, hc]
  rfl
 have := @Run.d_tok s d e hd
 rwa [ht] at this
end
end Go.Proofs.YtdapbegadhcpcaaGreatDoorM
