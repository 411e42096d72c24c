/- A part of the proof. -/
import Derived.Test.YtdapbegadhcpcaaGreatDoorMD
set_option linter.unusedVariables false
set_option linter.unusedSimpArgs false
namespace Go.Proofs.YtdapbegadhcpcaaGreatDoorM
inductive DV where
 | mk (kind n : Int) (neg : Bool) (mag : List Nat) (text : List UInt8) (items rest : List DV)
def DV.items : DV → List DV
 | .mk _ _ _ _ _ i _ => i
def DV.rest : DV → List DV
 | .mk _ _ _ _ _ _ r => r
def DV.kind : DV → Int
 | .mk k _ _ _ _ _ _ => k
def d0 : DV := .mk 0 0 false [] [] [] []
def dInt (z : Int) : DV := .mk 1 0 (decide (z < 0)) (digB 4294967296 z.natAbs) [] [] []
def dBool (b : Bool) : DV := .mk 2 (if b then 1 else 0) false [] [] [] []
def dChar (n : Nat) : DV := .mk 3 (n : Int) false [] [] [] []
def dStr (t : List UInt8) : DV := .mk 4 0 false [] t [] []
def dSym (t : List UInt8) : DV := .mk 5 0 false [] t [] []
def dList (l r : List DV) : DV := .mk 6 0 false [] [] l r
def dVec (l : List DV) : DV := .mk 7 0 false [] [] l []
def isBl (c : UInt8) : Bool := c == 32 || c == 9 || c == 10 || c == 13
def isDl (c : UInt8) : Bool := isBl c || c == 40 || c == 41 || c == 34 || c == 59 || c == 39
def lineEnd (s : List UInt8) (i : Nat) : Nat := if h : i < s.length then (if s[i] = 10 then i else lineEnd s (i + 1)) else i
termination_by s.length - i
def nestF (s : List UInt8) (i n : Nat) : Option Nat :=
 if h : i < s.length then
  (if s[i] = 35 ∧ s[i + 1]? = some 124 then nestF s (i + 2) (n + 1)
   else if s[i] = 124 ∧ s[i + 1]? = some 35 then (if n ≤ 1 then some (i + 2) else nestF s (i + 2) (n - 1))
   else nestF s (i + 1) n)
 else none
termination_by s.length - i
def tokEnd (s : List UInt8) (i : Nat) : Nat := if h : i < s.length then (if isDl s[i] then i else tokEnd s (i + 1)) else i
termination_by s.length - i
theorem tokEnd_ge (s : List UInt8) (i : Nat) : i ≤ tokEnd s i := by
 rw [tokEnd]
 split
 · split
   · exact Nat.le_refl _
   · have := tokEnd_ge s (i + 1); omega
 · exact Nat.le_refl _
termination_by s.length - i
theorem lineEnd_ge (s : List UInt8) (i : Nat) : i ≤ lineEnd s i := by
 rw [lineEnd]
 split
 · split
   · exact Nat.le_refl _
   · have := lineEnd_ge s (i + 1); omega
 · exact Nat.le_refl _
termination_by s.length - i
theorem nestF_gt (s : List UInt8) (i n e : Nat) (h : nestF s i n = some e) : i < e := by
 rw [nestF] at h
 split at h
 · split at h
   · have := nestF_gt s (i + 2) (n + 1) e h; omega
   · split at h
     · split at h
       · simp only [Option.some.injEq] at h; omega
       · have := nestF_gt s (i + 2) (n - 1) e h; omega
     · have := nestF_gt s (i + 1) n e h; omega
 · cases h
termination_by s.length - i
def hexD (c : UInt8) : Option Nat := if 48 ≤ c.toNat ∧ c.toNat ≤ 57 then some (c.toNat - 48) else if 97 ≤ c.toNat ∧ c.toNat ≤ 102 then some (c.toNat - 87) else none
def codeF (s : List UInt8) (i : Nat) : Except Bool (Nat × Nat) :=
 match s[i]? with
 | none => .error true
 | some c => match hexD c with
   | none => .error false
   | some a => match s[i + 1]? with
     | none => .error true
     | some d => if d = 59 then .ok (a, i + 1) else match hexD d with
       | none => .error false
       | some b => match s[i + 2]? with
         | none => .error true
         | some e => if e = 59 then .ok (16 * a + b, i + 2) else .error false
theorem codeF_gt (s : List UInt8) (i v e : Nat) (h : codeF s i = .ok (v, e)) : i < e := by
 unfold codeF at h
 split at h
 · cases h
 · split at h
   · cases h
   · split at h
     · cases h
     · split at h
       · cases h; omega
       · split at h
         · cases h
         · split at h
           · cases h
           · split at h
             · cases h; omega
             · cases h
def strF (s : List UInt8) (i : Nat) (acc : List UInt8) : Except (Nat × Nat) (List UInt8 × Nat) :=
 if h : i < s.length then
  (if s[i] = 34 then .ok (acc, i + 1)
   else if s[i] = 92 then
    (match s[i + 1]? with
     | none => .error (s.length, 10)
     | some c =>
       if c = 34 then strF s (i + 2) (acc ++ [34])
       else if c = 92 then strF s (i + 2) (acc ++ [92])
       else if c = 110 then strF s (i + 2) (acc ++ [10])
       else if c = 116 then strF s (i + 2) (acc ++ [9])
       else if c = 120 then
        (match hc : codeF s (i + 2) with
         | .error true => .error (s.length, 10)
         | .error false => .error (i, 13)
         | .ok (v, e) => strF s (e + 1) (acc ++ [UInt8.ofNat v]))
       else .error (i, 13))
   else strF s (i + 1) (acc ++ [s[i]]))
 else .error (s.length, 10)
termination_by s.length - i
decreasing_by all_goals first | (have := codeF_gt s (i + 2) _ _ hc; omega) | omega
def charF (u : List UInt8) : Option Nat :=
 if u = [115, 112, 97, 99, 101] then some 32
 else if u = [110, 101, 119, 108, 105, 110, 101] then some 10
 else if u = [116, 97, 98] then some 9
 else if u = [110, 117, 108] then some 0
 else match u with
  | [c] => some c.toNat
  | [x, a] => if x = 120 then hexD a else none
  | [x, a, b] => if x = 120 then (match hexD a, hexD b with | some p, some q => some (16 * p + q) | _, _ => none) else none
  | _ => none
def numF (t : List UInt8) : Option Int :=
 let u := (match t with | c :: r => if c = 43 ∨ c = 45 then r else t | [] => [])
 let neg := (match t with | c :: _ => decide (c = 45) | [] => false)
 if u ≠ [] ∧ u.all isD = true then some (sval neg (numV 0 u)) else none
def isOdd (c : UInt8) : Bool := [33, 36, 37, 38, 42, 43, 45, 46, 47, 58, 60, 61, 62, 63, 64, 94, 95, 126].contains c
def isLet (c : UInt8) : Bool := (97 ≤ c.toNat && c.toNat ≤ 122) || (65 ≤ c.toNat && c.toNat ≤ 90)
def isNum (c : UInt8) : Bool := 48 ≤ c.toNat && c.toNat ≤ 57
def symF (t : List UInt8) : Bool := match t with
 | [] => false
 | c :: r => (isLet c || isOdd c) && r.all (fun c => isLet c || isNum c || isOdd c)
def plainF (t : List UInt8) : Except Nat DV :=
 if t = [35, 116] ∨ t = [35, 116, 114, 117, 101] then .ok (dBool true)
 else if t = [35, 102] ∨ t = [35, 102, 97, 108, 115, 101] then .ok (dBool false)
 else if t = [46] then .error 15
 else match numF t with
  | some z => .ok (dInt z)
  | none => if symF t then .ok (dSym t) else .error 12
def tokStop (s : List UInt8) (i : Nat) : Nat := if s[i]? = some 35 ∧ s[i + 1]? = some 92 then (if i + 2 < s.length then tokEnd s (i + 3) else s.length) else tokEnd s i
def cut (s : List UInt8) (i j : Nat) : List UInt8 := (s.drop i).take (j - i)
def tokR (s : List UInt8) (i : Nat) : Except (Nat × Nat) (DV × Nat) :=
 if s[i]? = some 35 ∧ s[i + 1]? = some 92 then
  (match charF (cut s (i + 2) (tokStop s i)) with
   | some v => .ok (dChar v, tokStop s i)
   | none => .error (i, 14))
 else match plainF (cut s i (tokStop s i)) with
  | .ok d => .ok (d, tokStop s i)
  | .error e => .error (i, e)
def strR (s : List UInt8) (i : Nat) : Except (Nat × Nat) (DV × Nat) :=
 match strF s (i + 1) [] with
 | .ok (t, e) => .ok (dStr t, e)
 | .error p => .error p
inductive BC where
 | fin | blank | line | nest | skip | stop
deriving DecidableEq
def bcls (s : List UInt8) (i : Nat) : BC :=
 match s[i]? with
 | none => .fin
 | some c => if isBl c then .blank else if c = 59 then .line
   else if c = 35 ∧ s[i + 1]? = some 124 then .nest
   else if c = 35 ∧ s[i + 1]? = some 59 then .skip
   else .stop
inductive DC where
 | list | vec | close | short (name : List UInt8) (n : Nat) | str | tok
def sQuote : List UInt8 := [113, 117, 111, 116, 101]
def sQuasi : List UInt8 := [113, 117, 97, 115, 105, 113, 117, 111, 116, 101]
def sUnq : List UInt8 := [117, 110, 113, 117, 111, 116, 101]
def sSpl : List UInt8 := [117, 110, 113, 117, 111, 116, 101, 45, 115, 112, 108, 105, 99, 105, 110, 103]
def dcls (s : List UInt8) (i : Nat) : DC :=
 match s[i]? with
 | none => .tok
 | some c => if c = 40 then .list
   else if c = 35 ∧ s[i + 1]? = some 40 then .vec
   else if c = 41 then .close
   else if c = 39 then .short sQuote 1
   else if c = 96 then .short sQuasi 1
   else if c = 44 then (if s[i + 1]? = some 64 then .short sSpl 2 else .short sUnq 1)
   else if c = 34 then .str
   else .tok
def dotAt (s : List UInt8) (i : Nat) : Bool := s[i]? == some 46 && (match s[i + 1]? with | none => true | some c => isDl c)
inductive IC where
 | fin | close | dot | bad | more
deriving DecidableEq
def icls (s : List UInt8) (vec : Bool) (acc : List DV) (i : Nat) : IC :=
 if s.length ≤ i then .fin else if s[i]? = some 41 then .close else if dotAt s i then (if vec || acc.isEmpty then .bad else .dot) else .more
def joined (acc : List DV) (x : DV) : DV := if x.kind = 6 then dList (acc ++ x.items) x.rest else dList acc [x]
inductive J where
 | blanks (deep i : Nat)
 | next (deep i : Nat)
 | datum (deep i : Nat)
 | items (vec : Bool) (deep i : Nat) (acc : List DV)
abbrev Rs := Except (Nat × Nat) (DV × Nat)
inductive Run (s : List UInt8) : J → Rs → Prop
 | b_fin {d i} : bcls s i = .fin → Run s (.blanks d i) (.ok (d0, i))
 | b_stop {d i} : bcls s i = .stop → Run s (.blanks d i) (.ok (d0, i))
 | b_blank {d i r} : bcls s i = .blank → Run s (.blanks d (i + 1)) r → Run s (.blanks d i) r
 | b_line {d i r} : bcls s i = .line → Run s (.blanks d (lineEnd s i)) r → Run s (.blanks d i) r
 | b_nest {d i e r} : bcls s i = .nest → nestF s i 0 = some e → Run s (.blanks d e) r → Run s (.blanks d i) r
 | b_open {d i} : bcls s i = .nest → nestF s i 0 = none → Run s (.blanks d i) (.error (s.length, 10))
 | b_skip {d i x e r} : bcls s i = .skip → Run s (.next d (i + 2)) (.ok (x, e)) → Run s (.blanks d e) r → Run s (.blanks d i) r
 | b_skipE {d i p} : bcls s i = .skip → Run s (.next d (i + 2)) (.error p) → Run s (.blanks d i) (.error p)
 | n_err {d i p} : Run s (.blanks d i) (.error p) → Run s (.next d i) (.error p)
 | n_fin {d i x e} : Run s (.blanks d i) (.ok (x, e)) → s.length ≤ e → Run s (.next d i) (.error (s.length, 10))
 | n_ok {d i x e r} : Run s (.blanks d i) (.ok (x, e)) → e < s.length → Run s (.datum d e) r → Run s (.next d i) r
 | d_close {d i} : dcls s i = .close → Run s (.datum d i) (.error (i, 11))
 | d_str {d i} : dcls s i = .str → Run s (.datum d i) (strR s i)
 | d_tok {d i} : dcls s i = .tok → Run s (.datum d i) (tokR s i)
 | d_listD {d i} : dcls s i = .list → 100 ≤ d → Run s (.datum d i) (.error (i, 16))
 | d_list {d i r} : dcls s i = .list → d < 100 → Run s (.items false (d + 1) (i + 1) []) r → Run s (.datum d i) r
 | d_vecD {d i} : dcls s i = .vec → 100 ≤ d → Run s (.datum d i) (.error (i, 16))
 | d_vec {d i r} : dcls s i = .vec → d < 100 → Run s (.items true (d + 1) (i + 2) []) r → Run s (.datum d i) r
 | d_shortD {d i nm n} : dcls s i = .short nm n → 100 ≤ d → Run s (.datum d i) (.error (i, 16))
 | d_shortE {d i nm n p} : dcls s i = .short nm n → d < 100 → Run s (.next (d + 1) (i + n)) (.error p) → Run s (.datum d i) (.error p)
 | d_short {d i nm n x e} : dcls s i = .short nm n → d < 100 → Run s (.next (d + 1) (i + n)) (.ok (x, e)) → Run s (.datum d i) (.ok (dList [dSym nm, x] [], e))
 | i_err {v d i acc p} : Run s (.blanks d i) (.error p) → Run s (.items v d i acc) (.error p)
 | i_fin {v d i acc x e} : Run s (.blanks d i) (.ok (x, e)) → icls s v acc e = .fin → Run s (.items v d i acc) (.error (s.length, 10))
 | i_close {v d i acc x e} : Run s (.blanks d i) (.ok (x, e)) → icls s v acc e = .close → Run s (.items v d i acc) (.ok (if v then dVec acc else dList acc [], e + 1))
 | i_bad {v d i acc x e} : Run s (.blanks d i) (.ok (x, e)) → icls s v acc e = .bad → Run s (.items v d i acc) (.error (e, 15))
 | i_moreE {v d i acc x e p} : Run s (.blanks d i) (.ok (x, e)) → icls s v acc e = .more → Run s (.datum d e) (.error p) → Run s (.items v d i acc) (.error p)
 | i_more {v d i acc x e y f r} : Run s (.blanks d i) (.ok (x, e)) → icls s v acc e = .more → Run s (.datum d e) (.ok (y, f)) → Run s (.items v d f (acc ++ [y])) r → Run s (.items v d i acc) r
 | i_dotE {v d i acc x e p} : Run s (.blanks d i) (.ok (x, e)) → icls s v acc e = .dot → Run s (.blanks d (e + 1)) (.error p) → Run s (.items v d i acc) (.error p)
 | i_dotF {v d i acc x e y f} : Run s (.blanks d i) (.ok (x, e)) → icls s v acc e = .dot → Run s (.blanks d (e + 1)) (.ok (y, f)) → s.length ≤ f → Run s (.items v d i acc) (.error (s.length, 10))
 | i_dotC {v d i acc x e y f} : Run s (.blanks d i) (.ok (x, e)) → icls s v acc e = .dot → Run s (.blanks d (e + 1)) (.ok (y, f)) → s[f]? = some 41 → Run s (.items v d i acc) (.error (f, 15))
 | i_lastE {v d i acc x e y f p} : Run s (.blanks d i) (.ok (x, e)) → icls s v acc e = .dot → Run s (.blanks d (e + 1)) (.ok (y, f)) → f < s.length → s[f]? ≠ some 41 → Run s (.datum d f) (.error p) → Run s (.items v d i acc) (.error p)
 | i_lastB {v d i acc x e y f z g p} : Run s (.blanks d i) (.ok (x, e)) → icls s v acc e = .dot → Run s (.blanks d (e + 1)) (.ok (y, f)) → f < s.length → s[f]? ≠ some 41 → Run s (.datum d f) (.ok (z, g)) → Run s (.blanks d g) (.error p) → Run s (.items v d i acc) (.error p)
 | i_lastF {v d i acc x e y f z g u h} : Run s (.blanks d i) (.ok (x, e)) → icls s v acc e = .dot → Run s (.blanks d (e + 1)) (.ok (y, f)) → f < s.length → s[f]? ≠ some 41 → Run s (.datum d f) (.ok (z, g)) → Run s (.blanks d g) (.ok (u, h)) → s.length ≤ h → Run s (.items v d i acc) (.error (s.length, 10))
 | i_lastX {v d i acc x e y f z g u h} : Run s (.blanks d i) (.ok (x, e)) → icls s v acc e = .dot → Run s (.blanks d (e + 1)) (.ok (y, f)) → f < s.length → s[f]? ≠ some 41 → Run s (.datum d f) (.ok (z, g)) → Run s (.blanks d g) (.ok (u, h)) → h < s.length → s[h]? ≠ some 41 → Run s (.items v d i acc) (.error (h, 15))
 | i_last {v d i acc x e y f z g u h} : Run s (.blanks d i) (.ok (x, e)) → icls s v acc e = .dot → Run s (.blanks d (e + 1)) (.ok (y, f)) → f < s.length → s[f]? ≠ some 41 → Run s (.datum d f) (.ok (z, g)) → Run s (.blanks d g) (.ok (u, h)) → s[h]? = some 41 → Run s (.items v d i acc) (.ok (joined acc z, h + 1))
section
variable {s : List UInt8}
theorem inv_blanks {d i : Nat} {r : Rs} (h : Run s (.blanks d i) r) :
 (match bcls s i with
  | .fin => r = .ok (d0, i)
  | .stop => r = .ok (d0, i)
  | .blank => Run s (.blanks d (i + 1)) r
  | .line => Run s (.blanks d (lineEnd s i)) r
  | .nest => (match nestF s i 0 with | some e => Run s (.blanks d e) r | none => r = .error (s.length, 10))
  | .skip => ∃ q, Run s (.next d (i + 2)) q ∧ (match q with | .error p => r = .error p | .ok (_, e) => Run s (.blanks d e) r)) := by
 cases h with
 | b_fin h1 => simp only [h1]
 | b_stop h1 => simp only [h1]
 | b_blank h1 h2 => simp only [h1]; exact h2
 | b_line h1 h2 => simp only [h1]; exact h2
 | b_nest h1 h2 h3 => simp only [h1, h2]; exact h3
 | b_open h1 h2 => simp only [h1, h2]
 | b_skip h1 h2 h3 => simp only [h1]; exact ⟨_, h2, h3⟩
 | b_skipE h1 h2 => simp only [h1]; exact ⟨_, h2, rfl⟩
theorem inv_next {d i : Nat} {r : Rs} (h : Run s (.next d i) r) :
 ∃ q, Run s (.blanks d i) q ∧ (match q with
  | .error p => r = .error p
  | .ok (_, e) => if e < s.length then Run s (.datum d e) r else r = .error (s.length, 10)) := by
 cases h with
 | n_err h1 => exact ⟨_, h1, rfl⟩
 | n_fin h1 h2 => exact ⟨_, h1, by simp only; rw [if_neg (by omega)]; (try trivial)⟩
 | n_ok h1 h2 h3 => exact ⟨_, h1, by simp only; rw [if_pos h2]; exact h3⟩
theorem inv_datum {d i : Nat} {r : Rs} (h : Run s (.datum d i) r) :
 (match dcls s i with
  | .close => r = .error (i, 11)
  | .str => r = strR s i
  | .tok => r = tokR s i
  | .list => if d < 100 then Run s (.items false (d + 1) (i + 1) []) r else r = .error (i, 16)
  | .vec => if d < 100 then Run s (.items true (d + 1) (i + 2) []) r else r = .error (i, 16)
  | .short nm n => if d < 100 then ∃ q, Run s (.next (d + 1) (i + n)) q ∧ (match q with | .error p => r = .error p | .ok (x, e) => r = .ok (dList [dSym nm, x] [], e)) else r = .error (i, 16)) := by
 cases h with
 | d_close h1 => simp only [h1]
 | d_str h1 => simp only [h1]
 | d_tok h1 => simp only [h1]
 | d_listD h1 h2 => simp only [h1]; rw [if_neg (by omega)]; (try trivial)
 | d_list h1 h2 h3 => simp only [h1]; rw [if_pos h2]; exact h3
 | d_vecD h1 h2 => simp only [h1]; rw [if_neg (by omega)]; (try trivial)
 | d_vec h1 h2 h3 => simp only [h1]; rw [if_pos h2]; exact h3
 | d_shortD h1 h2 => simp only [h1]; rw [if_neg (by omega)]; (try trivial)
 | d_shortE h1 h2 h3 => simp only [h1]; rw [if_pos h2]; exact ⟨_, h3, rfl⟩
 | d_short h1 h2 h3 => simp only [h1]; rw [if_pos h2]; exact ⟨_, h3, rfl⟩
def LastR (s : List UInt8) (acc : List DV) (z : DV) (q r : Rs) : Prop :=
 match q with
 | .error p => r = .error p
 | .ok (_, h) => if s.length ≤ h then r = .error (s.length, 10) else if s[h]? = some 41 then r = .ok (joined acc z, h + 1) else r = .error (h, 15)
def DotR (s : List UInt8) (d : Nat) (acc : List DV) (q r : Rs) : Prop :=
 match q with
 | .error p => r = .error p
 | .ok (_, f) => if s.length ≤ f then r = .error (s.length, 10) else if s[f]? = some 41 then r = .error (f, 15)
   else ∃ q2, Run s (.datum d f) q2 ∧ (match q2 with
    | .error p => r = .error p
    | .ok (z, g) => ∃ q3, Run s (.blanks d g) q3 ∧ LastR s acc z q3 r)
theorem inv_items {v : Bool} {d i : Nat} {acc : List DV} {r : Rs} (h : Run s (.items v d i acc) r) :
 ∃ q, Run s (.blanks d i) q ∧ (match q with
  | .error p => r = .error p
  | .ok (_, e) => (match icls s v acc e with
    | .fin => r = .error (s.length, 10)
    | .close => r = .ok (if v then dVec acc else dList acc [], e + 1)
    | .bad => r = .error (e, 15)
    | .more => ∃ q2, Run s (.datum d e) q2 ∧ (match q2 with | .error p => r = .error p | .ok (y, f) => Run s (.items v d f (acc ++ [y])) r)
    | .dot => ∃ q2, Run s (.blanks d (e + 1)) q2 ∧ DotR s d acc q2 r)) := by
 have lt_of : ∀ {f : Nat} {c : UInt8}, s[f]? = some c → ¬ s.length ≤ f := fun h => by
  have := (List.getElem?_eq_some_iff.1 h).1
  omega
 cases h with
 | i_err h1 => exact ⟨_, h1, rfl⟩
 | i_fin h1 h2 => exact ⟨_, h1, by simp only [h2]⟩
 | i_close h1 h2 => exact ⟨_, h1, by simp only [h2]⟩
 | i_bad h1 h2 => exact ⟨_, h1, by simp only [h2]⟩
 | i_moreE h1 h2 h3 => exact ⟨_, h1, by simp only [h2]; exact ⟨_, h3, rfl⟩⟩
 | i_more h1 h2 h3 h4 => exact ⟨_, h1, by simp only [h2]; exact ⟨_, h3, h4⟩⟩
 | i_dotE h1 h2 h3 => exact ⟨_, h1, by simp only [h2]; exact ⟨_, h3, rfl⟩⟩
 | i_dotF h1 h2 h3 h4 => exact ⟨_, h1, by simp only [h2]; exact ⟨_, h3, by simp only [DotR]; rw [if_pos h4]; (try trivial)⟩⟩
 | i_dotC h1 h2 h3 h4 => exact ⟨_, h1, by simp only [h2]; exact ⟨_, h3, by simp only [DotR]; rw [if_neg (lt_of h4), if_pos h4]; (try trivial)⟩⟩
 | i_lastE h1 h2 h3 h4 h5 h6 => exact ⟨_, h1, by simp only [h2]; exact ⟨_, h3, by simp only [DotR]; rw [if_neg (by omega), if_neg h5]; exact ⟨_, h6, rfl⟩⟩⟩
 | i_lastB h1 h2 h3 h4 h5 h6 h7 => exact ⟨_, h1, by simp only [h2]; exact ⟨_, h3, by simp only [DotR]; rw [if_neg (by omega), if_neg h5]; exact ⟨_, h6, _, h7, rfl⟩⟩⟩
 | i_lastF h1 h2 h3 h4 h5 h6 h7 h8 => exact ⟨_, h1, by simp only [h2]; exact ⟨_, h3, by simp only [DotR]; rw [if_neg (by omega), if_neg h5]; exact ⟨_, h6, _, h7, by simp only [LastR]; rw [if_pos h8]; (try trivial)⟩⟩⟩
 | i_lastX h1 h2 h3 h4 h5 h6 h7 h8 h9 => exact ⟨_, h1, by simp only [h2]; exact ⟨_, h3, by simp only [DotR]; rw [if_neg (by omega), if_neg h5]; exact ⟨_, h6, _, h7, by simp only [LastR]; rw [if_neg (by omega), if_neg h9]; (try trivial)⟩⟩⟩
 | i_last h1 h2 h3 h4 h5 h6 h7 h8 => exact ⟨_, h1, by simp only [h2]; exact ⟨_, h3, by simp only [DotR]; rw [if_neg (by omega), if_neg h5]; exact ⟨_, h6, _, h7, by simp only [LastR]; rw [if_neg (lt_of h8), if_pos h8]; (try trivial)⟩⟩⟩
end
section
variable {s : List UInt8}
theorem bcls_lt {i : Nat} (h : bcls s i ≠ .fin) : i < s.length := by
 rcases Nat.lt_or_ge i s.length with h1 | h1
 · exact h1
 · exact absurd (by rw [bcls, List.getElem?_eq_none h1]) h
theorem bcls_fin {i : Nat} (h : bcls s i = .fin) : s.length ≤ i := by
 rcases Nat.lt_or_ge i s.length with h1 | h1
 · rw [bcls, List.getElem?_eq_getElem h1] at h
   simp only at h
   split at h <;> (try cases h)
   split at h <;> (try cases h)
   split at h <;> (try cases h)
   split at h <;> cases h
 · exact h1
theorem bcls_ge {i : Nat} (h : s.length ≤ i) : bcls s i = .fin := by rw [bcls, List.getElem?_eq_none h]
theorem dcls_lt {i : Nat} (h : ∀ x, dcls s i = x → (match x with | .tok => False | _ => True)) : i < s.length := by
 rcases Nat.lt_or_ge i s.length with h1 | h1
 · exact h1
 · exact (h .tok (by rw [dcls, List.getElem?_eq_none h1])).elim
theorem short_pos {i : Nat} {nm : List UInt8} {n : Nat} (h : dcls s i = .short nm n) : 0 < n := by
 rw [dcls] at h
 split at h
 · cases h
 · split at h <;> (try cases h)
   split at h <;> (try cases h)
   split at h <;> (try cases h)
   split at h <;> (try (cases h; omega))
   split at h <;> (try (cases h; omega))
   split at h <;> (try (split at h <;> (cases h; omega)))
   split at h <;> cases h
theorem icls_lt {v : Bool} {acc : List DV} {i : Nat} (h : icls s v acc i ≠ .fin) : i < s.length := by
 rcases Nat.lt_or_ge i s.length with h1 | h1
 · exact h1
 · exact absurd (by rw [icls, if_pos h1]) h
theorem lineEnd_gt {i : Nat} (h : i < s.length) (h2 : s[i]? ≠ some 10) : i < lineEnd s i := by
 rw [lineEnd, dif_pos h, if_neg (fun e => h2 (by rw [List.getElem?_eq_getElem h, e]))]
 have := lineEnd_ge s (i + 1)
 omega
theorem bcls_line {i : Nat} (h : bcls s i = .line) : s[i]? = some 59 := by
 rw [bcls] at h
 split at h
 · cases h
 · rename_i c hc
   split at h <;> (try cases h)
   split at h
   · rename_i h3; rw [hc, h3]
   · split at h <;> (try cases h)
     split at h <;> cases h
theorem strF_gt (i : Nat) (acc : List UInt8) {t : List UInt8} {e : Nat} (h : strF s i acc = .ok (t, e)) : i < e := by
 rw [strF] at h
 split at h
 · split at h
   · cases h; omega
   · split at h
     · split at h
       · cases h
       · split at h
         · have := strF_gt _ _ h; omega
         · split at h
           · have := strF_gt _ _ h; omega
           · split at h
             · have := strF_gt _ _ h; omega
             · split at h
               · have := strF_gt _ _ h; omega
               · split at h
                 · split at h
                   · cases h
                   · cases h
                   · rename_i hc
                     have h1 := codeF_gt _ _ _ _ hc
                     have := strF_gt _ _ h; omega
                 · cases h
     · have := strF_gt _ _ h; omega
 · cases h
termination_by s.length - i
decreasing_by all_goals first | (have := codeF_gt s (i + 2) _ _ (by assumption); omega) | omega
theorem tokStop_ge (i : Nat) (hi : i ≤ s.length) : i ≤ tokStop s i := by
 unfold tokStop
 split
 · split
   · have := tokEnd_ge s (i + 3); omega
   · exact hi
 · exact tokEnd_ge s i
theorem plainF_nil : plainF [] = .error 12 := by simp [plainF, numF, symF]
theorem tokR_gt {i : Nat} (hi : i < s.length) {x : DV} {e : Nat} (h : tokR s i = .ok (x, e)) : i < e := by
 unfold tokR at h
 have hge := tokStop_ge (s := s) i (by omega)
 split at h
 · rename_i h1
   split at h
   · cases h
     unfold tokStop
     rw [if_pos h1]
     have : i + 1 < s.length := (List.getElem?_eq_some_iff.1 h1.2).1
     split
     · have := tokEnd_ge s (i + 3); omega
     · omega
   · cases h
 · split at h
   · rename_i d hd
     cases h
     rcases Nat.lt_or_ge i (tokStop s i) with h2 | h2
     · exact h2
     · rw [show tokStop s i = i by omega, cut, Nat.sub_self, List.take_zero, plainF_nil] at hd
       cases hd
   · cases h
def Goes : J → Nat → Prop
 | .blanks _ i, e => i ≤ e
 | .next _ i, e => i < e
 | .datum _ i, e => i < s.length → i < e
 | .items _ _ i _, e => i < e
theorem run_goes {j : J} {r : Rs} (h : Run s j r) : ∀ {x : DV} {e : Nat}, r = .ok (x, e) → Goes (s := s) j e := by
 induction h with
 | b_fin h1 => intro x e h; cases h; exact Nat.le_refl _
 | b_stop h1 => intro x e h; cases h; exact Nat.le_refl _
 | b_blank h1 h2 ih => intro x e h; have : _ ≤ e := ih h; exact Nat.le_trans (Nat.le_succ _) this
 | b_line h1 h2 ih => intro x e h; exact Nat.le_trans (lineEnd_ge _ _) (ih h)
 | b_nest h1 h2 h3 ih => intro x e h; exact Nat.le_trans (Nat.le_of_lt (nestF_gt _ _ _ _ h2)) (ih h)
 | b_open h1 h2 => intro x e h; cases h
 | b_skip h1 h2 h3 ih1 ih2 => intro x e h; have a : _ < _ := ih1 rfl; have b : _ ≤ e := ih2 h; show _ ≤ e; omega
 | b_skipE h1 h2 ih => intro x e h; cases h
 | n_err h1 ih => intro x e h; cases h
 | n_fin h1 h2 ih => intro x e h; cases h
 | n_ok h1 h2 h3 ih1 ih2 => intro x e h; have a : _ ≤ _ := ih1 rfl; have b := ih2 h h2; show _ < e; omega
 | d_close h1 => intro x e h; cases h
 | d_str h1 =>
   intro x e h hi
   rw [strR] at h
   split at h
   · rename_i hs; cases h; have := strF_gt _ _ hs; omega
   · cases h
 | d_tok h1 => intro x e h hi; exact tokR_gt hi h
 | d_listD h1 h2 => intro x e h; cases h
 | d_list h1 h2 h3 ih => intro x e h hi; have a : _ < e := ih h; omega
 | d_vecD h1 h2 => intro x e h; cases h
 | d_vec h1 h2 h3 ih => intro x e h hi; have a : _ < e := ih h; omega
 | d_shortD h1 h2 => intro x e h; cases h
 | d_shortE h1 h2 h3 ih => intro x e h; cases h
 | d_short h1 h2 h3 ih => intro x e h hi; cases h; have a : _ < _ := ih rfl; omega
 | i_err h1 ih => intro x e h; cases h
 | i_fin h1 h2 ih => intro x e h; cases h
 | i_close h1 h2 ih => intro x e h; cases h; have a : _ ≤ _ := ih rfl; show _ < _; omega
 | i_bad h1 h2 ih => intro x e h; cases h
 | i_moreE h1 h2 h3 ih1 ih2 => intro x e h; cases h
 | i_more h1 h2 h3 h4 ih1 ih2 ih3 =>
   intro x e h
   have a : _ ≤ _ := ih1 rfl
   have b := ih2 rfl (icls_lt (by rw [h2]; decide))
   have c : _ < e := ih3 h
   show _ < e; omega
 | i_dotE h1 h2 h3 ih1 ih2 => intro x e h; cases h
 | i_dotF h1 h2 h3 h4 ih1 ih2 => intro x e h; cases h
 | i_dotC h1 h2 h3 h4 ih1 ih2 => intro x e h; cases h
 | i_lastE h1 h2 h3 h4 h5 h6 ih1 ih2 ih3 => intro x e h; cases h
 | i_lastB h1 h2 h3 h4 h5 h6 h7 ih1 ih2 ih3 ih4 => intro x e h; cases h
 | i_lastF h1 h2 h3 h4 h5 h6 h7 h8 ih1 ih2 ih3 ih4 => intro x e h; cases h
 | i_lastX h1 h2 h3 h4 h5 h6 h7 h8 h9 ih1 ih2 ih3 ih4 => intro x e h; cases h
 | i_last h1 h2 h3 h4 h5 h6 h7 h8 ih1 ih2 ih3 ih4 =>
   intro x e h; cases h
   have a : _ ≤ _ := ih1 rfl
   have b : _ ≤ _ := ih2 rfl
   have c := ih3 rfl h4
   have d : _ ≤ _ := ih4 rfl
   show _ < _; omega
def wtJ (s : List UInt8) : J → Nat
 | .blanks _ i => 4 * (s.length - i)
 | .datum _ i => 4 * (s.length - i) + 1
 | .next _ i => 4 * (s.length - i) + 2
 | .items _ _ i _ => 4 * (s.length - i) + 2
theorem run_all (s : List UInt8) : ∀ (n : Nat) (j : J), wtJ s j < n → ∃ r, Run s j r
 | 0, j, h => absurd h (by omega)
 | n + 1, .blanks d i, h => by
   simp only [wtJ] at h
   cases hb : bcls s i with
   | fin => exact ⟨_, .b_fin hb⟩
   | stop => exact ⟨_, .b_stop hb⟩
   | blank =>
     have := bcls_lt (s := s) (i := i) (by rw [hb]; decide)
     obtain ⟨r, hr⟩ := run_all s n (.blanks d (i + 1)) (by simp only [wtJ]; omega)
     exact ⟨_, .b_blank hb hr⟩
   | line =>
     have := bcls_lt (s := s) (i := i) (by rw [hb]; decide)
     have := lineEnd_gt this (by rw [bcls_line hb]; decide)
     obtain ⟨r, hr⟩ := run_all s n (.blanks d (lineEnd s i)) (by simp only [wtJ]; omega)
     exact ⟨_, .b_line hb hr⟩
   | nest =>
     have := bcls_lt (s := s) (i := i) (by rw [hb]; decide)
     cases hn : nestF s i 0 with
     | none => exact ⟨_, .b_open hb hn⟩
     | some e =>
       have := nestF_gt _ _ _ _ hn
       obtain ⟨r, hr⟩ := run_all s n (.blanks d e) (by simp only [wtJ]; omega)
       exact ⟨_, .b_nest hb hn hr⟩
   | skip =>
     have := bcls_lt (s := s) (i := i) (by rw [hb]; decide)
     obtain ⟨q, hq⟩ := run_all s n (.next d (i + 2)) (by simp only [wtJ]; omega)
     cases q with
     | error p => exact ⟨_, .b_skipE hb hq⟩
     | ok q =>
       obtain ⟨x, e⟩ := q
       have : _ < _ := run_goes hq rfl
       obtain ⟨r, hr⟩ := run_all s n (.blanks d e) (by simp only [wtJ]; omega)
       exact ⟨_, .b_skip hb hq hr⟩
 | n + 1, .next d i, h => by
   simp only [wtJ] at h
   obtain ⟨q, hq⟩ := run_all s n (.blanks d i) (by simp only [wtJ]; omega)
   cases q with
   | error p => exact ⟨_, .n_err hq⟩
   | ok q =>
     obtain ⟨x, e⟩ := q
     have : _ ≤ _ := run_goes hq rfl
     rcases Nat.lt_or_ge e s.length with he | he
     · obtain ⟨r, hr⟩ := run_all s n (.datum d e) (by simp only [wtJ]; omega)
       exact ⟨_, .n_ok hq he hr⟩
     · exact ⟨_, .n_fin hq he⟩
 | n + 1, .datum d i, h => by
   simp only [wtJ] at h
   cases hd : dcls s i with
   | close => exact ⟨_, .d_close hd⟩
   | str => exact ⟨_, .d_str hd⟩
   | tok => exact ⟨_, .d_tok hd⟩
   | list =>
     have := dcls_lt (s := s) (i := i) (fun x hx => by rw [hd] at hx; subst hx; trivial)
     rcases Nat.lt_or_ge d 100 with h1 | h1
     · obtain ⟨r, hr⟩ := run_all s n (.items false (d + 1) (i + 1) []) (by simp only [wtJ]; omega)
       exact ⟨_, .d_list hd h1 hr⟩
     · exact ⟨_, .d_listD hd h1⟩
   | vec =>
     have := dcls_lt (s := s) (i := i) (fun x hx => by rw [hd] at hx; subst hx; trivial)
     rcases Nat.lt_or_ge d 100 with h1 | h1
     · obtain ⟨r, hr⟩ := run_all s n (.items true (d + 1) (i + 2) []) (by simp only [wtJ]; omega)
       exact ⟨_, .d_vec hd h1 hr⟩
     · exact ⟨_, .d_vecD hd h1⟩
   | short nm k =>
     have := dcls_lt (s := s) (i := i) (fun x hx => by rw [hd] at hx; subst hx; trivial)
     have := short_pos hd
     rcases Nat.lt_or_ge d 100 with h1 | h1
     · obtain ⟨q, hq⟩ := run_all s n (.next (d + 1) (i + k)) (by simp only [wtJ]; omega)
       cases q with
       | error p => exact ⟨_, .d_shortE hd h1 hq⟩
       | ok q => exact ⟨_, .d_short hd h1 hq⟩
     · exact ⟨_, .d_shortD hd h1⟩
 | n + 1, .items v d i acc, h => by
   simp only [wtJ] at h
   obtain ⟨q, hq⟩ := run_all s n (.blanks d i) (by simp only [wtJ]; omega)
   cases q with
   | error p => exact ⟨_, .i_err hq⟩
   | ok q =>
     obtain ⟨x, e⟩ := q
     have he : _ ≤ _ := run_goes hq rfl
     cases hc : icls s v acc e with
     | fin => exact ⟨_, .i_fin hq hc⟩
     | close => exact ⟨_, .i_close hq hc⟩
     | bad => exact ⟨_, .i_bad hq hc⟩
     | more =>
       have hlt := icls_lt (s := s) (v := v) (acc := acc) (i := e) (by rw [hc]; decide)
       obtain ⟨q2, hq2⟩ := run_all s n (.datum d e) (by simp only [wtJ]; omega)
       cases q2 with
       | error p => exact ⟨_, .i_moreE hq hc hq2⟩
       | ok q2 =>
         obtain ⟨y, f⟩ := q2
         have := run_goes hq2 rfl hlt
         obtain ⟨r, hr⟩ := run_all s n (.items v d f (acc ++ [y])) (by simp only [wtJ]; omega)
         exact ⟨_, .i_more hq hc hq2 hr⟩
     | dot =>
       have hlt := icls_lt (s := s) (v := v) (acc := acc) (i := e) (by rw [hc]; decide)
       obtain ⟨q2, hq2⟩ := run_all s n (.blanks d (e + 1)) (by simp only [wtJ]; omega)
       cases q2 with
       | error p => exact ⟨_, .i_dotE hq hc hq2⟩
       | ok q2 =>
         obtain ⟨y, f⟩ := q2
         have : _ ≤ _ := run_goes hq2 rfl
         rcases Nat.lt_or_ge f s.length with hf | hf
         · by_cases h41 : s[f]? = some 41
           · exact ⟨_, .i_dotC hq hc hq2 h41⟩
           · obtain ⟨q3, hq3⟩ := run_all s n (.datum d f) (by simp only [wtJ]; omega)
             cases q3 with
             | error p => exact ⟨_, .i_lastE hq hc hq2 hf h41 hq3⟩
             | ok q3 =>
               obtain ⟨z, g⟩ := q3
               have := run_goes hq3 rfl hf
               obtain ⟨q4, hq4⟩ := run_all s n (.blanks d g) (by simp only [wtJ]; omega)
               cases q4 with
               | error p => exact ⟨_, .i_lastB hq hc hq2 hf h41 hq3 hq4⟩
               | ok q4 =>
                 obtain ⟨u, k⟩ := q4
                 by_cases hk : s[k]? = some 41
                 · exact ⟨_, .i_last hq hc hq2 hf h41 hq3 hq4 hk⟩
                 · rcases Nat.lt_or_ge k s.length with hk2 | hk2
                   · exact ⟨_, .i_lastX hq hc hq2 hf h41 hq3 hq4 hk2 hk⟩
                   · exact ⟨_, .i_lastF hq hc hq2 hf h41 hq3 hq4 hk2⟩
         · exact ⟨_, .i_dotF hq hc hq2 hf⟩
theorem run_ex (s : List UInt8) (j : J) : ∃ r, Run s j r := run_all s _ j (Nat.lt_succ_self _)
inductive AllR (s : List UInt8) : Nat → List DV → Except (Nat × Nat) (List DV) → Prop
 | err {i acc p} : Run s (.blanks 0 i) (.error p) → AllR s i acc (.error p)
 | fin {i acc x e} : Run s (.blanks 0 i) (.ok (x, e)) → s.length ≤ e → AllR s i acc (.ok acc)
 | bad {i acc x e p} : Run s (.blanks 0 i) (.ok (x, e)) → e < s.length → Run s (.datum 0 e) (.error p) → AllR s i acc (.error p)
 | more {i acc x e y f r} : Run s (.blanks 0 i) (.ok (x, e)) → e < s.length → Run s (.datum 0 e) (.ok (y, f)) → AllR s f (acc ++ [y]) r → AllR s i acc r
theorem inv_all {i : Nat} {acc : List DV} {r : Except (Nat × Nat) (List DV)} (h : AllR s i acc r) :
 ∃ q, Run s (.blanks 0 i) q ∧ (match q with
  | .error p => r = .error p
  | .ok (_, e) => if e < s.length then ∃ q2, Run s (.datum 0 e) q2 ∧ (match q2 with | .error p => r = .error p | .ok (y, f) => AllR s f (acc ++ [y]) r) else r = .ok acc) := by
 cases h with
 | err h1 => exact ⟨_, h1, rfl⟩
 | fin h1 h2 => exact ⟨_, h1, by simp only; rw [if_neg (by omega)]; (try trivial)⟩
 | bad h1 h2 h3 => exact ⟨_, h1, by simp only; rw [if_pos h2]; exact ⟨_, h3, rfl⟩⟩
 | more h1 h2 h3 h4 => exact ⟨_, h1, by simp only; rw [if_pos h2]; exact ⟨_, h3, h4⟩⟩
theorem all_ex (s : List UInt8) : ∀ (n i : Nat) (acc : List DV), s.length - i < n → ∃ r, AllR s i acc r
 | 0, i, acc, h => absurd h (by omega)
 | n + 1, i, acc, h => by
   obtain ⟨q, hq⟩ := run_ex s (.blanks 0 i)
   cases q with
   | error p => exact ⟨_, .err hq⟩
   | ok q =>
     obtain ⟨x, e⟩ := q
     have he : _ ≤ _ := run_goes hq rfl
     rcases Nat.lt_or_ge e s.length with h1 | h1
     · obtain ⟨q2, hq2⟩ := run_ex s (.datum 0 e)
       cases q2 with
       | error p => exact ⟨_, .bad hq h1 hq2⟩
       | ok q2 =>
         obtain ⟨y, f⟩ := q2
         have := run_goes hq2 rfl h1
         obtain ⟨r, hr⟩ := all_ex s n f (acc ++ [y]) (by omega)
         exact ⟨_, .more hq h1 hq2 hr⟩
     · exact ⟨_, .fin hq h1⟩
end
theorem lineEnd_lt {s : List UInt8} {i : Nat} (h : i < s.length) : lineEnd s i = if s[i] = 10 then i else lineEnd s (i + 1) := by
 rw [lineEnd, dif_pos h]
theorem lineEnd_len {s : List UInt8} {i : Nat} (h : s.length ≤ i) : lineEnd s i = i := by
 rw [lineEnd, dif_neg (by omega)]
theorem tokEnd_lt {s : List UInt8} {i : Nat} (h : i < s.length) : tokEnd s i = if isDl s[i] then i else tokEnd s (i + 1) := by
 rw [tokEnd, dif_pos h]
theorem tokEnd_len {s : List UInt8} {i : Nat} (h : s.length ≤ i) : tokEnd s i = i := by
 rw [tokEnd, dif_neg (by omega)]
section
variable {p s t : List UInt8}
theorem cut_ext {i j : Nat} (hj : j ≤ s.length) : cut (p ++ s ++ t) (p.length + i) (p.length + j) = cut s i j := by
 rcases Nat.lt_or_ge j i with h | h
 · rw [cut, cut, show p.length + j - (p.length + i) = 0 by omega, show j - i = 0 by omega, List.take_zero, List.take_zero]
 · rw [cut, cut, show p.length + j - (p.length + i) = j - i by omega, List.append_assoc, List.drop_append, List.drop_eq_nil_of_le (show p.length ≤ p.length + i by omega), List.nil_append, show p.length + i - p.length = i by omega, List.drop_append, List.take_append, List.length_drop, show j - i - (s.length - i) = 0 by omega, List.take_zero, List.append_nil]
end
theorem tokEnd_le (s : List UInt8) : ∀ (n i : Nat), s.length - i < n → i ≤ s.length → tokEnd s i ≤ s.length
 | 0, i, h, _ => absurd h (by omega)
 | n + 1, i, h, hi => by
   rcases Nat.lt_or_ge i s.length with h1 | h1
   · rw [tokEnd_lt h1]
     split
     · exact hi
     · exact tokEnd_le s n (i + 1) (by omega) h1
   · rw [tokEnd_len h1]; exact hi
theorem lineEnd_le (s : List UInt8) : ∀ (n i : Nat), s.length - i < n → i ≤ s.length → lineEnd s i ≤ s.length
 | 0, i, h, _ => absurd h (by omega)
 | n + 1, i, h, hi => by
   rcases Nat.lt_or_ge i s.length with h1 | h1
   · rw [lineEnd_lt h1]
     split
     · exact hi
     · exact lineEnd_le s n (i + 1) (by omega) h1
   · rw [lineEnd_len h1]; exact hi
theorem nestF_le (s : List UInt8) : ∀ (m i n e : Nat), s.length - i < m → nestF s i n = some e → e ≤ s.length
 | 0, i, _, _, h, _ => absurd h (by omega)
 | m + 1, i, n, e, h, hn => by
   rw [nestF] at hn
   split at hn
   · rename_i h1
     split at hn
     · exact nestF_le s m (i + 2) _ e (by omega) hn
     · split at hn
       · rename_i h3
         split at hn
         · have := (List.getElem?_eq_some_iff.1 h3.2).1
           simp only [Option.some.injEq] at hn
           omega
         · exact nestF_le s m (i + 2) _ e (by omega) hn
       · exact nestF_le s m (i + 1) _ e (by omega) hn
   · cases hn
theorem strF_le (s : List UInt8) : ∀ (m i : Nat) (acc : List UInt8) {x : List UInt8} {e : Nat}, s.length - i < m → strF s i acc = .ok (x, e) → e ≤ s.length
 | 0, i, _, _, _, h, _ => absurd h (by omega)
 | m + 1, i, acc, x, e, h, hs => by
   rw [strF] at hs
   split at hs
   · rename_i h1
     split at hs
     · cases hs; exact h1
     · split at hs
       · split at hs
         · cases hs
         · split at hs
           · exact strF_le s m (i + 2) _ (by omega) hs
           · split at hs
             · exact strF_le s m (i + 2) _ (by omega) hs
             · split at hs
               · exact strF_le s m (i + 2) _ (by omega) hs
               · split at hs
                 · exact strF_le s m (i + 2) _ (by omega) hs
                 · split at hs
                   · split at hs
                     · cases hs
                     · cases hs
                     · rename_i v g hv
                       have := codeF_gt _ _ _ _ hv
                       exact strF_le s m (g + 1) _ (by omega) hs
                   · cases hs
       · exact strF_le s m (i + 1) _ (by omega) hs
   · cases hs
theorem tokStop_le (s : List UInt8) (i : Nat) (hi : i ≤ s.length) : tokStop s i ≤ s.length := by
 unfold tokStop
 split
 · split
   · exact tokEnd_le s _ (i + 3) (Nat.lt_succ_self _) (by omega)
   · exact Nat.le_refl _
 · exact tokEnd_le s _ i (Nat.lt_succ_self _) hi
section
variable {p s t : List UInt8}
theorem run_stop {j : J} {r : Rs} (h : Run s j r) : ∀ {d i : Nat} {x : DV} {e : Nat}, j = .blanks d i → r = .ok (x, e) → e < s.length → bcls s e = .stop := by
 induction h with
 | b_fin h1 => intro d i x e hj hr he; cases hj; cases hr; have := bcls_fin h1; omega
 | b_stop h1 => intro d i x e hj hr he; cases hj; cases hr; exact h1
 | b_blank h1 h2 ih => intro d i x e hj hr he; exact ih rfl hr he
 | b_line h1 h2 ih => intro d i x e hj hr he; exact ih rfl hr he
 | b_nest h1 h2 h3 ih => intro d i x e hj hr he; exact ih rfl hr he
 | b_open h1 h2 => intro d i x e hj hr he; cases hr
 | b_skip h1 h2 h3 ih1 ih2 => intro d i x e hj hr he; exact ih2 rfl hr he
 | b_skipE h1 h2 ih => intro d i x e hj hr he; cases hr
 | _ => intro d i x e hj hr he; cases hj
theorem run_le {j : J} {r : Rs} (h : Run s j r) : ∀ {x : DV} {e : Nat}, r = .ok (x, e) → (match j with | .blanks _ i => i ≤ s.length | .next _ i => True | .datum _ i => i < s.length | .items _ _ i _ => True) → e ≤ s.length := by
 induction h with
 | b_fin h1 => intro x e h hi; cases h; exact hi
 | b_stop h1 => intro x e h hi; cases h; exact hi
 | b_blank h1 h2 ih => intro x e h hi; exact ih h (bcls_lt (by rw [h1]; decide))
 | b_line h1 h2 ih => intro x e h hi; exact ih h (lineEnd_le s _ _ (Nat.lt_succ_self _) hi)
 | b_nest h1 h2 h3 ih => intro x e h hi; exact ih h (nestF_le s _ _ _ _ (Nat.lt_succ_self _) h2)
 | b_open h1 h2 => intro x e h hi; cases h
 | b_skip h1 h2 h3 ih1 ih2 => intro x e h hi; exact ih2 h (ih1 rfl trivial)
 | b_skipE h1 h2 ih => intro x e h hi; cases h
 | n_err h1 ih => intro x e h hi; cases h
 | n_fin h1 h2 ih => intro x e h hi; cases h
 | n_ok h1 h2 h3 ih1 ih2 => intro x e h hi; exact ih2 h h2
 | d_close h1 => intro x e h hi; cases h
 | @d_str d i h1 =>
   intro x e h hi
   rw [strR] at h
   split at h
   · rename_i hs; cases h; exact strF_le s _ _ _ (Nat.lt_succ_self _) hs
   · cases h
 | @d_tok d i h1 =>
   intro x e h hi
   have hl := tokStop_le s i (Nat.le_of_lt hi)
   unfold tokR at h
   split at h
   · split at h
     · cases h; exact hl
     · cases h
   · split at h
     · cases h; exact hl
     · cases h
 | d_listD h1 h2 => intro x e h hi; cases h
 | d_list h1 h2 h3 ih => intro x e h hi; exact ih h trivial
 | d_vecD h1 h2 => intro x e h hi; cases h
 | d_vec h1 h2 h3 ih => intro x e h hi; exact ih h trivial
 | d_shortD h1 h2 => intro x e h hi; cases h
 | d_shortE h1 h2 h3 ih => intro x e h hi; cases h
 | d_short h1 h2 h3 ih => intro x e h hi; cases h; exact ih rfl trivial
 | i_err h1 ih => intro x e h hi; cases h
 | i_fin h1 h2 ih => intro x e h hi; cases h
 | i_close h1 h2 ih => intro x e h hi; cases h; exact icls_lt (by rw [h2]; decide)
 | i_bad h1 h2 ih => intro x e h hi; cases h
 | i_moreE h1 h2 h3 ih1 ih2 => intro x e h hi; cases h
 | i_more h1 h2 h3 h4 ih1 ih2 ih3 => intro x e h hi; exact ih3 h trivial
 | i_dotE h1 h2 h3 ih1 ih2 => intro x e h hi; cases h
 | i_dotF h1 h2 h3 h4 ih1 ih2 => intro x e h hi; cases h
 | i_dotC h1 h2 h3 h4 ih1 ih2 => intro x e h hi; cases h
 | i_lastE h1 h2 h3 h4 h5 h6 ih1 ih2 ih3 => intro x e h hi; cases h
 | i_lastB h1 h2 h3 h4 h5 h6 h7 ih1 ih2 ih3 ih4 => intro x e h hi; cases h
 | i_lastF h1 h2 h3 h4 h5 h6 h7 h8 ih1 ih2 ih3 ih4 => intro x e h hi; cases h
 | i_lastX h1 h2 h3 h4 h5 h6 h7 h8 h9 ih1 ih2 ih3 ih4 => intro x e h hi; cases h
 | i_last h1 h2 h3 h4 h5 h6 h7 h8 ih1 ih2 ih3 ih4 => intro x e h hi; cases h; exact (List.getElem?_eq_some_iff.1 h8).1
end
end Go.Proofs.YtdapbegadhcpcaaGreatDoorM
