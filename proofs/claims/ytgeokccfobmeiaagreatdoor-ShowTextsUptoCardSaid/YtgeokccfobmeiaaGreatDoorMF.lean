import Derived.Test.YtgeokccfobmeiaaGreatDoorME
import Derived.Lib.IndexAny
import Derived.Lib.Bytealg
/- Blanks and comments between data; reading one after the other. -/
namespace Go.Proofs.YtgeokccfobmeiaaGreatDoorM
set_option linter.unusedVariables false
set_option linter.unusedSimpArgs false
section
variable {s p u : List UInt8}
theorem gp (k : Nat) : (p ++ u)[p.length + k]? = u[k]? := by
  rw [List.getElem?_append_right (by omega), show p.length + k - p.length = k by omega]
theorem gp0 : (p ++ u)[p.length]? = u[0]? := gp 0
/-- a byte that is told, by its place -/
theorem bcls_blank {i : Nat} {c : UInt8} (h : s[i]? = some c) (hc : isBl c = true) : bcls s i = .blank := by
  rw [bcls, h]; simp only [hc, if_true]
theorem bcls_stop {i : Nat} {c : UInt8} (h : s[i]? = some c) (hc : isBl c = false) (h1 : c ≠ 59) (h2 : c ≠ 35) : bcls s i = .stop := by
  rw [bcls, h]; simp [hc, h1, h2]
theorem tokEnd_at {i : Nat} {c : UInt8} (h : s[i]? = some c) (hc : isDl c = true) : tokEnd s i = i := by
  obtain ⟨hl, rfl⟩ := List.getElem?_eq_some_iff.1 h
  rw [tokEnd_lt hl, if_pos hc]
theorem tokEnd_on {i : Nat} {c : UInt8} (h : s[i]? = some c) (hc : isDl c = false) : tokEnd s i = tokEnd s (i + 1) := by
  obtain ⟨hl, rfl⟩ := List.getElem?_eq_some_iff.1 h
  rw [tokEnd_lt hl, if_neg (by rw [hc]; decide)]
theorem lineEnd_at {i : Nat} (h : s[i]? = some 10) : lineEnd s i = i := by
  obtain ⟨hl, he⟩ := List.getElem?_eq_some_iff.1 h
  rw [lineEnd_lt hl, if_pos he]
theorem lineEnd_on {i : Nat} {c : UInt8} (h : s[i]? = some c) (hc : c ≠ 10) : lineEnd s i = lineEnd s (i + 1) := by
  obtain ⟨hl, rfl⟩ := List.getElem?_eq_some_iff.1 h
  rw [lineEnd_lt hl, if_neg hc]
theorem nestF_on {i n : Nat} {c : UInt8} (h : s[i]? = some c) (h1 : c ≠ 35) (h2 : c ≠ 124) : nestF s i n = nestF s (i + 1) n := by
  obtain ⟨hl, rfl⟩ := List.getElem?_eq_some_iff.1 h
  rw [nestF, dif_pos hl, if_neg (fun h => h1 h.1), if_neg (fun h => h2 h.1)]
theorem nestF_open {i n : Nat} (h : s[i]? = some 35) (h1 : s[i + 1]? = some 124) : nestF s i n = nestF s (i + 2) (n + 1) := by
  obtain ⟨hl, he⟩ := List.getElem?_eq_some_iff.1 h
  rw [nestF, dif_pos hl, if_pos ⟨he, h1⟩]
theorem nestF_shut {i n : Nat} (h : s[i]? = some 124) (h1 : s[i + 1]? = some 35) : nestF s i n = if n ≤ 1 then some (i + 2) else nestF s (i + 2) (n - 1) := by
  obtain ⟨hl, he⟩ := List.getElem?_eq_some_iff.1 h
  rw [nestF, dif_pos hl, if_neg (fun h => by rw [he] at h; exact absurd h.1 (by decide)), if_pos ⟨he, h1⟩]
def gap (g : Nat) : List UInt8 :=
  if g = 0 then [32] else if g = 1 then [59, 32, 119, 111, 114, 100, 115, 10] else if g = 2 then [35, 124, 32, 97, 32, 35, 124, 32, 98, 32, 124, 35, 32, 124, 35]
  else if g = 3 then [35, 59, 40, 120, 32, 34, 121, 34, 41, 32] else [9, 13, 10]
theorem gap0 {r : Rs} (h : Run (p ++ 10 :: 32 :: u) (.blanks 0 (p.length + 2)) r) : Run (p ++ 10 :: 32 :: u) (.blanks 0 p.length) r :=
  .b_blank (bcls_blank (c := 10) gp0 (by decide)) (.b_blank (bcls_blank (c := 32) (gp 1) (by decide)) h)
theorem gap4 {r : Rs} (h : Run (p ++ 10 :: 9 :: 13 :: 10 :: u) (.blanks 0 (p.length + 4)) r) : Run (p ++ 10 :: 9 :: 13 :: 10 :: u) (.blanks 0 p.length) r :=
  .b_blank (bcls_blank (c := 10) gp0 (by decide)) (.b_blank (bcls_blank (c := 9) (gp 1) (by decide)) (.b_blank (bcls_blank (c := 13) (gp 2) (by decide)) (.b_blank (bcls_blank (c := 10) (gp 3) (by decide)) h)))
theorem gap1 {r : Rs} (h : Run (p ++ 10 :: 59 :: 32 :: 119 :: 111 :: 114 :: 100 :: 115 :: 10 :: u) (.blanks 0 (p.length + 9)) r) : Run (p ++ 10 :: 59 :: 32 :: 119 :: 111 :: 114 :: 100 :: 115 :: 10 :: u) (.blanks 0 p.length) r := by
  refine .b_blank (bcls_blank (c := 10) gp0 (by decide)) (.b_line (by rw [bcls, gp 1]; rfl) ?_)
  rw [lineEnd_on (c := 59) (gp 1) (by decide), lineEnd_on (c := 32) (gp 2) (by decide), lineEnd_on (c := 119) (gp 3) (by decide), lineEnd_on (c := 111) (gp 4) (by decide), lineEnd_on (c := 114) (gp 5) (by decide), lineEnd_on (c := 100) (gp 6) (by decide), lineEnd_on (c := 115) (gp 7) (by decide), lineEnd_at (gp 8)]
  exact .b_blank (bcls_blank (c := 10) (gp 8) (by decide)) h
theorem gap2 {r : Rs} (h : Run (p ++ 10 :: 35 :: 124 :: 32 :: 97 :: 32 :: 35 :: 124 :: 32 :: 98 :: 32 :: 124 :: 35 :: 32 :: 124 :: 35 :: u) (.blanks 0 (p.length + 16)) r) :
    Run (p ++ 10 :: 35 :: 124 :: 32 :: 97 :: 32 :: 35 :: 124 :: 32 :: 98 :: 32 :: 124 :: 35 :: 32 :: 124 :: 35 :: u) (.blanks 0 p.length) r := by
  refine .b_blank (bcls_blank (c := 10) gp0 (by decide)) (.b_nest (e := p.length + 16) (by rw [bcls, gp 1, show p.length + 1 + 1 = p.length + 2 by omega, gp 2]; rfl) ?_ h)
  rw [nestF_open (gp 1) (gp 2), nestF_on (c := 32) (gp 3) (by decide) (by decide), nestF_on (c := 97) (gp 4) (by decide) (by decide), nestF_on (c := 32) (gp 5) (by decide) (by decide), nestF_open (gp 6) (gp 7),
    nestF_on (c := 32) (gp 8) (by decide) (by decide), nestF_on (c := 98) (gp 9) (by decide) (by decide), nestF_on (c := 32) (gp 10) (by decide) (by decide), nestF_shut (gp 11) (gp 12), if_neg (by omega),
    nestF_on (c := 32) (gp 13) (by decide) (by decide), nestF_shut (gp 14) (gp 15), if_pos (by omega)]
theorem gap3 {r : Rs} (h : Run (p ++ 10 :: 35 :: 59 :: 40 :: 120 :: 32 :: 34 :: 121 :: 34 :: 41 :: 32 :: u) (.blanks 0 (p.length + 11)) r) :
    Run (p ++ 10 :: 35 :: 59 :: 40 :: 120 :: 32 :: 34 :: 121 :: 34 :: 41 :: 32 :: u) (.blanks 0 p.length) r := by
  have hx : tokR (p ++ 10 :: 35 :: 59 :: 40 :: 120 :: 32 :: 34 :: 121 :: 34 :: 41 :: 32 :: u) (p.length + 4) = .ok (dSym [120], p.length + 5) := by
    have hs : tokStop (p ++ 10 :: 35 :: 59 :: 40 :: 120 :: 32 :: 34 :: 121 :: 34 :: 41 :: 32 :: u) (p.length + 4) = p.length + 5 := by
      unfold tokStop
      rw [gp 4, if_neg (by simp), tokEnd_on (c := 120) (gp 4) (by decide), tokEnd_at (c := 32) (gp 5) (by decide)]
    unfold tokR
    rw [gp 4, if_neg (by simp), hs]
    have hc : cut (p ++ 10 :: 35 :: 59 :: 40 :: 120 :: 32 :: 34 :: 121 :: 34 :: 41 :: 32 :: u) (p.length + 4) (p.length + 5) = [120] := by
      unfold cut
      rw [List.drop_append, List.drop_eq_nil_of_le (by omega), show p.length + 4 - p.length = 4 by omega, show p.length + 5 - (p.length + 4) = 1 by omega]
      rfl
    rw [hc]
    have hp : plainF [120] = .ok (dSym [120]) := by simp [plainF, numF, symF, isLet, isD]
    rw [hp]
  have hy : strR (p ++ 10 :: 35 :: 59 :: 40 :: 120 :: 32 :: 34 :: 121 :: 34 :: 41 :: 32 :: u) (p.length + 6) = .ok (dStr [121], p.length + 9) := by
    have hl : ∀ k, k < 11 → p.length + k < (p ++ 10 :: 35 :: 59 :: 40 :: 120 :: 32 :: 34 :: 121 :: 34 :: 41 :: 32 :: u).length := fun k hk => by simp; omega
    have hg : ∀ k c (hk : k < 11), (10 :: 35 :: 59 :: 40 :: 120 :: 32 :: 34 :: 121 :: 34 :: 41 :: 32 :: u)[k]? = some c → (p ++ 10 :: 35 :: 59 :: 40 :: 120 :: 32 :: 34 :: 121 :: 34 :: 41 :: 32 :: u)[p.length + k]'(hl k hk) = c := fun k c hk h => by
      have := gp (p := p) (u := 10 :: 35 :: 59 :: 40 :: 120 :: 32 :: 34 :: 121 :: 34 :: 41 :: 32 :: u) k
      rw [h, List.getElem?_eq_getElem (hl k hk)] at this
      exact Option.some.inj this
    unfold strR
    rw [show p.length + 6 + 1 = p.length + 7 by omega, strF, dif_pos (hl 7 (by omega)), hg 7 121 (by omega) rfl, if_neg (by decide), if_neg (by decide), show p.length + 7 + 1 = p.length + 8 by omega, strF, dif_pos (hl 8 (by omega)), hg 8 34 (by omega) rfl, if_pos rfl]
    rfl
  have hst : ∀ (k : Nat) (c : UInt8), (10 :: 35 :: 59 :: 40 :: 120 :: 32 :: 34 :: 121 :: 34 :: 41 :: 32 :: u)[k]? = some c → isBl c = false → c ≠ 59 → c ≠ 35 → ∀ d, Run (p ++ 10 :: 35 :: 59 :: 40 :: 120 :: 32 :: 34 :: 121 :: 34 :: 41 :: 32 :: u) (.blanks d (p.length + k)) (.ok (d0, p.length + k)) :=
    fun k c h h1 h2 h3 d => .b_stop (bcls_stop (c := c) (by rw [gp k]; exact h) h1 h2 h3)
  have hlen : ¬ ∀ k, k < 11 → False := fun h => h 0 (by omega)
  have hic : ∀ (k : Nat) (c : UInt8) (acc : List DV), k < 11 → (10 :: 35 :: 59 :: 40 :: 120 :: 32 :: 34 :: 121 :: 34 :: 41 :: 32 :: u)[k]? = some c → c ≠ 41 → c ≠ 46 → icls (p ++ 10 :: 35 :: 59 :: 40 :: 120 :: 32 :: 34 :: 121 :: 34 :: 41 :: 32 :: u) false acc (p.length + k) = .more := fun k c acc hk h h1 h2 => by
    unfold icls
    rw [if_neg (by simp; omega), gp k, h, if_neg (by simpa using h1), dotAt, gp k, h, if_neg (by simp [h2])]
  refine .b_blank (bcls_blank (c := 10) gp0 (by decide)) (.b_skip (x := dList [dSym [120], dStr [121]] []) (e := p.length + 10) (by rw [bcls, gp 1, show p.length + 1 + 1 = p.length + 2 by omega, gp 2]; rfl) ?_ (.b_blank (bcls_blank (c := 32) (gp 10) (by decide)) h))
  refine .n_ok (hst 3 40 rfl (by decide) (by decide) (by decide) 0) (by simp) ?_
  refine .d_list (by rw [dcls, gp 3]; rfl) (by omega) ?_
  refine .i_more (hst 4 120 rfl (by decide) (by decide) (by decide) _) (hic 4 120 _ (by omega) rfl (by decide) (by decide)) (by rw [← hx]; exact .d_tok (by rw [dcls, gp 4]; rfl)) ?_
  have h5 : ∀ d, Run (p ++ 10 :: 35 :: 59 :: 40 :: 120 :: 32 :: 34 :: 121 :: 34 :: 41 :: 32 :: u) (.blanks d (p.length + 5)) (.ok (d0, p.length + 6)) := fun d => .b_blank (bcls_blank (c := 32) (gp 5) (by decide)) (hst 6 34 rfl (by decide) (by decide) (by decide) d)
  refine .i_more (h5 _) (hic 6 34 _ (by omega) rfl (by decide) (by decide)) (by rw [← hy]; exact .d_str (by rw [dcls, gp 6]; rfl)) ?_
  have h9 := Run.i_close (v := false) (acc := [] ++ [dSym [120]] ++ [dStr [121]]) (hst 9 41 rfl (by decide) (by decide) (by decide) (0 + 1)) (by
    unfold icls
    rw [if_neg (by simp), gp 9, if_pos (by simp)])
  exact h9
/-- a gap, whatever stands ahead and behind -/
theorem gap_via (g : Nat) {r : Rs} (h : Run (p ++ (10 :: (gap g ++ u))) (.blanks 0 (p.length + (1 + (gap g).length))) r) : Run (p ++ (10 :: (gap g ++ u))) (.blanks 0 p.length) r := by
  rcases (show g = 0 ∨ g = 1 ∨ g = 2 ∨ g = 3 ∨ (g ≠ 0 ∧ g ≠ 1 ∧ g ≠ 2 ∧ g ≠ 3) by omega) with rfl | rfl | rfl | rfl | ⟨h0, h1, h2, h3⟩
  · exact gap0 h
  · exact gap1 h
  · exact gap2 h
  · exact gap3 h
  · have e : gap g = [9, 13, 10] := by unfold gap; rw [if_neg h0, if_neg h1, if_neg h2, if_neg h3]
    rw [e] at h ⊢
    exact gap4 h
theorem all_acc {i : Nat} {acc : List DV} {r : Except (Nat × Nat) (List DV)} (h : AllR s i acc r) : ∀ {l : List DV}, r = .ok l → ∃ m, l = acc ++ m ∧ ∀ a, AllR s i a (.ok (a ++ m)) := by
  induction h with
  | err h1 => intro l h; cases h
  | fin h1 h2 => intro l h; cases h; exact ⟨[], by simp, fun a => by rw [List.append_nil]; exact .fin h1 h2⟩
  | bad h1 h2 h3 => intro l h; cases h
  | more h1 h2 h3 h4 ih =>
    intro l h
    obtain ⟨m, hm, ha⟩ := ih h
    rename_i y f r
    refine ⟨y :: m, by rw [hm]; simp, fun a => .more h1 h2 h3 ?_⟩
    have := ha (a ++ [y])
    rwa [List.append_assoc] at this
/-- one more text and its gap -/
theorem all_gap {t rest : List UInt8} {m : List DV} (g : Nat) (h : AllR t 0 [] (.ok m)) {a : List DV} {r : Except (Nat × Nat) (List DV)}
    (hr : AllR (p ++ (t ++ (10 :: (gap g ++ rest)))) (p.length + (t.length + (1 + (gap g).length))) (a ++ m) r) : AllR (p ++ (t ++ (10 :: (gap g ++ rest)))) p.length a r := by
  obtain ⟨m', hm, ha⟩ := all_acc h rfl
  simp only [List.nil_append] at hm
  subst hm
  have h1 := ha a
  have h2 : AllR (p ++ t ++ (10 :: (gap g ++ rest))) (p.length + t.length) (a ++ m) r := by
    have h3 : AllR ((p ++ t) ++ (10 :: (gap g ++ rest))) ((p ++ t).length + (1 + (gap g).length)) (a ++ m) r := by
      rw [List.length_append, List.append_assoc, Nat.add_assoc]; exact hr
    have h4 := all_via (fun q hq => gap_via (p := p ++ t) (u := rest) g hq) h3
    rwa [List.length_append] at h4
  have h5 := all_ext (p := p) (s := t) (t := 10 :: (gap g ++ rest)) (.inr ⟨_, rfl⟩) h1 rfl (Nat.zero_le _) h2
  rw [List.append_assoc] at h5
  exact h5
/-- one after the other -/
theorem chain_step {i : Nat} {acc l : List DV} (h : AllR s i acc (.ok l)) (hi : i ≤ s.length) :
    (l = acc ∧ Run s (.next 0 i) (.error (s.length, 10))) ∨ (∃ y f m, l = acc ++ y :: m ∧ Run s (.next 0 i) (.ok (y, f)) ∧ i < f ∧ f ≤ s.length ∧ AllR s f (acc ++ [y]) (.ok l)) := by
  cases h with
  | fin h1 h2 => exact .inl ⟨rfl, .n_fin h1 h2⟩
  | more h1 h2 h3 h4 =>
    rename_i x e y f
    obtain ⟨m, hm, _⟩ := all_acc h4 rfl
    have a : _ ≤ _ := run_goes h1 rfl
    have b := run_goes h3 rfl h2
    exact .inr ⟨y, f, m, by rw [hm]; simp, .n_ok h1 h2 h3, by omega, run_le h3 rfl h2, h4⟩
end
end Go.Proofs.YtgeokccfobmeiaaGreatDoorM
/- Lists within lists. -/
namespace Go.Proofs.YtgeokccfobmeiaaGreatDoorM
set_option linter.unusedVariables false
set_option linter.unusedSimpArgs false
section
variable {T : List UInt8}
/-- a place where a datum begins that is no ) and no dot -/
structure Fst (T : List UInt8) (i : Nat) : Prop where
  st : bcls T i = .stop
  ic : ∀ v acc, icls T v acc i = .more
theorem fst_of {i : Nat} {c : UInt8} (h : T[i]? = some c) (hb : isBl c = false) (h1 : c ≠ 59) (h2 : c ≠ 35) (h3 : c ≠ 41) (h4 : c ≠ 46) : Fst T i :=
  ⟨bcls_stop h hb h1 h2, fun v acc => by
    have := (List.getElem?_eq_some_iff.1 h).1
    unfold icls
    rw [if_neg (by omega), h, if_neg (by simpa using h3), dotAt, h, if_neg (by simp [h4])]⟩
theorem fst_vec {i : Nat} (h : T[i]? = some 35) (h2 : T[i + 1]? = some 40) : Fst T i :=
  ⟨by rw [bcls, h, h2]; rfl, fun v acc => by
    have := (List.getElem?_eq_some_iff.1 h).1
    unfold icls
    rw [if_neg (by omega), h, if_neg (by simp), dotAt, h, if_neg (by simp)]⟩
theorem Fst.lt {i : Nat} (h : Fst T i) : i < T.length := bcls_lt (by rw [h.st]; decide)
theorem close_at {i : Nat} (v : Bool) (acc : List DV) (h : T[i]? = some 41) : icls T v acc i = .close := by
  have := (List.getElem?_eq_some_iff.1 h).1
  unfold icls
  rw [if_neg (by omega), if_pos h]
theorem stop41 {d i : Nat} (h : T[i]? = some 41) : Run T (.blanks d i) (.ok (d0, i)) := .b_stop (bcls_stop h (by decide) (by decide) (by decide))
theorem deep_paren {d i e : Nat} {x : DV} (h : T[i]? = some 40) (hf : Fst T (i + 1)) (hr : Run T (.datum (d + 1) (i + 1)) (.ok (x, e))) (he : T[e]? = some 41) (hd : d < 100) : Run T (.datum d i) (.ok (dList [x] [], e + 1)) := by
  have h9 := Run.i_close (v := false) (acc := [] ++ [x]) (stop41 (d := d + 1) he) (close_at _ _ he)
  exact .d_list (by rw [dcls, h]; rfl) hd (.i_more (.b_stop hf.st) (hf.ic _ _) hr h9)
theorem deep_vec {d i e : Nat} {x : DV} (h : T[i]? = some 35) (h2 : T[i + 1]? = some 40) (hf : Fst T (i + 2)) (hr : Run T (.datum (d + 1) (i + 2)) (.ok (x, e))) (he : T[e]? = some 41) (hd : d < 100) : Run T (.datum d i) (.ok (dVec [x], e + 1)) := by
  have h9 := Run.i_close (v := true) (acc := [] ++ [x]) (stop41 (d := d + 1) he) (close_at _ _ he)
  exact .d_vec (by rw [dcls, h, h2]; rfl) hd (.i_more (.b_stop hf.st) (hf.ic _ _) hr h9)
theorem deep_quote {d i e : Nat} {x : DV} (h : T[i]? = some 39) (hf : Fst T (i + 1)) (hr : Run T (.datum (d + 1) (i + 1)) (.ok (x, e))) (hd : d < 100) : Run T (.datum d i) (.ok (dList [dSym sQuote, x] [], e)) :=
  .d_short (nm := sQuote) (n := 1) (by rw [dcls, h]; rfl) hd (.n_ok (.b_stop hf.st) hf.lt hr)
theorem one_tok {i : Nat} {c : UInt8} (h : T[i]? = some c) (hd : isDl c = false) (hc : c ≠ 35) (hk : ∀ k, T[i + 1]? = some k → isDl k = true) (hp : plainF [c] = .ok (dSym [c])) : tokR T i = .ok (dSym [c], i + 1) := by
  obtain ⟨hl, he⟩ := List.getElem?_eq_some_iff.1 h
  have hs : tokStop T i = i + 1 := by
    unfold tokStop
    rw [h, if_neg (by simp [hc]), tokEnd_on h hd]
    rcases Nat.lt_or_ge (i + 1) T.length with h1 | h1
    · exact tokEnd_at (List.getElem?_eq_getElem h1) (hk _ (List.getElem?_eq_getElem h1))
    · exact tokEnd_len h1
  have hcut : cut T i (i + 1) = [c] := by
    unfold cut
    rw [show i + 1 - i = 1 by omega, List.drop_eq_getElem_cons hl, he]
    rfl
  unfold tokR
  rw [h, if_neg (by simp [hc]), hs, hcut, hp]
theorem sym_x : plainF [120] = .ok (dSym [120]) := by simp [plainF, numF, symF, isLet, isD]
theorem sym_a : plainF [97] = .ok (dSym [97]) := by simp [plainF, numF, symF, isLet, isD]
theorem tok_datum {d i : Nat} {c : UInt8} (h : T[i]? = some c) (h1 : c = 120 ∨ c = 97) (hk : ∀ k, T[i + 1]? = some k → isDl k = true) : Run T (.datum d i) (.ok (dSym [c], i + 1)) := by
  rcases h1 with rfl | rfl
  · rw [← one_tok h (by decide) (by decide) hk sym_x]
    exact .d_tok (by rw [dcls, h]; rfl)
  · rw [← one_tok h (by decide) (by decide) hk sym_a]
    exact .d_tok (by rw [dcls, h]; rfl)
theorem deep_pa {d i e : Nat} {x : DV} (h : T[i]? = some 40) (h1 : T[i + 1]? = some 97) (h2 : T[i + 2]? = some 32) (hf : Fst T (i + 3)) (hr : Run T (.datum (d + 1) (i + 3)) (.ok (x, e))) (he : T[e]? = some 41) (hd : d < 100) : Run T (.datum d i) (.ok (dList [dSym [97], x] [], e + 1)) := by
  have h9 := Run.i_close (v := false) (acc := [] ++ [dSym [97]] ++ [x]) (stop41 (d := d + 1) he) (close_at _ _ he)
  have ha := fst_of h1 (by decide) (by decide) (by decide) (by decide) (by decide)
  have ht := tok_datum (d := d + 1) h1 (.inr rfl) (fun k hk => by rw [show i + 1 + 1 = i + 2 by omega, h2] at hk; cases hk; decide)
  exact .d_list (by rw [dcls, h]; rfl) hd (.i_more (.b_stop ha.st) (ha.ic _ _) ht (.i_more (.b_blank (bcls_blank h2 (by decide)) (.b_stop hf.st)) (hf.ic _ _) hr h9))
/-! refused -/
theorem ref_paren {d i : Nat} {p : Nat × Nat} (h : T[i]? = some 40) (hf : Fst T (i + 1)) (hr : Run T (.datum (d + 1) (i + 1)) (.error p)) (hd : d < 100) : Run T (.datum d i) (.error p) :=
  .d_list (by rw [dcls, h]; rfl) hd (.i_moreE (.b_stop hf.st) (hf.ic _ _) hr)
theorem ref_vec {d i : Nat} {p : Nat × Nat} (h : T[i]? = some 35) (h2 : T[i + 1]? = some 40) (hf : Fst T (i + 2)) (hr : Run T (.datum (d + 1) (i + 2)) (.error p)) (hd : d < 100) : Run T (.datum d i) (.error p) :=
  .d_vec (by rw [dcls, h, h2]; rfl) hd (.i_moreE (.b_stop hf.st) (hf.ic _ _) hr)
theorem ref_quote {d i : Nat} {p : Nat × Nat} (h : T[i]? = some 39) (hf : Fst T (i + 1)) (hr : Run T (.datum (d + 1) (i + 1)) (.error p)) (hd : d < 100) : Run T (.datum d i) (.error p) :=
  .d_shortE (nm := sQuote) (n := 1) (by rw [dcls, h]; rfl) hd (.n_ok (.b_stop hf.st) hf.lt hr)
theorem ref_pa {d i : Nat} {p : Nat × Nat} (h : T[i]? = some 40) (h1 : T[i + 1]? = some 97) (h2 : T[i + 2]? = some 32) (hf : Fst T (i + 3)) (hr : Run T (.datum (d + 1) (i + 3)) (.error p)) (hd : d < 100) : Run T (.datum d i) (.error p) := by
  have ha := fst_of h1 (by decide) (by decide) (by decide) (by decide) (by decide)
  have ht := tok_datum (d := d + 1) h1 (.inr rfl) (fun k hk => by rw [show i + 1 + 1 = i + 2 by omega, h2] at hk; cases hk; decide)
  exact .d_list (by rw [dcls, h]; rfl) hd (.i_more (.b_stop ha.st) (ha.ic _ _) ht (.i_moreE (.b_blank (bcls_blank h2 (by decide)) (.b_stop hf.st)) (hf.ic _ _) hr))
/-- the openings -/
def opn (g : Nat) : List UInt8 := if g = 0 then [40] else if g = 1 then [35, 40] else if g = 2 then [39] else [40, 97, 32]
def rep (k : Nat) (o : List UInt8) : List UInt8 := (List.replicate k o).flatten
def nested (k g : Nat) : List UInt8 := rep k (opn g) ++ (120 :: (if g = 2 then [] else List.replicate k 41))
theorem rep_len (o : List UInt8) : ∀ k, (rep k o).length = k * o.length
  | 0 => by simp [rep]
  | k + 1 => by
    have := rep_len o k
    simp only [rep, List.replicate_succ, List.flatten_cons, List.length_append] at this ⊢
    rw [this, Nat.add_mul]; omega
theorem rep_get (o : List UInt8) : ∀ (k j m : Nat), j < k → m < o.length → (rep k o)[j * o.length + m]? = o[m]?
  | 0, j, m, h, _ => absurd h (by omega)
  | k + 1, 0, m, _, hm => by
    simp only [rep, List.replicate_succ, List.flatten_cons, Nat.zero_mul, Nat.zero_add]
    rw [List.getElem?_append_left hm]
  | k + 1, j + 1, m, h, hm => by
    have := rep_get o k j m (by omega) hm
    simp only [rep, List.replicate_succ, List.flatten_cons] at this ⊢
    rw [List.getElem?_append_right (by rw [Nat.add_mul]; omega), show (j + 1) * o.length + m - o.length = j * o.length + m by rw [Nat.add_mul]; omega]
    exact this
theorem nest_get {k g j m : Nat} (h : j < k) (hm : m < (opn g).length) : (nested k g)[j * (opn g).length + m]? = (opn g)[m]? := by
  unfold nested
  rw [List.getElem?_append_left (by rw [rep_len]; have := Nat.mul_le_mul_right (opn g).length (show j + 1 ≤ k from h); rw [Nat.add_mul] at this; omega)]
  exact rep_get _ k j m h hm
theorem nest_x {k g : Nat} : (nested k g)[k * (opn g).length]? = some 120 := by
  unfold nested
  rw [← rep_len, List.getElem?_append_right (Nat.le_refl _), Nat.sub_self]
  rfl
theorem nest_close {k g j : Nat} (hg : g ≠ 2) (h : j < k) : (nested k g)[k * (opn g).length + 1 + j]? = some 41 := by
  unfold nested
  rw [← rep_len, List.getElem?_append_right (by omega), show (rep k (opn g)).length + 1 + j - (rep k (opn g)).length = j + 1 by omega, List.getElem?_cons_succ, if_neg hg, List.getElem?_replicate, if_pos h]
theorem nest_len {k g : Nat} : (nested k g).length = k * (opn g).length + 1 + (if g = 2 then 0 else k) := by
  unfold nested
  rw [List.length_append, rep_len, List.length_cons]
  split <;> simp <;> omega
theorem opn_cases (g : Nat) : opn g = [40] ∧ g = 0 ∨ opn g = [35, 40] ∧ g = 1 ∨ opn g = [39] ∧ g = 2 ∨ opn g = [40, 97, 32] ∧ g ≠ 0 ∧ g ≠ 1 ∧ g ≠ 2 := by
  unfold opn
  by_cases h0 : g = 0
  · exact .inl ⟨if_pos h0, h0⟩
  · by_cases h1 : g = 1
    · exact .inr (.inl ⟨by rw [if_neg h0, if_pos h1], h1⟩)
    · by_cases h2 : g = 2
      · exact .inr (.inr (.inl ⟨by rw [if_neg h0, if_neg h1, if_pos h2], h2⟩))
      · exact .inr (.inr (.inr ⟨by rw [if_neg h0, if_neg h1, if_neg h2], h0, h1, h2⟩))
/-- a datum begins at each level -/
theorem nest_fst {k g j : Nat} (h : j ≤ k) : Fst (nested k g) (j * (opn g).length) := by
  rcases Nat.lt_or_ge j k with h1 | h1
  · have hg := fun m hm => nest_get (g := g) (m := m) h1 hm
    rcases opn_cases g with ⟨e, _⟩ | ⟨e, _⟩ | ⟨e, _⟩ | ⟨e, _⟩ <;> rw [e] at hg ⊢
    · exact fst_of (hg 0 (by decide)) (by decide) (by decide) (by decide) (by decide) (by decide)
    · exact fst_vec (hg 0 (by decide)) (hg 1 (by decide))
    · exact fst_of (hg 0 (by decide)) (by decide) (by decide) (by decide) (by decide) (by decide)
    · exact fst_of (hg 0 (by decide)) (by decide) (by decide) (by decide) (by decide) (by decide)
  · obtain rfl : j = k := by omega
    exact fst_of nest_x (by decide) (by decide) (by decide) (by decide) (by decide)
theorem nest_ok {k g : Nat} (hk : k ≤ 100) : ∀ (n j : Nat), j + n = k → ∃ x, Run (nested k g) (.datum j (j * (opn g).length)) (.ok (x, k * (opn g).length + 1 + (if g = 2 then 0 else n)))
  | 0, j, h => by
    obtain rfl : j = k := by omega
    refine ⟨dSym [120], ?_⟩
    have := tok_datum (d := j) (nest_x (k := j) (g := g)) (.inl rfl) (fun c hc => by
      by_cases hg : g = 2
      · rw [List.getElem?_eq_none (by rw [nest_len, if_pos hg]; omega)] at hc
        cases hc
      · rcases Nat.eq_zero_or_pos j with h0 | h0
        · rw [List.getElem?_eq_none (by rw [nest_len, if_neg hg]; omega)] at hc
          cases hc
        · rw [show j * (opn g).length + 1 = j * (opn g).length + 1 + 0 by omega, nest_close hg h0] at hc
          cases hc; decide)
    have e : (if g = 2 then 0 else 0) = 0 := by split <;> rfl
    rw [e]
    exact this
  | n + 1, j, h => by
    obtain ⟨x, hx⟩ := nest_ok (g := g) hk n (j + 1) (by omega)
    have hjk : j < k := by omega
    have hg := fun m hm => nest_get (g := g) (m := m) hjk hm
    have hf := nest_fst (k := k) (g := g) (j := j + 1) (by omega)
    have hcl := fun (h2 : g ≠ 2) => nest_close (k := k) (j := n) h2 (by omega)
    rw [Nat.add_mul, Nat.one_mul] at hf hx
    rcases opn_cases g with ⟨e, rfl⟩ | ⟨e, rfl⟩ | ⟨e, rfl⟩ | ⟨e, h0, h1, h2⟩
    · rw [e] at hg hf hx hcl ⊢
      exact ⟨_, deep_paren (hg 0 (by decide)) hf hx (hcl (by decide)) (by omega)⟩
    · rw [e] at hg hf hx hcl ⊢
      exact ⟨_, deep_vec (hg 0 (by decide)) (hg 1 (by decide)) hf hx (hcl (by decide)) (by omega)⟩
    · rw [e] at hg hf hx ⊢
      exact ⟨_, deep_quote (hg 0 (by decide)) hf hx (by omega)⟩
    · rw [e] at hg hf hx hcl ⊢
      rw [if_neg h2] at hx ⊢
      exact ⟨_, deep_pa (hg 0 (by decide)) (hg 1 (by decide)) (hg 2 (by decide)) hf hx (hcl h2) (by omega)⟩
theorem nest_no {k g : Nat} (hk : 100 < k) : ∀ (n j : Nat), j + n = 100 → Run (nested k g) (.datum j (j * (opn g).length)) (.error (100 * (opn g).length, 16))
  | 0, j, h => by
    obtain rfl : j = 100 := by omega
    have hg := fun m hm => nest_get (g := g) (m := m) hk hm
    rcases opn_cases g with ⟨e, rfl⟩ | ⟨e, rfl⟩ | ⟨e, rfl⟩ | ⟨e, h0, h1, h2⟩ <;> rw [e] at hg ⊢
    · exact .d_listD (by rw [dcls, show (nested k 0)[100 * [(40 : UInt8)].length]? = some 40 from hg 0 (by decide)]; rfl) (Nat.le_refl _)
    · exact .d_vecD (by rw [dcls, show (nested k 1)[100 * [(35 : UInt8), 40].length]? = some 35 from hg 0 (by decide), show (nested k 1)[100 * [(35 : UInt8), 40].length + 1]? = some 40 from hg 1 (by decide)]; rfl) (Nat.le_refl _)
    · exact .d_shortD (nm := sQuote) (n := 1) (by rw [dcls, show (nested k 2)[100 * [(39 : UInt8)].length]? = some 39 from hg 0 (by decide)]; rfl) (Nat.le_refl _)
    · exact .d_listD (by rw [dcls, show (nested k g)[100 * [(40 : UInt8), 97, 32].length]? = some 40 from hg 0 (by decide)]; rfl) (Nat.le_refl _)
  | n + 1, j, h => by
    have hx := nest_no (g := g) hk n (j + 1) (by omega)
    have hjk : j < k := by omega
    have hg := fun m hm => nest_get (g := g) (m := m) hjk hm
    have hf := nest_fst (k := k) (g := g) (j := j + 1) (by omega)
    rw [Nat.add_mul, Nat.one_mul] at hf
    rw [Nat.add_mul j 1, Nat.one_mul] at hx
    rcases opn_cases g with ⟨e, rfl⟩ | ⟨e, rfl⟩ | ⟨e, rfl⟩ | ⟨e, h0, h1, h2⟩ <;> rw [e] at hg hf hx ⊢
    · exact ref_paren (hg 0 (by decide)) hf hx (by omega)
    · exact ref_vec (hg 0 (by decide)) (hg 1 (by decide)) hf hx (by omega)
    · exact ref_quote (hg 0 (by decide)) hf hx (by omega)
    · exact ref_pa (hg 0 (by decide)) (hg 1 (by decide)) (hg 2 (by decide)) hf hx (by omega)
/-- what the nested text reads as -/
theorem nest_all (k g : Nat) : ∃ r, AllR (nested k g) 0 [] r ∧ (k ≤ 100 → ∃ x, r = .ok [x]) ∧ (100 < k → r = .error (100 * (opn g).length, 16)) := by
  have hf := nest_fst (k := k) (g := g) (j := 0) (by omega)
  rw [Nat.zero_mul] at hf
  rcases Nat.lt_or_ge 100 k with h | h
  · have := nest_no (g := g) h 100 0 (by omega)
    rw [Nat.zero_mul] at this
    exact ⟨_, .bad (.b_stop hf.st) hf.lt this, fun h2 => absurd h2 (by omega), fun _ => rfl⟩
  · obtain ⟨x, hx⟩ := nest_ok (g := g) h k 0 (by omega)
    rw [Nat.zero_mul, ← nest_len] at hx
    exact ⟨_, .more (.b_stop hf.st) hf.lt hx (.fin (.b_fin (bcls_ge (Nat.le_refl _))) (Nat.le_refl _)), fun _ => ⟨x, rfl⟩, fun h2 => absurd h2 (by omega)⟩
end
end Go.Proofs.YtgeokccfobmeiaaGreatDoorM
/- What is written is read: tokens and texts. -/
namespace Go.Proofs.YtgeokccfobmeiaaGreatDoorM
set_option linter.unusedVariables false
set_option linter.unusedSimpArgs false
def hx (a : Nat) : UInt8 := if a < 10 then UInt8.ofNat (48 + a) else UInt8.ofNat (87 + a)
def hx2 (n : Nat) : List UInt8 := [hx (n / 16 % 16), hx (n % 16)]
def wByte (x : Nat) : List UInt8 :=
  if x = 34 then [92, 34] else if x = 92 then [92, 92] else if x = 10 then [92, 110] else if x = 9 then [92, 116]
  else if x < 32 ∨ 126 < x then [92, 120] ++ (hx2 x ++ [59]) else [UInt8.ofNat x]
def wBody (l : List UInt8) : List UInt8 := (l.map fun b => wByte b.toNat).flatten
def wChr (n : Nat) : List UInt8 :=
  if n = 32 then [115, 112, 97, 99, 101] else if n = 10 then [110, 101, 119, 108, 105, 110, 101] else if n = 9 then [116, 97, 98] else if n = 0 then [110, 117, 108]
  else if 33 ≤ n ∧ n ≤ 126 then [UInt8.ofNat n] else 120 :: hx2 n
def wNum (neg : Bool) (v : Nat) : List UInt8 := if neg = true ∧ v ≠ 0 then 45 :: Lib.decDigits v else Lib.decDigits v
theorem hexD_hx : ∀ a : Fin 16, hexD (hx a.val) = some a.val ∧ hx a.val ≠ 59 := by decide +kernel
theorem hx_dl : ∀ a : Fin 16, isDl (hx a.val) = false := by decide +kernel
/-- what may stand behind a token -/
def Dlm (q : List UInt8) : Prop := ∀ c, q[0]? = some c → isDl c = true
theorem get_mid {p t q : List UInt8} {k : Nat} (h : k < t.length) : (p ++ (t ++ q))[p.length + k]? = t[k]? := by
  rw [gp, List.getElem?_append_left h]
theorem tokEnd_run (q : List UInt8) (hq : Dlm q) : ∀ (t p : List UInt8), (∀ c ∈ t, isDl c = false) → tokEnd (p ++ (t ++ q)) p.length = p.length + t.length
  | [], p, _ => by
    rw [List.nil_append]
    cases hc : q[0]? with
    | none => rw [tokEnd_len (by rw [List.getElem?_eq_none_iff] at hc; simp; omega)]; simp
    | some c => rw [tokEnd_at (c := c) (by rw [gp0]; exact hc) (hq c hc)]; simp
  | c :: t, p, h => by
    have h1 : (p ++ (c :: t ++ q))[p.length]? = some c := by rw [gp0]; rfl
    rw [tokEnd_on h1 (h c (List.mem_cons_self ..))]
    have := tokEnd_run q hq t (p ++ [c]) (fun x hx => h x (List.mem_cons_of_mem _ hx))
    rw [List.append_assoc, List.singleton_append, List.length_append] at this
    simp only [List.length_cons, List.length_nil, List.cons_append] at this ⊢
    rw [this]; omega
theorem cut_mid {p t q : List UInt8} : cut (p ++ (t ++ q)) p.length (p.length + t.length) = t := by
  have := cut_ext (p := p) (s := t) (t := q) (i := 0) (j := t.length) (Nat.le_refl _)
  rw [List.append_assoc, Nat.add_zero] at this
  rw [this, cut, List.drop_zero, Nat.sub_zero, List.take_length]
/-- a token that is no character -/
theorem tok_plain {p t q : List UInt8} {x : DV} (hq : Dlm q) (ht : ∀ c ∈ t, isDl c = false) (h0 : t ≠ []) (hn : ¬ (t[0]? = some 35 ∧ t[1]? = some 92)) (hx : plainF t = .ok x) : tokR (p ++ (t ++ q)) p.length = .ok (x, p.length + t.length) := by
  have hno : ¬ ((p ++ (t ++ q))[p.length]? = some 35 ∧ (p ++ (t ++ q))[p.length + 1]? = some 92) := by
    intro h
    rcases t with _ | ⟨c, _ | ⟨e, t⟩⟩
    · exact h0 rfl
    · rw [gp0, gp 1] at h
      have h2 : q[0]? = some 92 := by simpa using h.2
      have := hq _ h2
      exact absurd this (by decide)
    · rw [gp0, gp 1] at h
      exact hn (by simpa using h)
  have hs : tokStop (p ++ (t ++ q)) p.length = p.length + t.length := by
    unfold tokStop
    rw [if_neg hno, tokEnd_run q hq t p ht]
  unfold tokR
  rw [if_neg hno, hs, cut_mid, hx]
/-- a character -/
theorem tok_char {p u q : List UInt8} {n : Nat} {c : UInt8} (hq : Dlm q) (hu : ∀ c ∈ u, isDl c = false) (hx : charF (c :: u) = some n) : tokR (p ++ (35 :: 92 :: c :: u ++ q)) p.length = .ok (dChar n, p.length + (3 + u.length)) := by
  have hc : (p ++ (35 :: 92 :: c :: u ++ q))[p.length]? = some 35 ∧ (p ++ (35 :: 92 :: c :: u ++ q))[p.length + 1]? = some 92 := ⟨by rw [gp0]; rfl, by rw [gp 1]; rfl⟩
  have hs : tokStop (p ++ (35 :: 92 :: c :: u ++ q)) p.length = p.length + (3 + u.length) := by
    unfold tokStop
    rw [if_pos hc, if_pos (by simp)]
    have := tokEnd_run q hq u (p ++ [35, 92, c]) hu
    rw [List.append_assoc, List.length_append] at this
    simp only [List.cons_append, List.nil_append, List.length_cons, List.length_nil] at this ⊢
    rw [show p.length + 3 = p.length + (0 + 1 + 1 + 1) by omega, this]
    omega
  unfold tokR
  rw [if_pos hc, hs]
  have hcut : cut (p ++ (35 :: 92 :: c :: u ++ q)) (p.length + 2) (p.length + (3 + u.length)) = c :: u := by
    have := cut_mid (p := p ++ [35, 92]) (t := c :: u) (q := q)
    rw [List.append_assoc, List.length_append] at this
    simp only [List.cons_append, List.nil_append, List.length_cons, List.length_nil] at this ⊢
    rw [show p.length + (3 + u.length) = p.length + (0 + 1 + 1) + (u.length + 1) by omega]
    exact this
  rw [hcut, hx]
theorem decD (v : Nat) : numV 0 (Lib.decDigits v) = v ∧ (∀ c ∈ Lib.decDigits v, isD c = true) ∧ Lib.decDigits v ≠ [] := numV_dec v
theorem isD_dl {c : UInt8} (h : isD c = true) : isDl c = false ∧ c ≠ 35 ∧ c ≠ 46 ∧ c ≠ 43 ∧ c ≠ 45 := by
  have : ∀ c : Fin 256, isD (UInt8.ofNat c.val) = true → isDl (UInt8.ofNat c.val) = false ∧ UInt8.ofNat c.val ≠ 35 ∧ UInt8.ofNat c.val ≠ 46 ∧ UInt8.ofNat c.val ≠ 43 ∧ UInt8.ofNat c.val ≠ 45 := by decide +kernel
  have h2 := this ⟨c.toNat, c.toNat_lt⟩
  simp only [UInt8.ofNat_toNat] at h2
  exact h2 h
theorem numF_dec (v : Nat) : numF (Lib.decDigits v) = some (v : Int) := by
  obtain ⟨h1, h2, h3⟩ := decD v
  cases hd : Lib.decDigits v with
  | nil => exact absurd hd h3
  | cons c r =>
    rw [hd] at h1 h2
    have hc := isD_dl (h2 c (List.mem_cons_self ..))
    have hu : (if c = 43 ∨ c = 45 then r else c :: r) = c :: r := if_neg (fun h => h.elim hc.2.2.2.1 hc.2.2.2.2)
    unfold numF
    simp only
    rw [hu, if_pos ⟨by simp, List.all_eq_true.2 h2⟩, h1]
    simp [hc.2.2.2.2, sval]
theorem numF_neg (v : Nat) : numF (45 :: Lib.decDigits v) = some (-(v : Int)) := by
  obtain ⟨h1, h2, h3⟩ := decD v
  have hu : (if (45 : UInt8) = 43 ∨ (45 : UInt8) = 45 then Lib.decDigits v else 45 :: Lib.decDigits v) = Lib.decDigits v := if_pos (.inr rfl)
  show (if (if (45 : UInt8) = 43 ∨ (45 : UInt8) = 45 then Lib.decDigits v else 45 :: Lib.decDigits v) ≠ [] ∧ (if (45 : UInt8) = 43 ∨ (45 : UInt8) = 45 then Lib.decDigits v else 45 :: Lib.decDigits v).all isD = true then some (sval (decide ((45 : UInt8) = 45)) (numV 0 (if (45 : UInt8) = 43 ∨ (45 : UInt8) = 45 then Lib.decDigits v else 45 :: Lib.decDigits v))) else none) = _
  rw [hu, if_pos ⟨h3, List.all_eq_true.2 h2⟩, h1]
  simp [sval]
theorem plain_num {t : List UInt8} {z : Int} (h : numF t = some z) (h0 : ∀ c r, t = c :: r → c ≠ 35 ∧ (c = 46 → r ≠ [])) : plainF t = .ok (dInt z) := by
  unfold plainF
  rw [if_neg (by rintro (h | h) <;> exact (h0 _ _ h).1 rfl), if_neg (by rintro (h | h) <;> exact (h0 _ _ h).1 rfl), if_neg (fun h => (h0 _ _ h).2 rfl rfl), h]
theorem sym_of {t : List UInt8} (h : plainF t = .ok (dSym t)) : symF t = true := by
  unfold plainF at h
  split at h
  · simp [dBool, dSym] at h
  · split at h
    · simp [dBool, dSym] at h
    · split at h
      · cases h
      · split at h
        · simp [dInt, dSym] at h
        · split at h
          · assumption
          · cases h
theorem symc_dl {c : UInt8} (h : (isLet c || isNum c || isOdd c) = true) : isDl c = false ∧ c ≠ 35 := by
  have : ∀ c : Fin 256, (isLet (UInt8.ofNat c.val) || isNum (UInt8.ofNat c.val) || isOdd (UInt8.ofNat c.val)) = true → isDl (UInt8.ofNat c.val) = false ∧ UInt8.ofNat c.val ≠ 35 := by decide +kernel
  have h2 := this ⟨c.toNat, c.toNat_lt⟩
  simp only [UInt8.ofNat_toNat] at h2
  exact h2 h
theorem sym_chars {t : List UInt8} (h : symF t = true) : t ≠ [] ∧ ∀ c ∈ t, isDl c = false ∧ c ≠ 35 := by
  cases t with
  | nil => cases h
  | cons c r =>
    simp only [symF, Bool.and_eq_true, List.all_eq_true] at h
    refine ⟨by simp, fun x hx => ?_⟩
    rcases List.mem_cons.1 hx with rfl | hx
    · refine symc_dl ?_
      have := h.1
      revert this
      cases isLet x <;> cases isNum x <;> cases isOdd x <;> decide
    · exact symc_dl (h.2 x hx)
/-- a byte of a text, as it is written -/
theorem codeF_hx {p q : List UInt8} {x : Nat} (hlt : x < 256) : codeF (p ++ (hx2 x ++ 59 :: q)) p.length = .ok (x, p.length + 2) := by
  have h1 := hexD_hx ⟨x / 16 % 16, by omega⟩
  have h2 := hexD_hx ⟨x % 16, by omega⟩
  simp only at h1 h2
  unfold codeF
  rw [show (p ++ (hx2 x ++ 59 :: q))[p.length]? = some (hx (x / 16 % 16)) by rw [gp0]; rfl]
  simp only
  rw [h1.1]
  simp only
  rw [show (p ++ (hx2 x ++ 59 :: q))[p.length + 1]? = some (hx (x % 16)) by rw [gp 1]; rfl]
  simp only
  rw [if_neg h2.2, h2.1]
  simp only
  rw [show (p ++ (hx2 x ++ 59 :: q))[p.length + 2]? = some 59 by rw [gp 2]; rfl]
  simp only
  rw [if_pos (by trivial), show 16 * (x / 16 % 16) + x % 16 = x by omega]
theorem strF_lt {s : List UInt8} {i : Nat} {c : UInt8} (h : s[i]? = some c) (acc : List UInt8) (h1 : c ≠ 34) (h2 : c ≠ 92) : strF s i acc = strF s (i + 1) (acc ++ [c]) := by
  obtain ⟨hl, rfl⟩ := List.getElem?_eq_some_iff.1 h
  rw [strF, dif_pos hl, if_neg h1, if_neg h2]
theorem strF_esc {s : List UInt8} {i : Nat} {c b : UInt8} (h : s[i]? = some 92) (hc : s[i + 1]? = some c) (acc : List UInt8) (h1 : (c = 34 ∧ b = 34) ∨ (c = 92 ∧ b = 92) ∨ (c = 110 ∧ b = 10) ∨ (c = 116 ∧ b = 9)) : strF s i acc = strF s (i + 2) (acc ++ [b]) := by
  obtain ⟨hl, he⟩ := List.getElem?_eq_some_iff.1 h
  rw [strF, dif_pos hl, he, if_neg (by decide), if_pos rfl, hc]
  rcases h1 with ⟨rfl, rfl⟩ | ⟨rfl, rfl⟩ | ⟨rfl, rfl⟩ | ⟨rfl, rfl⟩ <;> simp
theorem strF_hex {s : List UInt8} {i v e : Nat} (h : s[i]? = some 92) (hc : s[i + 1]? = some 120) (acc : List UInt8) (hv : codeF s (i + 2) = .ok (v, e)) : strF s i acc = strF s (e + 1) (acc ++ [UInt8.ofNat v]) := by
  obtain ⟨hl, he⟩ := List.getElem?_eq_some_iff.1 h
  rw [strF, dif_pos hl, he, if_neg (by decide), if_pos rfl, hc]
  simp only
  rw [if_neg (by decide), if_neg (by decide), if_neg (by decide), if_neg (by decide), if_pos (by trivial)]
  split
  · rename_i h1; rw [hv] at h1; cases h1
  · rename_i h1; rw [hv] at h1; cases h1
  · rename_i h1; rw [hv] at h1; cases h1; rfl
theorem strF_body (q : List UInt8) : ∀ (l p acc : List UInt8), strF (p ++ (wBody l ++ 34 :: q)) p.length acc = .ok (acc ++ l, p.length + (wBody l).length + 1)
  | [], p, acc => by
    have h : (p ++ (wBody [] ++ 34 :: q))[p.length]? = some 34 := by rw [gp0]; rfl
    obtain ⟨hl, he⟩ := List.getElem?_eq_some_iff.1 h
    rw [strF, dif_pos hl, if_pos he]
    simp [wBody]
  | b :: l, p, acc => by
    have hb : wBody (b :: l) = wByte b.toNat ++ wBody l := rfl
    have hstep : strF (p ++ (wBody (b :: l) ++ 34 :: q)) p.length acc = strF (p ++ (wBody (b :: l) ++ 34 :: q)) (p.length + (wByte b.toNat).length) (acc ++ [b]) := by
      rw [hb]
      have hb2 : UInt8.ofNat b.toNat = b := UInt8.ofNat_toNat
      have hlt : b.toNat < 256 := b.toNat_lt
      unfold wByte
      by_cases h1 : b.toNat = 34
      · rw [if_pos h1]
        exact strF_esc (c := 34) (b := b) (by rw [gp0]; rfl) (by rw [gp 1]; rfl) acc (.inl ⟨rfl, by rw [← hb2, h1]; rfl⟩)
      · rw [if_neg h1]
        by_cases h2 : b.toNat = 92
        · rw [if_pos h2]
          exact strF_esc (c := 92) (b := b) (by rw [gp0]; rfl) (by rw [gp 1]; rfl) acc (.inr (.inl ⟨rfl, by rw [← hb2, h2]; rfl⟩))
        · rw [if_neg h2]
          by_cases h3 : b.toNat = 10
          · rw [if_pos h3]
            exact strF_esc (c := 110) (b := b) (by rw [gp0]; rfl) (by rw [gp 1]; rfl) acc (.inr (.inr (.inl ⟨rfl, by rw [← hb2, h3]; rfl⟩)))
          · rw [if_neg h3]
            by_cases h4 : b.toNat = 9
            · rw [if_pos h4]
              exact strF_esc (c := 116) (b := b) (by rw [gp0]; rfl) (by rw [gp 1]; rfl) acc (.inr (.inr (.inr ⟨rfl, by rw [← hb2, h4]; rfl⟩)))
            · rw [if_neg h4]
              by_cases h5 : b.toNat < 32 ∨ 126 < b.toNat
              · rw [if_pos h5]
                have hv : codeF (p ++ ([92, 120] ++ (hx2 b.toNat ++ [59]) ++ wBody l ++ 34 :: q)) (p.length + 2) = .ok (b.toNat, p.length + 4) := by
                  have := codeF_hx (p := p ++ [92, 120]) (q := wBody l ++ 34 :: q) hlt
                  simp only [List.append_assoc, List.length_append, List.length_cons, List.length_nil, List.cons_append, List.nil_append] at this ⊢
                  exact this
                rw [strF_hex (by rw [gp0]; rfl) (by rw [gp 1]; rfl) acc hv, hb2]
                rfl
              · rw [if_neg h5]
                have := strF_lt (s := p ++ ([UInt8.ofNat b.toNat] ++ wBody l ++ 34 :: q)) (i := p.length) (c := UInt8.ofNat b.toNat) (by rw [gp0]; rfl) acc (fun e => h1 (by rw [← hb2, e]; rfl)) (fun e => h2 (by rw [← hb2, e]; rfl))
                rw [this, hb2]
                rfl
    rw [hstep, hb]
    have := strF_body q l (p ++ wByte b.toNat) (acc ++ [b])
    rw [List.append_assoc, List.length_append] at this
    rw [List.append_assoc, this]
    simp only [List.append_assoc, List.singleton_append, List.length_append]
    congr 2
    omega
end Go.Proofs.YtgeokccfobmeiaaGreatDoorM
/- What is read is of one form; what is written of that form is read as itself. -/
namespace Go.Proofs.YtgeokccfobmeiaaGreatDoorM
set_option linter.unusedVariables false
set_option linter.unusedSimpArgs false
/-- what a reader makes: so many levels at most -/
inductive Rdb : Nat → DV → Prop
  | int {n} (z : Int) : Rdb n (dInt z)
  | bool {n} (b : Bool) : Rdb n (dBool b)
  | char {n} (k : Nat) (h : k < 256) : Rdb n (dChar k)
  | str {n} (t : List UInt8) : Rdb n (dStr t)
  | sym {n} (t : List UInt8) (h : plainF t = .ok (dSym t)) : Rdb n (dSym t)
  | list {n} (l : List DV) (h : ∀ x ∈ l, Rdb n x) : Rdb (n + 1) (dList l [])
  | dot {n} (l : List DV) (x : DV) (h0 : l ≠ []) (h : ∀ x ∈ l, Rdb n x) (hx : Rdb n x) (hk : x.kind ≠ 6) : Rdb (n + 1) (dList l [x])
  | vec {n} (l : List DV) (h : ∀ x ∈ l, Rdb n x) : Rdb (n + 1) (dVec l)
theorem Rdb.mono {n : Nat} {x : DV} (h : Rdb n x) : ∀ {m : Nat}, n ≤ m → Rdb m x := by
  induction h with
  | int z => intro m _; exact .int z
  | bool b => intro m _; exact .bool b
  | char k h => intro m _; exact .char k h
  | str t => intro m _; exact .str t
  | sym t h => intro m _; exact .sym t h
  | list l h ih =>
    intro m hm
    obtain ⟨m, rfl⟩ : ∃ k, m = k + 1 := ⟨m - 1, by omega⟩
    exact .list l (fun x hx => ih x hx (by omega))
  | dot l x h0 h hx hk ih ihx =>
    intro m hm
    obtain ⟨m, rfl⟩ : ∃ k, m = k + 1 := ⟨m - 1, by omega⟩
    exact .dot l x h0 (fun x hx => ih x hx (by omega)) (ihx (by omega)) hk
  | vec l h ih =>
    intro m hm
    obtain ⟨m, rfl⟩ : ∃ k, m = k + 1 := ⟨m - 1, by omega⟩
    exact .vec l (fun x hx => ih x hx (by omega))
theorem hexD_lt {c : UInt8} {a : Nat} (h : hexD c = some a) : a < 16 := by
  unfold hexD at h
  split at h
  · cases h; omega
  · split at h
    · cases h; omega
    · cases h
theorem charF_lt {u : List UInt8} {n : Nat} (h : charF u = some n) : n < 256 := by
  unfold charF at h
  split at h
  · cases h; omega
  · split at h
    · cases h; omega
    · split at h
      · cases h; omega
      · split at h
        · cases h; omega
        · split at h
          · cases h; exact UInt8.toNat_lt _
          · split at h
            · have := hexD_lt h; omega
            · cases h
          · split at h
            · split at h
              · rename_i ha hb
                cases h
                have := hexD_lt ha
                have := hexD_lt hb
                omega
              · cases h
            · cases h
          · cases h
theorem plainF_form {t : List UInt8} {x : DV} (h : plainF t = .ok x) : (∃ z, x = dInt z) ∨ (∃ b, x = dBool b) ∨ (x = dSym t ∧ plainF t = .ok (dSym t)) := by
  have h0 := h
  unfold plainF at h
  split at h
  · cases h; exact .inr (.inl ⟨_, rfl⟩)
  · split at h
    · cases h; exact .inr (.inl ⟨_, rfl⟩)
    · split at h
      · cases h
      · split at h
        · cases h; exact .inl ⟨_, rfl⟩
        · split at h
          · cases h; exact .inr (.inr ⟨rfl, h0⟩)
          · cases h
section
variable {s : List UInt8}
theorem tokR_rdb {i e : Nat} {x : DV} (h : tokR s i = .ok (x, e)) (n : Nat) : Rdb n x := by
  unfold tokR at h
  split at h
  · split at h
    · rename_i v hv
      cases h
      exact .char _ (charF_lt hv)
    · cases h
  · split at h
    · rename_i d hd
      cases h
      rcases plainF_form hd with ⟨z, rfl⟩ | ⟨b, rfl⟩ | ⟨rfl, hp⟩
      · exact .int z
      · exact .bool b
      · exact .sym _ hp
    · cases h
/-- told of a question -/
def Made (s : List UInt8) : J → Rs → Prop
  | .datum d i, .ok (x, e) => d ≤ 100 → Rdb (100 - d) x
  | .next d i, .ok (x, e) => d ≤ 100 → Rdb (100 - d) x
  | .items v d i acc, .ok (x, e) => d ≤ 100 → (∀ y ∈ acc, Rdb (100 - d) y) → Rdb (100 - d + 1) x
  | _, _ => True
theorem joined_rdb {n : Nat} {acc : List DV} {z : DV} (h0 : acc ≠ []) (ha : ∀ y ∈ acc, Rdb n y) (hz : Rdb n z) : Rdb (n + 1) (joined acc z) := by
  unfold joined
  by_cases hk : z.kind = 6
  · rw [if_pos hk]
    cases hz with
    | int z => cases hk
    | bool b => cases hk
    | char k h => cases hk
    | str t => cases hk
    | sym t h => cases hk
    | list l h => exact .list _ (fun x hx => (List.mem_append.1 hx).elim (ha x) (fun h' => (h x h').mono (by omega)))
    | dot l x h1 h hx hkx => exact .dot _ x (by simp [h0]) (fun x hx => (List.mem_append.1 hx).elim (ha x) (fun h' => (h x h').mono (by omega))) (hx.mono (by omega)) hkx
    | vec l h => cases hk
  · rw [if_neg hk]
    exact .dot acc z h0 ha hz hk
theorem icls_dot {v : Bool} {acc : List DV} {i : Nat} (h : icls s v acc i = .dot) : v = false ∧ acc ≠ [] := by
  unfold icls at h
  split at h
  · cases h
  · split at h
    · cases h
    · split at h
      · split at h
        · cases h
        · rename_i h1
          simp only [Bool.or_eq_true, not_or, List.isEmpty_iff] at h1
          exact ⟨by simpa using h1.1, h1.2⟩
      · cases h
theorem run_made {j : J} {r : Rs} (h : Run s j r) : Made s j r := by
  induction h with
  | b_fin h1 => trivial
  | b_stop h1 => trivial
  | b_blank h1 h2 ih => trivial
  | b_line h1 h2 ih => trivial
  | b_nest h1 h2 h3 ih => trivial
  | b_open h1 h2 => trivial
  | b_skip h1 h2 h3 ih1 ih2 => trivial
  | b_skipE h1 h2 ih => trivial
  | n_err h1 ih => trivial
  | n_fin h1 h2 ih => trivial
  | @n_ok d i x e r h1 h2 h3 ih1 ih2 =>
    cases r with
    | error q => trivial
    | ok q => exact ih2
  | d_close h1 => trivial
  | @d_str d i h1 =>
    cases hr : strR s i with
    | error q => trivial
    | ok q =>
      intro _
      unfold strR at hr
      split at hr
      · cases hr; exact .str _
      · cases hr
  | @d_tok d i h1 =>
    cases hr : tokR s i with
    | error q => trivial
    | ok q => exact fun _ => tokR_rdb hr _
  | d_listD h1 h2 => trivial
  | @d_list d i r h1 h2 h3 ih =>
    cases r with
    | error q => trivial
    | ok q =>
      intro _
      have := ih (by omega) (fun y hy => (nomatch hy))
      rwa [show 100 - (d + 1) + 1 = 100 - d by omega] at this
  | d_vecD h1 h2 => trivial
  | @d_vec d i r h1 h2 h3 ih =>
    cases r with
    | error q => trivial
    | ok q =>
      intro _
      have := ih (by omega) (fun y hy => (nomatch hy))
      rwa [show 100 - (d + 1) + 1 = 100 - d by omega] at this
  | d_shortD h1 h2 => trivial
  | d_shortE h1 h2 h3 ih => trivial
  | @d_short d i nm n x e h1 h2 h3 ih =>
    intro _
    have hx := ih (by omega)
    have hs : plainF nm = .ok (dSym nm) := by
      rw [dcls] at h1
      split at h1
      · cases h1
      · split at h1 <;> (try cases h1)
        split at h1 <;> (try cases h1)
        split at h1 <;> (try cases h1)
        split at h1 <;> (try (cases h1; simp [plainF, numF, symF, isLet, isD, isOdd, sQuote]; done))
        split at h1 <;> (try (cases h1; simp [plainF, numF, symF, isLet, isD, isOdd, sQuasi]; done))
        split at h1
        · split at h1
          · cases h1; simp [plainF, numF, symF, isLet, isD, isOdd, sSpl]
          · cases h1; simp [plainF, numF, symF, isLet, isD, isOdd, sUnq]
        · split at h1 <;> cases h1
    have := Rdb.list (n := 100 - (d + 1)) [dSym nm, x] (fun y hy => by
      simp only [List.mem_cons, List.not_mem_nil, or_false] at hy
      rcases hy with rfl | rfl
      · exact .sym _ hs
      · exact hx)
    rwa [show 100 - (d + 1) + 1 = 100 - d by omega] at this
  | i_err h1 ih => trivial
  | i_fin h1 h2 ih => trivial
  | @i_close v d i acc x e h1 h2 ih =>
    intro _ ha
    cases v
    · exact .list _ ha
    · exact .vec _ ha
  | i_bad h1 h2 ih => trivial
  | i_moreE h1 h2 h3 ih1 ih2 => trivial
  | @i_more v d i acc x e y f r h1 h2 h3 h4 ih1 ih2 ih3 =>
    cases r with
    | error q => trivial
    | ok q =>
      intro hd ha
      refine ih3 hd (fun z hz => ?_)
      rcases List.mem_append.1 hz with hz | hz
      · exact ha z hz
      · simp only [List.mem_singleton] at hz
        subst hz
        exact ih2 hd
  | i_dotE h1 h2 h3 ih1 ih2 => trivial
  | i_dotF h1 h2 h3 h4 ih1 ih2 => trivial
  | i_dotC h1 h2 h3 h4 ih1 ih2 => trivial
  | i_lastE h1 h2 h3 h4 h5 h6 ih1 ih2 ih3 => trivial
  | i_lastB h1 h2 h3 h4 h5 h6 h7 ih1 ih2 ih3 ih4 => trivial
  | i_lastF h1 h2 h3 h4 h5 h6 h7 h8 ih1 ih2 ih3 ih4 => trivial
  | i_lastX h1 h2 h3 h4 h5 h6 h7 h8 h9 ih1 ih2 ih3 ih4 => trivial
  | @i_last v d i acc x e y f z g u k h1 h2 h3 h4 h5 h6 h7 h8 ih1 ih2 ih3 ih4 => exact fun hd ha => joined_rdb (icls_dot h2).2 ha (ih3 hd)
theorem all_made {i : Nat} {acc : List DV} {r : Except (Nat × Nat) (List DV)} (h : AllR s i acc r) : ∀ {l : List DV}, r = .ok l → (∀ y ∈ acc, Rdb 100 y) → ∀ y ∈ l, Rdb 100 y := by
  induction h with
  | err h1 => intro l h; cases h
  | fin h1 h2 => intro l h ha; cases h; exact ha
  | bad h1 h2 h3 => intro l h; cases h
  | more h1 h2 h3 h4 ih =>
    intro l h ha
    refine ih h (fun z hz => ?_)
    rcases List.mem_append.1 hz with hz | hz
    · exact ha z hz
    · simp only [List.mem_singleton] at hz
      subst hz
      exact run_made h3 (by omega)
end
end Go.Proofs.YtgeokccfobmeiaaGreatDoorM
/- What is written of what a reader makes is read as itself. -/
namespace Go.Proofs.YtgeokccfobmeiaaGreatDoorM
set_option linter.unusedVariables false
set_option linter.unusedSimpArgs false
def wTail (l : List (List UInt8)) : List UInt8 := (l.map fun x => 32 :: x).flatten
def wJoin : List (List UInt8) → List UInt8
  | [] => []
  | x :: r => x ++ wTail r
mutual
/-- the text of a datum -/
def wV : DV → List UInt8
  | .mk k n neg mag text items rest =>
    if k = 1 then wNum neg (valB 4294967296 mag)
    else if k = 2 then (if n = 1 then [35, 116] else [35, 102])
    else if k = 3 then 35 :: 92 :: wChr n.toNat
    else if k = 4 then 34 :: (wBody text ++ [34])
    else if k = 5 then text
    else if k = 6 then (if rest.length = 0 then 40 :: (wJoin (wAll items) ++ [41]) else 40 :: (wJoin (wAll items) ++ (32 :: 46 :: 32 :: ((wAll rest).headD [] ++ [41]))))
    else if k = 7 then 35 :: 40 :: (wJoin (wAll items) ++ [41])
    else []
def wAll : List DV → List (List UInt8)
  | [] => []
  | x :: l => wV x :: wAll l
end
theorem wV_int (z : Int) : wV (dInt z) = wNum (decide (z < 0)) z.natAbs := by simp [wV, dInt, digB_val]
theorem wV_bool (b : Bool) : wV (dBool b) = if b then [35, 116] else [35, 102] := by cases b <;> simp [wV, dBool]
theorem wV_char (n : Nat) : wV (dChar n) = 35 :: 92 :: wChr n := by simp [wV, dChar]
theorem wV_str (t : List UInt8) : wV (dStr t) = 34 :: (wBody t ++ [34]) := by simp [wV, dStr]
theorem wV_sym (t : List UInt8) : wV (dSym t) = t := by simp [wV, dSym]
theorem wV_list (l : List DV) : wV (dList l []) = 40 :: (wJoin (wAll l) ++ [41]) := by simp [wV, dList]
theorem wV_dot (l : List DV) (x : DV) : wV (dList l [x]) = 40 :: (wJoin (wAll l) ++ (32 :: 46 :: 32 :: (wV x ++ [41]))) := by simp [wV, dList, wAll]
theorem wV_vec (l : List DV) : wV (dVec l) = 35 :: 40 :: (wJoin (wAll l) ++ [41]) := by simp [wV, dVec]
theorem dlm_nil : Dlm [] := fun c h => by cases h
theorem dlm_cons {c : UInt8} (q : List UInt8) (h : isDl c = true) : Dlm (c :: q) := fun x hx => by
  simp only [List.getElem?_cons_zero, Option.some.injEq] at hx
  rw [← hx]; exact h
section
variable {s p q : List UInt8}
theorem isDl_no {c : UInt8} (h : isDl c = false) : isBl c = false ∧ c ≠ 40 ∧ c ≠ 41 ∧ c ≠ 34 ∧ c ≠ 59 ∧ c ≠ 39 := by
  unfold isDl at h
  simp only [Bool.or_eq_false_iff, beq_eq_false_iff_ne] at h
  exact ⟨h.1.1.1.1.1, h.1.1.1.1.2, h.1.1.1.2, h.1.1.2, h.1.2, h.2⟩
theorem fst_hash {T : List UInt8} {i : Nat} {c : UInt8} (h : T[i]? = some 35) (h2 : T[i + 1]? = some c) (h3 : c ≠ 124) (h4 : c ≠ 59) : Fst T i :=
  ⟨by rw [bcls, h, h2]; simp [h3, h4, show isBl 35 = false by decide], fun v acc => by
    have := (List.getElem?_eq_some_iff.1 h).1
    unfold icls
    rw [if_neg (by omega), h, if_neg (by simp), dotAt, h, if_neg (by simp)]⟩
theorem dcls_tok {i : Nat} {c : UInt8} (h : s[i]? = some c) (h1 : c ≠ 40) (h2 : c ≠ 41) (h3 : c ≠ 39) (h4 : c ≠ 96) (h5 : c ≠ 44) (h6 : c ≠ 34) (h7 : c = 35 → s[i + 1]? ≠ some 40) : dcls s i = .tok := by
  rw [dcls, h]
  simp only
  rw [if_neg h1, if_neg (fun h => h7 h.1 h.2), if_neg h2, if_neg h3, if_neg h4, if_neg h5, if_neg h6]
theorem symc_more {c : UInt8} (h : (isLet c || isNum c || isOdd c) = true) : c ≠ 96 ∧ c ≠ 44 := by
  have : ∀ c : Fin 256, (isLet (UInt8.ofNat c.val) || isNum (UInt8.ofNat c.val) || isOdd (UInt8.ofNat c.val)) = true → UInt8.ofNat c.val ≠ 96 ∧ UInt8.ofNat c.val ≠ 44 := by decide +kernel
  have h2 := this ⟨c.toNat, c.toNat_lt⟩
  simp only [UInt8.ofNat_toNat] at h2
  exact h2 h
theorem isD_more {c : UInt8} (h : isD c = true) : c ≠ 96 ∧ c ≠ 44 := by
  have : ∀ c : Fin 256, isD (UInt8.ofNat c.val) = true → UInt8.ofNat c.val ≠ 96 ∧ UInt8.ofNat c.val ≠ 44 := by decide +kernel
  have h2 := this ⟨c.toNat, c.toNat_lt⟩
  simp only [UInt8.ofNat_toNat] at h2
  exact h2 h
/-- the datum x, written as t, is read wherever it stands -/
structure Says (n : Nat) (x : DV) (t : List UInt8) : Prop where
  run : ∀ (p q : List UInt8) (d : Nat), d + n ≤ 100 → Dlm q → Run (p ++ (t ++ q)) (.datum d p.length) (.ok (x, p.length + t.length))
  fst : ∀ (p q : List UInt8), Dlm q → Fst (p ++ (t ++ q)) p.length
theorem says_plain {n : Nat} {t : List UInt8} {x : DV} {c : UInt8} {r : List UInt8} (ht : t = c :: r) (hx : plainF t = .ok x) (hd : ∀ c ∈ t, isDl c = false) (h4 : c ≠ 96) (h5 : c ≠ 44) (h35 : c = 35 → ∃ e r', r = e :: r' ∧ e ≠ 124 ∧ e ≠ 92) (h46 : c = 46 → r ≠ []) : Says n x t := by
  subst ht
  have hc := isDl_no (hd c (List.mem_cons_self ..))
  constructor
  · intro p q d _ hq
    have h := tok_plain (p := p) hq hd (by simp) (by
      rintro ⟨h1, h2⟩
      simp only [List.getElem?_cons_zero, Option.some.injEq] at h1
      obtain ⟨e, r', rfl, _, he⟩ := h35 h1
      simp only [List.getElem?_cons_succ, List.getElem?_cons_zero, Option.some.injEq] at h2
      exact he h2) hx
    rw [← h]
    refine .d_tok (dcls_tok (c := c) (by rw [gp0]; rfl) hc.2.1 hc.2.2.1 hc.2.2.2.2.2 h4 h5 hc.2.2.2.1 (fun h => ?_))
    obtain ⟨e, r', rfl, _, _⟩ := h35 h
    rw [gp 1]
    simp only [List.cons_append, List.getElem?_cons_succ, List.getElem?_cons_zero, ne_eq, Option.some.injEq]
    intro he
    have := (isDl_no (hd e (by simp))).2.1
    exact this he
  · intro p q hq
    have h0 : (p ++ (c :: r ++ q))[p.length]? = some c := by rw [gp0]; rfl
    by_cases h : c = 35
    · subst h
      obtain ⟨e, r', rfl, he, _⟩ := h35 rfl
      exact fst_hash h0 (c := e) (by rw [gp 1]; rfl) he ((isDl_no (hd e (by simp))).2.2.2.2.1)
    · by_cases h2 : c = 46
      · subst h2
        rcases r with _ | ⟨e, r⟩
        · exact absurd rfl (h46 rfl)
        · have hl := (List.getElem?_eq_some_iff.1 h0).1
          have h1 : (p ++ (46 :: e :: r ++ q))[p.length + 1]? = some e := by rw [gp 1]; rfl
          have he := hd e (by simp)
          refine ⟨bcls_stop h0 (by decide) (by decide) (by decide), fun v acc => ?_⟩
          unfold icls
          rw [if_neg (by omega), h0, if_neg (by simp), dotAt, h0, h1]
          simp [he]
      · exact fst_of h0 hc.1 hc.2.2.2.2.1 h hc.2.2.1 h2
theorem says_int (n : Nat) (z : Int) : Says n (dInt z) (wV (dInt z)) := by
  rw [wV_int]
  obtain ⟨h1, h2, h3⟩ := decD z.natAbs
  unfold wNum
  by_cases hz : z < 0
  · rw [if_pos ⟨by simpa using hz, by omega⟩]
    have hn : numF (45 :: Lib.decDigits z.natAbs) = some z := by rw [numF_neg]; congr 1; omega
    refine says_plain rfl (plain_num hn (fun c r h => ?_)) (fun c hc => ?_) (by decide) (by decide) (fun h => absurd h (by decide)) (fun h => absurd h (by decide))
    · simp only [List.cons.injEq] at h
      exact ⟨by rw [← h.1]; decide, fun hh => by rw [← h.1] at hh; exact absurd hh (by decide)⟩
    · rcases List.mem_cons.1 hc with rfl | hc
      · decide
      · exact (isD_dl (h2 c hc)).1
  · rw [if_neg (by simp [hz])]
    have hn : numF (Lib.decDigits z.natAbs) = some z := by rw [numF_dec]; congr 1; omega
    cases hd : Lib.decDigits z.natAbs with
    | nil => exact absurd hd h3
    | cons c r =>
      rw [hd] at hn h2
      have hc := isD_dl (h2 c (List.mem_cons_self ..))
      have hm := isD_more (h2 c (List.mem_cons_self ..))
      refine says_plain rfl (plain_num hn (fun c' r' h => ?_)) (fun c hc => (isD_dl (h2 c hc)).1) hm.1 hm.2 (fun h => absurd h hc.2.1) (fun h => absurd h hc.2.2.1)
      simp only [List.cons.injEq] at h
      exact ⟨by rw [← h.1]; exact hc.2.1, fun hh => by rw [← h.1] at hh; exact absurd hh hc.2.2.1⟩
theorem says_bool (n : Nat) (b : Bool) : Says n (dBool b) (wV (dBool b)) := by
  rw [wV_bool]
  cases b
  · exact says_plain rfl (by rfl) (by decide) (by decide) (by decide) (fun _ => ⟨102, [], rfl, by decide, by decide⟩) (fun h => absurd h (by decide))
  · exact says_plain rfl (by rfl) (by decide) (by decide) (by decide) (fun _ => ⟨116, [], rfl, by decide, by decide⟩) (fun h => absurd h (by decide))
theorem says_sym (n : Nat) (t : List UInt8) (h : plainF t = .ok (dSym t)) : Says n (dSym t) (wV (dSym t)) := by
  rw [wV_sym]
  have hs := sym_of h
  have hc := sym_chars hs
  cases ht : t with
  | nil => exact absurd ht hc.1
  | cons c r =>
    rw [ht] at h hs hc
    have hcc : (isLet c || isNum c || isOdd c) = true := by
      simp only [symF, Bool.and_eq_true] at hs
      have := hs.1
      revert this
      cases isLet c <;> cases isNum c <;> cases isOdd c <;> decide
    have hm := symc_more hcc
    refine says_plain rfl h (fun x hx => (hc.2 x hx).1) hm.1 hm.2 (fun h => absurd h (hc.2 c (List.mem_cons_self ..)).2) (fun h46 hr => ?_)
    subst h46 hr
    exact absurd h (by simp [plainF])
theorem charF_wChr {n : Nat} (hn : n < 256) : ∃ c u, wChr n = c :: u ∧ charF (c :: u) = some n ∧ (∀ x ∈ u, isDl x = false) := by
  have : ∀ k : Fin 256, ∃ c u, wChr k.val = c :: u ∧ charF (c :: u) = some k.val ∧ (∀ x ∈ u, isDl x = false) := by
    intro k
    have h : (match wChr k.val with | [] => false | c :: u => charF (c :: u) == some k.val && u.all (fun x => !isDl x)) = true := by
      revert k; decide +kernel
    cases hw : wChr k.val with
    | nil => rw [hw] at h; cases h
    | cons c u =>
      rw [hw] at h
      simp only [Bool.and_eq_true, beq_iff_eq, List.all_eq_true, Bool.not_eq_true'] at h
      exact ⟨c, u, rfl, h.1, h.2⟩
  exact this ⟨n, hn⟩
theorem says_char (n k : Nat) (hk : k < 256) : Says n (dChar k) (wV (dChar k)) := by
  rw [wV_char]
  obtain ⟨c, u, hw, hc, hu⟩ := charF_wChr hk
  rw [hw]
  constructor
  · intro p q d _ hq
    have h := tok_char (p := p) hq hu hc
    rw [show (35 :: 92 :: c :: u).length = 3 + u.length by simp; omega, ← h]
    exact .d_tok (dcls_tok (c := 35) (by rw [gp0]; rfl) (by decide) (by decide) (by decide) (by decide) (by decide) (by decide) (fun _ => by rw [gp 1]; simp))
  · intro p q hq
    exact fst_hash (c := 92) (by rw [gp0]; rfl) (by rw [gp 1]; rfl) (by decide) (by decide)
theorem says_str (n : Nat) (t : List UInt8) : Says n (dStr t) (wV (dStr t)) := by
  rw [wV_str]
  constructor
  · intro p q d _ hq
    have hb := strF_body q t (p ++ [34]) []
    have h : strR (p ++ (34 :: (wBody t ++ [34]) ++ q)) p.length = .ok (dStr t, p.length + (34 :: (wBody t ++ [34])).length) := by
      unfold strR
      simp only [List.append_assoc, List.length_append, List.length_cons, List.length_nil, List.cons_append, List.nil_append] at hb ⊢
      rw [show p.length + (0 + 1) = p.length + 1 by omega] at hb
      rw [hb]
      simp only
      congr 2
      omega
    rw [← h]
    refine .d_str ?_
    rw [dcls, gp0]; rfl
  · intro p q hq
    exact fst_of (c := 34) (by rw [gp0]; rfl) (by decide) (by decide) (by decide) (by decide) (by decide)
/-- more data of a list, each behind a blank -/
theorem tail_reads {n d : Nat} (hd : d + n ≤ 100) {v : Bool} {q : List UInt8} (hq : Dlm q) : ∀ (l : List DV), (∀ x ∈ l, Says n x (wV x)) → ∀ (p : List UInt8) (acc : List DV) (r : Rs),
    Run (p ++ (wTail (wAll l) ++ q)) (.items v d (p.length + (wTail (wAll l)).length) (acc ++ l)) r → Run (p ++ (wTail (wAll l) ++ q)) (.items v d p.length acc) r
  | [], _, p, acc, r, h => by simpa [wTail, wAll] using h
  | x :: l, hl, p, acc, r, h => by
    have hx := hl x (List.mem_cons_self ..)
    have hq2 : Dlm (wTail (wAll l) ++ q) := by
      cases l with
      | nil => simpa [wTail, wAll] using hq
      | cons y l => simp only [wTail, wAll, List.map_cons, List.flatten_cons, List.cons_append]; exact dlm_cons _ (by decide)
    have e : p ++ (wTail (wAll (x :: l)) ++ q) = (p ++ [32]) ++ (wV x ++ (wTail (wAll l) ++ q)) := by simp [wTail, wAll]
    have e2 : p ++ (wTail (wAll (x :: l)) ++ q) = (p ++ 32 :: wV x) ++ (wTail (wAll l) ++ q) := by simp [wTail, wAll]
    have hf := hx.fst (p ++ [32]) _ hq2
    have hr := hx.run (p ++ [32]) _ d hd hq2
    rw [← e] at hf hr
    have hlen : (p ++ [32]).length = p.length + 1 := by simp
    rw [hlen] at hf hr
    have h0 : (p ++ (wTail (wAll (x :: l)) ++ q))[p.length]? = some 32 := by rw [gp0]; simp [wTail, wAll]
    refine .i_more (.b_blank (bcls_blank h0 (by decide)) (.b_stop hf.st)) (hf.ic _ _) hr ?_
    have ih := tail_reads hd (v := v) hq l (fun y hy => hl y (List.mem_cons_of_mem _ hy)) (p ++ 32 :: wV x) (acc ++ [x]) r
    rw [← e2] at ih
    have hl2 : (p ++ 32 :: wV x).length = p.length + 1 + (wV x).length := by simp; omega
    rw [hl2] at ih
    refine ih ?_
    rw [List.append_assoc, List.singleton_append]
    have hl3 : (wTail (wAll (x :: l))).length = 1 + (wV x).length + (wTail (wAll l)).length := by simp [wTail, wAll]; omega
    rw [hl3] at h
    rw [show p.length + 1 + (wV x).length + (wTail (wAll l)).length = p.length + (1 + (wV x).length + (wTail (wAll l)).length) by omega]
    exact h
/-- all data of a list -/
theorem join_reads {n d : Nat} (hd : d + n ≤ 100) {v : Bool} {q : List UInt8} (hq : Dlm q) (l : List DV) (hl : ∀ x ∈ l, Says n x (wV x)) (p : List UInt8) (r : Rs)
    (h : Run (p ++ (wJoin (wAll l) ++ q)) (.items v d (p.length + (wJoin (wAll l)).length) l) r) : Run (p ++ (wJoin (wAll l) ++ q)) (.items v d p.length []) r := by
  cases l with
  | nil => simpa [wJoin, wAll] using h
  | cons x l =>
    have hx := hl x (List.mem_cons_self ..)
    have hq2 : Dlm (wTail (wAll l) ++ q) := by
      cases l with
      | nil => simpa [wTail, wAll] using hq
      | cons y l => simp only [wTail, wAll, List.map_cons, List.flatten_cons, List.cons_append]; exact dlm_cons _ (by decide)
    have e : p ++ (wJoin (wAll (x :: l)) ++ q) = p ++ (wV x ++ (wTail (wAll l) ++ q)) := by simp [wJoin, wAll]
    have e2 : p ++ (wJoin (wAll (x :: l)) ++ q) = (p ++ wV x) ++ (wTail (wAll l) ++ q) := by simp [wJoin, wAll]
    have hf := hx.fst p _ hq2
    have hr := hx.run p _ d hd hq2
    rw [← e] at hf hr
    refine .i_more (.b_stop hf.st) (hf.ic _ _) hr ?_
    have ih := tail_reads hd (v := v) hq l (fun y hy => hl y (List.mem_cons_of_mem _ hy)) (p ++ wV x) ([] ++ [x]) r
    rw [← e2, List.length_append] at ih
    refine ih ?_
    have hl3 : (wJoin (wAll (x :: l))).length = (wV x).length + (wTail (wAll l)).length := by simp [wJoin, wAll]
    rw [hl3] at h
    rw [Nat.add_assoc]
    exact h
theorem says_all {n : Nat} {x : DV} (h : Rdb n x) : Says n x (wV x) := by
  induction h with
  | int z => exact says_int _ z
  | bool b => exact says_bool _ b
  | char k hk => exact says_char _ k hk
  | str t => exact says_str _ t
  | sym t ht => exact says_sym _ t ht
  | @list n l hl ih =>
    rw [wV_list]
    constructor
    · intro p q d hd hq
      have e : p ++ (40 :: (wJoin (wAll l) ++ [41]) ++ q) = (p ++ [40]) ++ (wJoin (wAll l) ++ (41 :: q)) := by simp
      have h0 : (p ++ (40 :: (wJoin (wAll l) ++ [41]) ++ q))[p.length]? = some 40 := by rw [gp0]; rfl
      refine .d_list (by rw [dcls, h0]; rfl) (by omega) ?_
      have hj := join_reads (n := n) (d := d + 1) (by omega) (v := false) (dlm_cons q (by decide : isDl 41 = true)) l ih (p ++ [40])
      have hlen : (p ++ [40]).length = p.length + 1 := by simp
      rw [← e, hlen] at hj
      refine hj _ ?_
      have h41 : (p ++ (40 :: (wJoin (wAll l) ++ [41]) ++ q))[p.length + 1 + (wJoin (wAll l)).length]? = some 41 := by
        rw [e, ← hlen, gp, List.getElem?_append_right (Nat.le_refl _), Nat.sub_self]
        rfl
      have h9 := Run.i_close (v := false) (acc := l) (stop41 (d := d + 1) h41) (close_at _ _ h41)
      rw [show p.length + (40 :: (wJoin (wAll l) ++ [41])).length = p.length + 1 + (wJoin (wAll l)).length + 1 by simp; omega]
      exact h9
    · intro p q hq
      exact fst_of (c := 40) (by rw [gp0]; rfl) (by decide) (by decide) (by decide) (by decide) (by decide)
  | @vec n l hl ih =>
    rw [wV_vec]
    constructor
    · intro p q d hd hq
      have e : p ++ (35 :: 40 :: (wJoin (wAll l) ++ [41]) ++ q) = (p ++ [35, 40]) ++ (wJoin (wAll l) ++ (41 :: q)) := by simp
      have h0 : (p ++ (35 :: 40 :: (wJoin (wAll l) ++ [41]) ++ q))[p.length]? = some 35 := by rw [gp0]; rfl
      have h1 : (p ++ (35 :: 40 :: (wJoin (wAll l) ++ [41]) ++ q))[p.length + 1]? = some 40 := by rw [gp 1]; rfl
      refine .d_vec (by rw [dcls, h0, h1]; rfl) (by omega) ?_
      have hj := join_reads (n := n) (d := d + 1) (by omega) (v := true) (dlm_cons q (by decide : isDl 41 = true)) l ih (p ++ [35, 40])
      have hlen : (p ++ [35, 40]).length = p.length + 2 := by simp
      rw [← e, hlen] at hj
      refine hj _ ?_
      have h41 : (p ++ (35 :: 40 :: (wJoin (wAll l) ++ [41]) ++ q))[p.length + 2 + (wJoin (wAll l)).length]? = some 41 := by
        rw [e, ← hlen, gp, List.getElem?_append_right (Nat.le_refl _), Nat.sub_self]
        rfl
      have h9 := Run.i_close (v := true) (acc := l) (stop41 (d := d + 1) h41) (close_at _ _ h41)
      rw [show p.length + (35 :: 40 :: (wJoin (wAll l) ++ [41])).length = p.length + 2 + (wJoin (wAll l)).length + 1 by simp; omega]
      exact h9
    · intro p q hq
      exact fst_vec (by rw [gp0]; rfl) (by rw [gp 1]; rfl)
  | @dot n l x hne hl hx hk ih ihx =>
    rw [wV_dot]
    constructor
    · intro p q d hd hq
      have e : p ++ (40 :: (wJoin (wAll l) ++ (32 :: 46 :: 32 :: (wV x ++ [41]))) ++ q) = (p ++ [40]) ++ (wJoin (wAll l) ++ (32 :: 46 :: 32 :: (wV x ++ (41 :: q)))) := by simp
      have h0 : (p ++ (40 :: (wJoin (wAll l) ++ (32 :: 46 :: 32 :: (wV x ++ [41]))) ++ q))[p.length]? = some 40 := by rw [gp0]; rfl
      refine .d_list (by rw [dcls, h0]; rfl) (by omega) ?_
      have hj := join_reads (n := n) (d := d + 1) (by omega) (v := false) (dlm_cons (46 :: 32 :: (wV x ++ (41 :: q))) (by decide : isDl 32 = true)) l ih (p ++ [40])
      have hlen : (p ++ [40]).length = p.length + 1 := by simp
      rw [← e, hlen] at hj
      refine hj _ ?_
      obtain ⟨T, hT⟩ : ∃ T, T = p ++ (40 :: (wJoin (wAll l) ++ (32 :: 46 :: 32 :: (wV x ++ [41]))) ++ q) := ⟨_, rfl⟩
      obtain ⟨P, hP⟩ : ∃ P, P = p.length + 1 + (wJoin (wAll l)).length := ⟨_, rfl⟩
      have e3 : T = (p ++ 40 :: wJoin (wAll l)) ++ (32 :: 46 :: 32 :: (wV x ++ (41 :: q))) := by rw [hT]; simp
      have hPl : (p ++ 40 :: wJoin (wAll l)).length = P := by rw [hP]; simp; omega
      have g0 : T[P]? = some 32 := by rw [e3, ← hPl, gp0]; rfl
      have g1 : T[P + 1]? = some 46 := by rw [e3, ← hPl, gp 1]; rfl
      have g2 : T[P + 2]? = some 32 := by rw [e3, ← hPl, gp 2]; rfl
      have e4 : T = (p ++ 40 :: (wJoin (wAll l) ++ [32, 46, 32])) ++ (wV x ++ (41 :: q)) := by rw [hT]; simp
      have hPl3 : (p ++ 40 :: (wJoin (wAll l) ++ [32, 46, 32])).length = P + 3 := by rw [hP]; simp; omega
      have hf := ihx.fst (p ++ 40 :: (wJoin (wAll l) ++ [32, 46, 32])) (41 :: q) (dlm_cons q (by decide))
      have hr := ihx.run (p ++ 40 :: (wJoin (wAll l) ++ [32, 46, 32])) (41 :: q) (d + 1) (by omega) (dlm_cons q (by decide))
      rw [← e4, hPl3] at hf hr
      have g41 : T[P + 3 + (wV x).length]? = some 41 := by
        rw [e4, ← hPl3, gp, List.getElem?_append_right (Nat.le_refl _), Nat.sub_self]
        rfl
      rw [← hT, ← hP]
      have hdot : icls T false l (P + 1) = .dot := by
        have hl1 := (List.getElem?_eq_some_iff.1 g1).1
        unfold icls
        rw [if_neg (by omega), g1, if_neg (by simp), dotAt, g1, show P + 1 + 1 = P + 2 by omega, g2, if_pos (by simp [show isDl 32 = true by decide]), if_neg (by simp [hne])]
      have hno : T[P + 3]? ≠ some 41 := fun h => by
        have := hf.ic false l
        rw [close_at false l h] at this
        cases this
      have h9 := Run.i_last (v := false) (acc := l) (z := x) (.b_blank (bcls_blank g0 (by decide)) (.b_stop (bcls_stop g1 (by decide) (by decide) (by decide)))) hdot (.b_blank (bcls_blank (by rw [show P + 1 + 1 = P + 2 by omega]; exact g2) (by decide)) (.b_stop hf.st)) hf.lt hno hr (stop41 (d := d + 1) g41) g41
      rw [show p.length + (40 :: (wJoin (wAll l) ++ (32 :: 46 :: 32 :: (wV x ++ [41])))).length = P + 3 + (wV x).length + 1 by rw [hP]; simp; omega]
      rw [joined, if_neg hk] at h9
      exact h9
    · intro p q hq
      exact fst_of (c := 40) (by rw [gp0]; rfl) (by decide) (by decide) (by decide) (by decide) (by decide)
/-- data that are written one after the other, a blank behind each -/
def wSeq (l : List DV) : List UInt8 := (l.map fun x => wV x ++ [32]).flatten
theorem seq_reads : ∀ (l : List DV), (∀ x ∈ l, Rdb 100 x) → ∀ (p : List UInt8) (acc : List DV), AllR (p ++ wSeq l) p.length acc (.ok (acc ++ l))
  | [], _, p, acc => by
    rw [List.append_nil]
    exact .fin (.b_fin (bcls_ge (by simp [wSeq]))) (by simp [wSeq])
  | x :: l, h, p, acc => by
    have hx := says_all (h x (List.mem_cons_self ..))
    have e : p ++ wSeq (x :: l) = p ++ (wV x ++ (32 :: wSeq l)) := by simp [wSeq]
    have e2 : p ++ wSeq (x :: l) = (p ++ (wV x ++ [32])) ++ wSeq l := by simp [wSeq]
    have hf := hx.fst p (32 :: wSeq l) (dlm_cons _ (by decide))
    have hr := hx.run p (32 :: wSeq l) 0 (by omega) (dlm_cons _ (by decide))
    rw [← e] at hf hr
    refine .more (.b_stop hf.st) hf.lt hr ?_
    have ih := seq_reads l (fun y hy => h y (List.mem_cons_of_mem _ hy)) (p ++ (wV x ++ [32])) (acc ++ [x])
    rw [← e2] at ih
    refine all_via (fun q hq => ?_) (by rw [List.append_assoc, List.singleton_append] at ih; exact ih)
    have hlen : (p ++ (wV x ++ [32])).length = p.length + (wV x).length + 1 := by simp; omega
    rw [hlen] at hq
    refine .b_blank (bcls_blank (c := 32) ?_ (by decide)) hq
    rw [e, gp, List.getElem?_append_right (Nat.le_refl _), Nat.sub_self]
    rfl
/-- one datum, written, from its beginning to its end -/
theorem one_reads {x : DV} (h : Rdb 100 x) : Run (wV x) (.next 0 0) (.ok (x, (wV x).length)) := by
  have hx := says_all h
  have hf := hx.fst [] [] dlm_nil
  have hr := hx.run [] [] 0 (by omega) dlm_nil
  simp only [List.nil_append, List.append_nil, List.length_nil, Nat.zero_add] at hf hr
  exact .n_ok (.b_stop hf.st) hf.lt hr
end
end Go.Proofs.YtgeokccfobmeiaaGreatDoorM
/- What the readers' small questions come to. -/
namespace Go.Proofs.YtgeokccfobmeiaaGreatDoorM
set_option linter.unusedVariables false
set_option linter.unusedSimpArgs false
/-- does the text l stand at i? -/
def pre (s : List UInt8) (i : Nat) (l : List UInt8) : Bool := l.isPrefixOf (s.drop i)
section
variable {s : List UInt8} {i : Nat} {c : UInt8}
theorem drop_at (h : s[i]? = some c) : s.drop i = c :: s.drop (i + 1) := by
  obtain ⟨hl, rfl⟩ := List.getElem?_eq_some_iff.1 h
  exact List.drop_eq_getElem_cons hl
theorem pre1 (h : s[i]? = some c) (x : UInt8) : pre s i [x] = (x == c) := by
  unfold pre
  rw [drop_at h]
  simp [List.isPrefixOf]
theorem pre2 (h : s[i]? = some c) (x y : UInt8) : pre s i [x, y] = (x == c && s[i + 1]? == some y) := by
  unfold pre
  rw [drop_at h]
  cases h2 : s[i + 1]? with
  | none =>
    have : s.drop (i + 1) = [] := List.drop_eq_nil_of_le (List.getElem?_eq_none_iff.1 h2)
    rw [this]
    simp [List.isPrefixOf]
  | some d =>
    rw [drop_at h2]
    have e : (some d == some y) = (y == d) := by
      by_cases hd : d = y
      · subst hd; simp
      · have hd2 : ¬ y = d := fun h => hd h.symm
        rw [show (some d == some y) = false from by simpa using hd, show (y == d) = false from by simpa using hd2]
    rw [e]
    simp [List.isPrefixOf]
theorem pre_end (h : s.length ≤ i) (x : UInt8) (l : List UInt8) : pre s i (x :: l) = false := by
  unfold pre
  rw [List.drop_eq_nil_of_le h]; rfl
end
/-- the bytes that end a token -/
def dls : List UInt8 := [32, 10, 9, 13, 40, 41, 34, 59, 39]
theorem byte_all {p : UInt8 → Bool} (h : ∀ k : Fin 256, p (UInt8.ofNat k.val) = true) (c : UInt8) : p c = true := by
  have := h ⟨c.toNat, c.toNat_lt⟩
  simpa using this
theorem dls_is (c : UInt8) : dls.contains c = isDl c := by
  have := byte_all (p := fun c => dls.contains c == isDl c) (by decide +kernel) c
  simpa using this
theorem blank_is (c : UInt8) : decide (0 ≤ Go.Lib.indexByte [32, 10, 9, 13] c) = isBl c := by
  have := byte_all (p := fun c => decide (0 ≤ Go.Lib.indexByte [32, 10, 9, 13] c) == isBl c) (by decide +kernel) c
  simpa using this
theorem tokEnd_any (s : List UInt8) : ∀ (m i : Nat), s.length - i < m → i ≤ s.length →
    (Go.Lib.indexAny (s.drop i) dls = -1 ∧ tokEnd s i = s.length) ∨ ∃ k : Nat, Go.Lib.indexAny (s.drop i) dls = (k : Int) ∧ tokEnd s i = i + k ∧ i + k < s.length
  | 0, i, h, _ => absurd h (by omega)
  | m + 1, i, h, hi => by
    rcases Nat.lt_or_ge i s.length with hl | hl
    · rw [tokEnd_lt hl, List.drop_eq_getElem_cons hl, Go.Lib.indexAny, dls_is]
      by_cases hd : isDl s[i] = true
      · rw [if_pos hd, if_pos hd]
        exact .inr ⟨0, rfl, rfl, by omega⟩
      · rw [if_neg hd, if_neg hd]
        rcases tokEnd_any s m (i + 1) (by omega) (by omega) with ⟨h1, h2⟩ | ⟨k, h1, h2, h3⟩
        · rw [if_pos (by rw [h1]; rfl), h2]
          exact .inl ⟨by trivial, by trivial⟩
        · rw [if_neg (fun h => by rw [h1] at h; have := beq_iff_eq.1 h; omega), h2, h1]
          exact .inr ⟨k + 1, by omega, by omega, by omega⟩
    · rw [List.drop_eq_nil_of_le hl, tokEnd_len hl]
      exact .inl ⟨rfl, by omega⟩
/-- hexadecimal digits, as the program finds them -/
def hexs : List UInt8 := [48, 49, 50, 51, 52, 53, 54, 55, 56, 57, 97, 98, 99, 100, 101, 102]
theorem hex_is (c : UInt8) : Go.Lib.indexByte hexs c = (match hexD c with | some a => (a : Int) | none => -1) := by
  have := byte_all (p := fun c => Go.Lib.indexByte hexs c == (match hexD c with | some a => (a : Int) | none => -1)) (by decide +kernel) c
  simpa using this
def odds : List UInt8 := [33, 36, 37, 38, 42, 43, 45, 46, 47, 58, 60, 61, 62, 63, 64, 94, 95, 126]
theorem odd_is (c : UInt8) : decide (0 ≤ Go.Lib.indexByte odds c) = isOdd c := by
  have := byte_all (p := fun c => decide (0 ≤ Go.Lib.indexByte odds c) == isOdd c) (by decide +kernel) c
  simpa using this
/-- escapes -/
def escs : List UInt8 := [34, 92, 110, 116]
def escV (c : UInt8) : Option UInt8 := if c = 34 then some 34 else if c = 92 then some 92 else if c = 110 then some 10 else if c = 116 then some 9 else none
theorem esc_is (c : UInt8) : (escV c = none ∧ Go.Lib.indexByte escs c = -1) ∨ ∃ k : Nat, k < 4 ∧ Go.Lib.indexByte escs c = (k : Int) ∧ escV c = some (([34, 92, 10, 9] : List UInt8).getD k 0) := by
  have := byte_all (p := fun c => (escV c == none && Go.Lib.indexByte escs c == -1) || ([0, 1, 2, 3] : List Nat).any (fun k => Go.Lib.indexByte escs c == (k : Int) && escV c == some (([34, 92, 10, 9] : List UInt8).getD k 0))) (by decide +kernel) c
  simp only [Bool.or_eq_true, Bool.and_eq_true, List.any_eq_true, beq_iff_eq] at this
  rcases this with ⟨h1, h2⟩ | ⟨k, hk, h1, h2⟩
  · exact .inl ⟨h1, h2⟩
  · exact .inr ⟨k, by simp at hk; omega, h1, h2⟩
section
variable {s : List UInt8}
/-- behind blanks stands a datum's beginning, or the end -/
theorem run_end {d i e : Nat} {x : DV} (h : Run s (.blanks d i) (.ok (x, e))) (he : e < s.length) : bcls s e = .stop := run_stop h rfl rfl he
/-- a datum that begins here is the next one -/
theorem next_of {d e : Nat} {r : Rs} (h1 : bcls s e = .stop) (h : Run s (.datum d e) r) : Run s (.next d e) r := .n_ok (.b_stop h1) (bcls_lt (by rw [h1]; decide)) h
/-- a dot alone is no datum -/
theorem dot_err {d e : Nat} (h : dotAt s e = true) : Run s (.datum d e) (.error (e, 15)) := by
  unfold dotAt at h
  simp only [Bool.and_eq_true, beq_iff_eq] at h
  obtain ⟨h1, h2⟩ := h
  have hd : dcls s e = .tok := dcls_tok h1 (by decide) (by decide) (by decide) (by decide) (by decide) (by decide) (fun h => absurd h (by decide))
  have hl := (List.getElem?_eq_some_iff.1 h1).1
  have ht : tokR s e = .error (e, 15) := by
    have hn : ¬ (s[e]? = some 35 ∧ s[e + 1]? = some 92) := fun h => by rw [h1] at h; exact absurd h.1 (by decide)
    have hstop : tokStop s e = e + 1 := by
      rw [tokStop, if_neg hn, tokEnd_on h1 (by decide)]
      cases h3 : s[e + 1]? with
      | none => exact tokEnd_len (List.getElem?_eq_none_iff.1 h3) 
      | some c => rw [h3] at h2; exact tokEnd_at h3 h2
    have hc : cut s e (e + 1) = [46] := by
      unfold cut
      rw [drop_at h1, show e + 1 - e = 1 by omega]; rfl
    rw [tokR, if_neg hn, hstop, hc]
    rfl
  have := @Run.d_tok s d e hd
  rwa [ht] at this
end
end Go.Proofs.YtgeokccfobmeiaaGreatDoorM
