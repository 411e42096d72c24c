/- A part of the proof. -/
import Derived.Test.YtdapbegadhcpcaaGreatDoorMF
set_option linter.unusedVariables false
set_option linter.unusedSimpArgs false
namespace Go.Proofs.YtdapbegadhcpcaaGreatDoorM
mutual
def wtV : DV → Nat
 | .mk _ _ _ _ _ items rest => 1 + wtVs items + wtVs rest
def wtVs : List DV → Nat
 | [] => 0
 | x :: l => wtV x + wtVs l
end
theorem wtVs_append : ∀ l m : List DV, wtVs (l ++ m) = wtVs l + wtVs m
 | [], m => by simp [wtVs]
 | x :: l, m => by rw [List.cons_append, wtVs, wtVs, wtVs_append l m]; omega
theorem wtV_pos (x : DV) : 1 ≤ wtV x := by cases x; rw [wtV]; omega
theorem wtVs_len : ∀ l : List DV, l.length ≤ wtVs l
 | [] => by simp
 | x :: l => by
   have := wtVs_len l
   have := wtV_pos x
   rw [wtVs, List.length_cons]; omega
theorem wtVs_mem {x : DV} : ∀ {l : List DV}, x ∈ l → wtV x ≤ wtVs l
 | y :: l, h => by
   rw [wtVs]
   rcases List.mem_cons.1 h with rfl | h
   · omega
   · have := wtVs_mem h; omega
theorem wt_list (l m : List DV) : wtV (dList l m) = 1 + wtVs l + wtVs m := by rw [dList, wtV]
theorem wt_vec (l : List DV) : wtV (dVec l) = 1 + wtVs l := by rw [dVec, wtV]; simp [wtVs]
theorem wt_sym (t : List UInt8) : wtV (dSym t) = 1 := by rw [dSym, wtV]; simp [wtVs]
theorem wt_joined (acc : List DV) (z : DV) : wtV (joined acc z) ≤ 1 + wtVs acc + wtV z := by
 unfold joined
 split
 · obtain ⟨k, n, neg, mag, text, items, rest⟩ := z
   rw [wt_list, wtVs_append, wtV]
   simp only [DV.items, DV.rest]
   omega
 · rw [wt_list, wtVs, wtVs]; omega
section
variable {s : List UInt8}
theorem plainF_wt {t : List UInt8} {x : DV} (h : plainF t = .ok x) : wtV x = 1 := by
 rcases plainF_form h with ⟨z, rfl⟩ | ⟨b, rfl⟩ | ⟨rfl, hp⟩
 · rw [dInt, wtV]; simp [wtVs]
 · rw [dBool, wtV]; simp [wtVs]
 · exact wt_sym _
theorem tokR_wt {i e : Nat} {x : DV} (h : tokR s i = .ok (x, e)) : wtV x = 1 := by
 unfold tokR at h
 split at h
 · split at h
   · cases h
     rw [dChar, wtV]; simp [wtVs]
   · cases h
 · split at h
   · rename_i d hd
     cases h
     exact plainF_wt hd
   · cases h
def Wts : J → Rs → Prop
 | .datum d i, .ok (x, e) => i < e → wtV x ≤ 3 * (e - i)
 | .next d i, .ok (x, e) => wtV x ≤ 3 * (e - i)
 | .items v d i acc, .ok (x, e) => wtV x ≤ 1 + wtVs acc + 3 * (e - i)
 | _, _ => True
theorem run_wt {j : J} {r : Rs} (h : Run s j r) : Wts j r := by
 induction h with
 | b_fin h1 => trivial
 | b_stop h1 => trivial
 | b_blank h1 h2 ih => trivial
 | b_line h1 h2 ih => trivial
 | b_nest h1 h2 h3 ih => trivial
 | b_open h1 h2 => trivial
 | b_skip h1 h2 h3 ih1 ih2 => trivial
 | b_skipE h1 h2 ih => trivial
 | n_err h1 ih => trivial
 | n_fin h1 h2 ih => trivial
 | @n_ok d i x e r h1 h2 h3 ih1 ih2 =>
   cases r with
   | error q => trivial
   | ok q =>
     obtain ⟨y, f⟩ := q
     have a : i ≤ e := run_goes h1 rfl
     have b : e < f := run_goes h3 rfl h2
     have := ih2 b
     show wtV y ≤ 3 * (f - i)
     omega
 | d_close h1 => trivial
 | @d_str d i h1 =>
   cases hr : strR s i with
   | error q => trivial
   | ok q =>
     obtain ⟨x, e⟩ := q
     intro hi
     unfold strR at hr
     split at hr
     · cases hr
       rw [dStr, wtV]; simp only [wtVs]; omega
     · cases hr
 | @d_tok d i h1 =>
   cases hr : tokR s i with
   | error q => trivial
   | ok q =>
     obtain ⟨x, e⟩ := q
     intro hi
     rw [tokR_wt hr]; omega
 | d_listD h1 h2 => trivial
 | @d_list d i r h1 h2 h3 ih =>
   cases r with
   | error q => trivial
   | ok q =>
     obtain ⟨x, e⟩ := q
     intro hi
     have h9 : wtV x ≤ 1 + wtVs [] + 3 * (e - (i + 1)) := ih
     simp only [wtVs] at h9
     have := run_goes h3 rfl
     have h8 : i + 1 < e := this
     omega
 | d_vecD h1 h2 => trivial
 | @d_vec d i r h1 h2 h3 ih =>
   cases r with
   | error q => trivial
   | ok q =>
     obtain ⟨x, e⟩ := q
     intro hi
     have h9 : wtV x ≤ 1 + wtVs [] + 3 * (e - (i + 2)) := ih
     simp only [wtVs] at h9
     have := run_goes h3 rfl
     have h8 : i + 2 < e := this
     omega
 | d_shortD h1 h2 => trivial
 | d_shortE h1 h2 h3 ih => trivial
 | @d_short d i nm n x e h1 h2 h3 ih =>
   intro hi
   have h9 : wtV x ≤ 3 * (e - (i + n)) := ih
   have h8 : 1 ≤ n := by
    rw [dcls] at h1
    split at h1
    · cases h1
    · split at h1 <;> (try cases h1)
      split at h1 <;> (try cases h1)
      split at h1 <;> (try cases h1)
      split at h1 <;> (try (cases h1; omega))
      split at h1 <;> (try (cases h1; omega))
      split at h1
      · split at h1 <;> (cases h1; omega)
      · split at h1 <;> cases h1
   have h7 : i + n < e := run_goes h3 rfl
   simp only [wt_list, wtVs, wt_sym]
   omega
 | i_err h1 ih => trivial
 | i_fin h1 h2 ih => trivial
 | @i_close v d i acc x e h1 h2 ih =>
   show wtV (if v then dVec acc else dList acc []) ≤ _
   cases v
   · rw [if_neg (by simp), wt_list, wtVs]; omega
   · rw [if_pos rfl, wt_vec]; omega
 | i_bad h1 h2 ih => trivial
 | i_moreE h1 h2 h3 ih1 ih2 => trivial
 | @i_more v d i acc x e y f r h1 h2 h3 h4 ih1 ih2 ih3 =>
   cases r with
   | error q => trivial
   | ok q =>
     obtain ⟨z, g⟩ := q
     have a : i ≤ e := run_goes h1 rfl
     have el : e < s.length := by
      unfold icls at h2
      split at h2
      · cases h2
      · omega
     have b : e < f := run_goes h3 rfl el
     have c : f < g := run_goes h4 rfl
     have h9 : wtV z ≤ 1 + wtVs (acc ++ [y]) + 3 * (g - f) := ih3
     rw [wtVs_append, wtVs, wtVs] at h9
     have h8 := ih2 b
     show wtV z ≤ 1 + wtVs acc + 3 * (g - i)
     omega
 | i_dotE h1 h2 h3 ih1 ih2 => trivial
 | i_dotF h1 h2 h3 h4 ih1 ih2 => trivial
 | i_dotC h1 h2 h3 h4 ih1 ih2 => trivial
 | i_lastE h1 h2 h3 h4 h5 h6 ih1 ih2 ih3 => trivial
 | i_lastB h1 h2 h3 h4 h5 h6 h7 ih1 ih2 ih3 ih4 => trivial
 | i_lastF h1 h2 h3 h4 h5 h6 h7 h8 ih1 ih2 ih3 ih4 => trivial
 | i_lastX h1 h2 h3 h4 h5 h6 h7 h8 h9 ih1 ih2 ih3 ih4 => trivial
 | @i_last v d i acc x e y f z g u k h1 h2 h3 h4 h5 h6 h7 h8 ih1 ih2 ih3 ih4 =>
   have a : i ≤ e := run_goes h1 rfl
   have b : e + 1 ≤ f := run_goes h3 rfl
   have c : f < g := run_goes h6 rfl h4
   have d2 : g ≤ k := run_goes h7 rfl
   have h9 := ih3 c
   have hj := wt_joined acc z
   show wtV (joined acc z) ≤ 1 + wtVs acc + 3 * (k + 1 - i)
   omega
end
end Go.Proofs.YtdapbegadhcpcaaGreatDoorM
