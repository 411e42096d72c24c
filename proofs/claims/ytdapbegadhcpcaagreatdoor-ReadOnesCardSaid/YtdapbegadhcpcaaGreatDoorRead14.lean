/- A part of the proof. -/
import Derived.Test.YtdapbegadhcpcaaGreatDoorRead13
import Derived.Test.YtdapbegadhcpcaaGreatDoorME
import Derived.Test.YtdapbegadhcpcaaGreatDoorMD
set_option linter.unusedVariables false
set_option linter.unusedSimpArgs false
namespace Go.Proofs.YtdapbegadhcpcaaGreatDoorM
mutual
def wtT : DV → Nat
 | .mk _ _ _ mag text items rest => 1 + mag.length + text.length + wtTs items + wtTs rest
def wtTs : List DV → Nat
 | [] => 0
 | x :: l => wtT x + wtTs l
end
theorem wtTs_append : ∀ l m : List DV, wtTs (l ++ m) = wtTs l + wtTs m
 | [], m => by simp [wtTs]
 | x :: l, m => by rw [List.cons_append, wtTs, wtTs, wtTs_append l m]; omega
theorem wt_listT (l m : List DV) : wtT (dList l m) = 1 + wtTs l + wtTs m := by rw [dList, wtT]; simp
theorem wt_vecT (l : List DV) : wtT (dVec l) = 1 + wtTs l := by rw [dVec, wtT]; simp [wtTs]
theorem wt_symT (t : List UInt8) : wtT (dSym t) = 1 + t.length := by rw [dSym, wtT]; simp [wtTs]
theorem wt_joinedT (acc : List DV) (z : DV) : wtT (joined acc z) ≤ 1 + wtTs acc + wtT z := by
 unfold joined
 split
 · obtain ⟨k, n, neg, mag, text, items, rest⟩ := z
   rw [wt_listT, wtTs_append, wtT]
   simp only [DV.items, DV.rest]
   omega
 · rw [wt_listT, wtTs, wtTs]; omega
section
theorem strF_len {s : List UInt8} (i : Nat) (acc : List UInt8) {t : List UInt8} {e : Nat} (h : strF s i acc = .ok (t, e)) : t.length + i < acc.length + e := by
 rw [strF] at h
 split at h
 · split at h
   · cases h; omega
   · split at h
     · split at h
       · cases h
       · split at h
         · have := strF_len _ _ h; simp only [List.length_append, List.length_singleton] at this; omega
         · split at h
           · have := strF_len _ _ h; simp only [List.length_append, List.length_singleton] at this; omega
           · split at h
             · have := strF_len _ _ h; simp only [List.length_append, List.length_singleton] at this; omega
             · split at h
               · have := strF_len _ _ h; simp only [List.length_append, List.length_singleton] at this; omega
               · split at h
                 · split at h
                   · cases h
                   · cases h
                   · rename_i hc
                     have h1 := codeF_gt _ _ _ _ hc
                     have := strF_len _ _ h
                     simp only [List.length_append, List.length_singleton] at this; omega
                 · cases h
     · have := strF_len _ _ h; simp only [List.length_append, List.length_singleton] at this; omega
 · cases h
termination_by s.length - i
decreasing_by all_goals first | omega | (have := codeF_gt _ _ _ _ hc; omega)
theorem numF_len {t : List UInt8} {z : Int} (h : numF t = some z) : (digB 4294967296 z.natAbs).length ≤ t.length := by
 have key : ∀ (neg : Bool) (u : List UInt8), u.length ≤ t.length → (if u ≠ [] ∧ u.all isD = true then some (sval neg (numV 0 u)) else none) = some z → (digB 4294967296 z.natAbs).length ≤ t.length := fun neg u hu h => by
  split at h
  · rename_i hh
    simp only [Option.some.injEq] at h
    rw [← h, sval_abs]
    refine Nat.le_trans (digB_len_lt 4294967296 (by omega) u.length _ (Nat.lt_of_lt_of_le (numV_lt0 u (List.all_eq_true.1 hh.2)) ?_)) hu
    exact Nat.pow_le_pow_left (by omega) _
  · cases h
 cases t with
 | nil => exact key false [] (Nat.le_refl _) h
 | cons c r =>
   by_cases hc : c = 43 ∨ c = 45
   · refine key (decide (c = 45)) r (by simp) ?_
     simpa [numF, hc] using h
   · refine key (decide (c = 45)) (c :: r) (Nat.le_refl _) ?_
     simpa [numF, hc] using h
variable {s : List UInt8}
theorem plainF_wtT {t : List UInt8} {x : DV} (h : plainF t = .ok x) : wtT x ≤ 1 + t.length := by
 have h0 := h
 unfold plainF at h
 split at h
 · cases h; rw [dBool, wtT]; simp [wtTs]
 · split at h
   · cases h; rw [dBool, wtT]; simp [wtTs]
   · split at h
     · cases h
     · split at h
       · rename_i z hz
         cases h
         have := numF_len hz
         rw [dInt, wtT]; simp only [wtTs, List.length_nil]; omega
       · split at h
         · cases h; rw [wt_symT]; exact Nat.le_refl _
         · cases h
theorem tokR_wtT {i e : Nat} {x : DV} (h : tokR s i = .ok (x, e)) : wtT x ≤ 1 + (e - i) := by
 unfold tokR at h
 split at h
 · split at h
   · cases h
     rw [dChar, wtT]; simp [wtTs]
   · cases h
 · split at h
   · rename_i d hd
     cases h
     have := plainF_wtT hd
     have h2 : (cut s i (tokStop s i)).length ≤ tokStop s i - i := by rw [cut, List.length_take]; omega
     omega
   · cases h
theorem dcls_short {i n : Nat} {nm : List UInt8} (h1 : dcls s i = .short nm n) : 1 ≤ n ∧ nm.length ≤ 16 := by
 rw [dcls] at h1
 split at h1
 · cases h1
 · split at h1 <;> (try cases h1)
   split at h1 <;> (try cases h1)
   split at h1 <;> (try cases h1)
   split at h1 <;> (try (cases h1; exact ⟨by omega, by decide⟩))
   split at h1 <;> (try (cases h1; exact ⟨by omega, by decide⟩))
   split at h1
   · split at h1 <;> (cases h1; exact ⟨by omega, by decide⟩)
   · split at h1 <;> cases h1
def WtTs : J → Rs → Prop
 | .datum d i, .ok (x, e) => i < e → wtT x ≤ 20 * (e - i)
 | .next d i, .ok (x, e) => wtT x ≤ 20 * (e - i)
 | .items v d i acc, .ok (x, e) => wtT x ≤ 1 + wtTs acc + 20 * (e - i)
 | _, _ => True
theorem run_wtT {j : J} {r : Rs} (h : Run s j r) : WtTs j r := by
 induction h with
 | b_fin h1 => trivial
 | b_stop h1 => trivial
 | b_blank h1 h2 ih => trivial
 | b_line h1 h2 ih => trivial
 | b_nest h1 h2 h3 ih => trivial
 | b_open h1 h2 => trivial
 | b_skip h1 h2 h3 ih1 ih2 => trivial
 | b_skipE h1 h2 ih => trivial
 | n_err h1 ih => trivial
 | n_fin h1 h2 ih => trivial
 | @n_ok d i x e r h1 h2 h3 ih1 ih2 =>
   cases r with
   | error q => trivial
   | ok q =>
     obtain ⟨y, f⟩ := q
     have a : i ≤ e := run_goes h1 rfl
     have b : e < f := run_goes h3 rfl h2
     have := ih2 b
     show wtT y ≤ 20 * (f - i)
     omega
 | d_close h1 => trivial
 | @d_str d i h1 =>
   cases hr : strR s i with
   | error q => trivial
   | ok q =>
     obtain ⟨x, e⟩ := q
     intro hi
     unfold strR at hr
     split at hr
     · cases hr
       rename_i hs
       have := strF_len _ _ hs
       rw [dStr, wtT]; simp only [wtTs, List.length_nil] at this ⊢; omega
     · cases hr
 | @d_tok d i h1 =>
   cases hr : tokR s i with
   | error q => trivial
   | ok q =>
     obtain ⟨x, e⟩ := q
     intro hi
     have := tokR_wtT hr; omega
 | d_listD h1 h2 => trivial
 | @d_list d i r h1 h2 h3 ih =>
   cases r with
   | error q => trivial
   | ok q =>
     obtain ⟨x, e⟩ := q
     intro hi
     have h9 : wtT x ≤ 1 + wtTs [] + 20 * (e - (i + 1)) := ih
     simp only [wtTs] at h9
     have := run_goes h3 rfl
     have h8 : i + 1 < e := this
     omega
 | d_vecD h1 h2 => trivial
 | @d_vec d i r h1 h2 h3 ih =>
   cases r with
   | error q => trivial
   | ok q =>
     obtain ⟨x, e⟩ := q
     intro hi
     have h9 : wtT x ≤ 1 + wtTs [] + 20 * (e - (i + 2)) := ih
     simp only [wtTs] at h9
     have := run_goes h3 rfl
     have h8 : i + 2 < e := this
     omega
 | d_shortD h1 h2 => trivial
 | d_shortE h1 h2 h3 ih => trivial
 | @d_short d i nm n x e h1 h2 h3 ih =>
   intro hi
   have h9 : wtT x ≤ 20 * (e - (i + n)) := ih
   have h8 := dcls_short h1
   have h7 : i + n < e := run_goes h3 rfl
   simp only [wt_listT, wtTs, wt_symT]
   omega
 | i_err h1 ih => trivial
 | i_fin h1 h2 ih => trivial
 | @i_close v d i acc x e h1 h2 ih =>
   show wtT (if v then dVec acc else dList acc []) ≤ _
   cases v
   · rw [if_neg (by simp), wt_listT, wtTs]; omega
   · rw [if_pos rfl, wt_vecT]; omega
 | i_bad h1 h2 ih => trivial
 | i_moreE h1 h2 h3 ih1 ih2 => trivial
 | @i_more v d i acc x e y f r h1 h2 h3 h4 ih1 ih2 ih3 =>
   cases r with
   | error q => trivial
   | ok q =>
     obtain ⟨z, g⟩ := q
     have a : i ≤ e := run_goes h1 rfl
     have el : e < s.length := by
      unfold icls at h2
      split at h2
      · cases h2
      · omega
     have b : e < f := run_goes h3 rfl el
     have c : f < g := run_goes h4 rfl
     have h9 : wtT z ≤ 1 + wtTs (acc ++ [y]) + 20 * (g - f) := ih3
     rw [wtTs_append, wtTs, wtTs] at h9
     have h8 := ih2 b
     show wtT z ≤ 1 + wtTs acc + 20 * (g - i)
     omega
 | i_dotE h1 h2 h3 ih1 ih2 => trivial
 | i_dotF h1 h2 h3 h4 ih1 ih2 => trivial
 | i_dotC h1 h2 h3 h4 ih1 ih2 => trivial
 | i_lastE h1 h2 h3 h4 h5 h6 ih1 ih2 ih3 => trivial
 | i_lastB h1 h2 h3 h4 h5 h6 h7 ih1 ih2 ih3 ih4 => trivial
 | i_lastF h1 h2 h3 h4 h5 h6 h7 h8 ih1 ih2 ih3 ih4 => trivial
 | i_lastX h1 h2 h3 h4 h5 h6 h7 h8 h9 ih1 ih2 ih3 ih4 => trivial
 | @i_last v d i acc x e y f z g u k h1 h2 h3 h4 h5 h6 h7 h8 ih1 ih2 ih3 ih4 =>
   have a : i ≤ e := run_goes h1 rfl
   have b : e + 1 ≤ f := run_goes h3 rfl
   have c : f < g := run_goes h6 rfl h4
   have d2 : g ≤ k := run_goes h7 rfl
   have h9 := ih3 c
   have hj := wt_joinedT acc z
   show wtT (joined acc z) ≤ 1 + wtTs acc + 20 * (k + 1 - i)
   omega
theorem all_wtT {i : Nat} {acc : List DV} {r : Except (Nat × Nat) (List DV)} (h : AllR s i acc r) : ∀ {l : List DV}, r = .ok l → (∀ y ∈ acc, wtT y ≤ 20 * s.length) → ∀ y ∈ l, wtT y ≤ 20 * s.length := by
 induction h with
 | err h1 => intro l h; cases h
 | fin h1 h2 => intro l h ha; cases h; exact ha
 | bad h1 h2 h3 => intro l h; cases h
 | more h1 h2 h3 h4 ih =>
   intro l h ha
   refine ih h (fun z hz => ?_)
   rcases List.mem_append.1 hz with hz | hz
   · exact ha z hz
   · simp only [List.mem_singleton] at hz
     subst hz
     have b : wtT _ ≤ 20 * (_ - _) := run_wtT h3 (run_goes h3 rfl h2)
     have c : _ ≤ s.length := run_le h3 rfl h2
     omega
mutual
theorem wt_le : ∀ x : DV, wtV x ≤ wtT x
 | .mk _ _ _ _ _ items rest => by rw [wtV, wtT]; have := wts_le items; have := wts_le rest; omega
theorem wts_le : ∀ l : List DV, wtVs l ≤ wtTs l
 | [] => by simp [wtVs, wtTs]
 | x :: l => by rw [wtVs, wtTs]; have := wt_le x; have := wts_le l; omega
end
end
end Go.Proofs.YtdapbegadhcpcaaGreatDoorM
