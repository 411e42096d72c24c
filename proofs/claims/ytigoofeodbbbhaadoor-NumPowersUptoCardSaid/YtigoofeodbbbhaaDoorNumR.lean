/- Functions of tandemref02 over numbers that are held: Of, Canon, Int, Sub, Add. -/
import Derived.Test.YtigoofeodbbbhaaDoorNumK
import Derived.Test.YtigoofeodbbbhaaDoorNum13
namespace Go.Proofs.YtigoofeodbbbhaaDoor
open Go.RowKit Go.Proofs.YtigoofeodbbbhaaDoorL Go.Proofs.YtigoofeodbbbhaaDoorM
set_option linter.unusedVariables false
set_option linter.unusedSimpArgs false
section
variable {w : World} {L : List NR} {b b2 : Bool} {A A2 : Option Addr} {n c n2 c2 : Nat} {z z2 q r : Int} {K K2 : Nat} {can can2 ok : Bool}
theorem sl_good {w : World} {A : Option Addr} {c : Nat} {l : List Nat} (h : Lim w A c l) : Sl.Good ⟨A, c, l⟩ w := ⟨h.rd, h.lt, h.cap, h.max, h.none⟩
theorem rcanonF (F : Fs w L) (h : (⟨b, A, n, c, z, K, can⟩ : NR) ∈ L) (hK : K ≤ 274877906942) :
    Calls Tryd.prog 52 #[.agg #[.bool b, .slice A n c]] w (Gives w (NumRes w z K true)) := by
  have ho := F.out _ h
  have hs := ho.sm
  obtain ⟨⟨l, h1, h2, h3, h4⟩, h5⟩ := ho
  simp only at h1 h2 h3 h4 h5 hs
  subst h1
  have := canonT_any l b A c w h2
  rw [h3] at this
  refine this.mono ?_
  rintro e w' ⟨v, rfl, ht, hb⟩
  exact ⟨_, rfl, NumRes.of ht hs (by omega), hb⟩
theorem rofF (F : Fs w L) (h : (⟨b, A, n, c, z, K, can⟩ : NR) ∈ L) (neg : Bool) (y : Int) (hy : sval neg z.natAbs = y) (hK : K ≤ 274877906942) :
    Calls Tryd.prog 54 #[.bool neg, .slice A n c] w (Gives w (NumRes w y K true)) := by
  have ho := F.out _ h
  have hs := ho.sm
  obtain ⟨⟨l, h1, h2, h3, h4⟩, h5⟩ := ho
  simp only at h1 h2 h3 h4 h5 hs
  subst h1
  have := ofT_any l _ rfl neg A c w h2
  have e : valB 4294967296 l = z.natAbs := by rw [← h3, sval_abs]
  rw [e, hy] at this
  refine this.mono ?_
  rintro e' w' ⟨v, rfl, ht, hb⟩
  exact ⟨_, rfl, NumRes.of ht (by unfold Sm at *; rw [← hy, sval_abs]; exact hs) (by omega), hb⟩
theorem field_neg (x : Bool) (y : Value) (w : World) : (Instr.field 26 (.agg #[.bool x, y]) 0).run Tryd.prog w = .ok (.bool x) w := by
  simp [Instr.field, underlying, Tryd.underlying26, part, asAgg, go_sem]
theorem field_take (x : Bool) (y : Value) (w : World) : ((Sem.run Tryd.prog (Instr.field 26 (.agg #[.bool x, y]) 0) w).andThen fun a w' => Result.ok (Next.value a) w') = Result.ok (Next.value (.bool x)) w := by
  rw [field_neg]; rfl
theorem rintF (k : Int) (h1 : -9223372036854775808 ≤ k) (h2 : k ≤ 9223372036854775807) :
    Calls Tryd.prog 28 #[.int .i64 k] w (Gives w (NumRes w k 2 true)) := by
  refine (rInt_any k w h1 h2).mono ?_
  rintro e w' ⟨v, rfl, ht, hb⟩
  exact ⟨_, rfl, NumRes.of ht (Sm.of_le (by omega)) (by omega), hb⟩
theorem rsubF (F : Fs w L) (h : (⟨b, A, n, c, z, K, can⟩ : NR) ∈ L) (h' : (⟨b2, A2, n2, c2, z2, K2, can2⟩ : NR) ∈ L) (hK : K + K2 ≤ 274877906942) :
    Calls Tryd.prog 30 #[.agg #[.bool b, .slice A n c], .agg #[.bool b2, .slice A2 n2 c2]] w (Gives w (NumRes w (z - z2) (K + K2 + 1) true)) := by
  have ho := F.out _ h
  have hs := ho.sm
  obtain ⟨⟨l, h1, h2, h3, h4⟩, h5⟩ := ho
  have ho2 := F.out _ h'
  have hs2 := ho2.sm
  obtain ⟨⟨m, k1, k2, k3, k4⟩, k5⟩ := ho2
  simp only at h1 h2 h3 h4 h5 hs k1 k2 k3 k4 k5 hs2
  subst h1 k1
  have := rSub2_any l m b b2 A A2 c c2 w h2 k2 (by omega) (by omega)
  rw [h3, k3] at this
  refine this.mono ?_
  rintro e w' ⟨v, rfl, ht, hb⟩
  exact ⟨_, rfl, NumRes.of ht (by rw [Int.sub_eq_add_neg]; exact (hs.mono (by omega)).add (hs2.neg.mono (by omega))) (by omega), hb⟩
theorem raddF {g : Nat} {t : TypeId} (F : Fs w L) (B : Blk w g [.bool b, .slice A n c, .bool b2, .slice A2 n2 c2] t) (h : (⟨b, A, n, c, z, K, can⟩ : NR) ∈ L) (h' : (⟨b2, A2, n2, c2, z2, K2, can2⟩ : NR) ∈ L) (hK : K + K2 ≤ 274877906940) :
    Calls Tryd.prog 18 #[.slice (some ⟨g, 0, none⟩) 2 2] w (Gives w (NumRes w (z + z2) (K + K2 + 1) true)) := by
  have ho := F.out _ h
  have hs := ho.sm
  obtain ⟨⟨l, h1, h2, h3, h4⟩, h5⟩ := ho
  have ho2 := F.out _ h'
  have hs2 := ho2.sm
  obtain ⟨⟨m, k1, k2, k3, k4⟩, k5⟩ := ho2
  simp only at h1 h2 h3 h4 h5 hs k1 k2 k3 k4 k5 hs2
  subst h1 k1
  have := rAddAll_any [⟨b, A, c, l⟩, ⟨b2, A2, c2, m⟩] 2 rfl (some ⟨g, 0, none⟩) 2 w (B.rd (l := [⟨b, A, c, l⟩, ⟨b2, A2, c2, m⟩]) lenN rfl) (Nat.le_refl _) (two_limN' h2 k2) (K + K2) (fun x hx => by
    simp only [List.mem_cons, List.not_mem_nil, or_false] at hx
    rcases hx with rfl | rfl
    · exact Nat.le_trans h5 (by omega)
    · exact Nat.le_trans k5 (by omega)) (by omega) (by omega)
  rw [show sumZ (List.map zN [⟨b, A, c, l⟩, ⟨b2, A2, c2, m⟩]) = z + z2 by simp only [List.map_cons, List.map_nil, sumZ, zN]; rw [h3, k3]; omega] at this
  refine this.mono ?_
  rintro e w' ⟨v, rfl, ht, hb⟩
  exact ⟨_, rfl, NumRes.of ht ((hs.mono (by omega)).add (hs2.mono (by omega))) (by omega), hb⟩
theorem NumRes.mono {w w' : World} {z : Int} {K K2 : Nat} {can : Bool} {v : Value} (h : NumRes w z K can v w') (hK : K ≤ K2) : NumRes w z K2 can v w' := by
  obtain ⟨b, A, n, c, rfl, ⟨he, hl⟩, hf⟩ := h
  exact ⟨b, A, n, c, rfl, ⟨he, Nat.le_trans hl hK⟩, hf⟩
theorem rcanonS {s : Bool} (F : Fs w L) (h : (⟨b, A, n, c, z, K, can⟩ : NR) ∈ L) (hK : K ≤ 274877906942) (hs : decide (z < 0) = s) :
    Calls Tryd.prog 52 #[.agg #[.bool b, .slice A n c]] w (Gives w fun v w' => ∃ A n c, v = .agg #[.bool s, .slice A n c] ∧ NR.Ok w' ⟨s, A, n, c, z, K, true⟩ ∧ (∀ k ∈ addrBlock A, w.heap.size ≤ k ∧ k < w'.heap.size)) := by
  refine (rcanonF F h hK).mono ?_
  rintro e w' ⟨v, rfl, ⟨b1, A1, n1, c1, rfl, o1, f1⟩, hb⟩
  obtain rfl : b1 = s := by
    obtain ⟨l, _, _, _, h4⟩ := o1.ex
    have h5 := (h4 rfl).1
    simp only at h5
    rw [h5, hs]
  exact ⟨_, rfl, ⟨_, _, _, rfl, o1, f1⟩, hb⟩
end
end Go.Proofs.YtigoofeodbbbhaaDoor
