/- Numbers that a law holds: what is asked and told of each, in one form for all functions of package num. -/
import Derived.Test.YtigoofeodbbbhaaDoorNum12
import Derived.Test.YtigoofeodbbbhaaDoorNum11
namespace Go.Proofs.YtigoofeodbbbhaaDoor
open Go.RowKit Go.Proofs.YtigoofeodbbbhaaDoorL Go.Proofs.YtigoofeodbbbhaaDoorM
set_option linter.unusedVariables false
set_option linter.unusedSimpArgs false
/-- a number that is held: sign, address, length, capacity; what it is; at most so many limbs; is it canonical? -/
structure NR where
  b : Bool
  A : Option Addr
  n : Nat
  c : Nat
  z : Int
  K : Nat
  can : Bool
structure NR.Ok (w : World) (r : NR) : Prop where
  ex : ∃ l : List Nat, l.length = r.n ∧ Lim w r.A r.c l ∧ sval r.b (valB 4294967296 l) = r.z ∧ (r.can = true → r.b = decide (r.z < 0) ∧ l = digB 4294967296 r.z.natAbs)
  le : r.n ≤ r.K
theorem NR.Ok.below {w w1 : World} {r : NR} (h : r.Ok w) (hb : Below w.heap.size w w1) : r.Ok w1 := by
  obtain ⟨l, h1, h2, h3, h4⟩ := h.ex
  exact ⟨⟨l, h1, h2.below hb, h3, h4⟩, h.le⟩
theorem NR.Ok.only {w w1 : World} {g : Nat} {r : NR} (h : r.Ok w) (ho : Only g w w1) (hne : ∀ k ∈ addrBlock r.A, k ≠ g) : r.Ok w1 := by
  obtain ⟨l, h1, h2, h3, h4⟩ := h.ex
  exact ⟨⟨l, h1, ⟨Rd.keep h2.rd (fun _ b hb => ho.block b (hne b hb)), h2.lt, h2.cap, h2.none, h2.max⟩, h3, h4⟩, h.le⟩
theorem NR.Ok.sm {w : World} {r : NR} (h : r.Ok w) : Sm r.K r.z := by
  obtain ⟨l, h1, h2, h3, h4⟩ := h.ex
  rw [← h3]
  exact (Sm.of r.b l h2.lt).mono (by rw [h1]; exact h.le)
/-- the numbers that are held -/
structure Fs (w : World) (L : List NR) : Prop where
  out : ∀ r ∈ L, r.Ok w
theorem Fs.nil (w : World) : Fs w [] := ⟨fun r h => (nomatch h)⟩
theorem Fs.below {w w1 : World} {L : List NR} (h : Fs w L) (hb : Below w.heap.size w w1) : Fs w1 L := ⟨fun r hr => (h.out r hr).below hb⟩
theorem Fs.cons {w : World} {L : List NR} {r : NR} (h : Fs w L) (k : r.Ok w) : Fs w (r :: L) := ⟨fun x hx => by
  rcases List.mem_cons.1 hx with rfl | hx
  · exact k
  · exact h.out x hx⟩
theorem NR.Ok.of {w : World} {b : Bool} {A : Option Addr} {c n : Nat} {l : List Nat} (hn : l.length = n) (h : Lim w A c l) : NR.Ok w ⟨b, A, n, c, sval b (valB 4294967296 l), n, false⟩ := ⟨⟨l, hn, h, rfl, fun h => (nomatch h)⟩, Nat.le_refl _⟩
theorem open_num {w : World} {b : Bool} {A : Option Addr} {c : Nat} {l : List Nat} (h : LimN w ⟨b, A, c, l⟩) : ∃ k z, l.length = k ∧ NR.Ok w ⟨b, A, k, c, z, k, false⟩ := ⟨_, _, rfl, NR.Ok.of rfl h⟩
/-- a number as an answer: in memory that is new -/
def NumRes (w : World) (z : Int) (K : Nat) (can : Bool) (v : Value) (w' : World) : Prop := ∃ b A n c, v = .agg #[.bool b, .slice A n c] ∧ NR.Ok w' ⟨b, A, n, c, z, K, can⟩ ∧ (∀ k ∈ addrBlock A, w.heap.size ≤ k ∧ k < w'.heap.size)
theorem own_block_lt {α : Type} {enc : α → List Value} {sz : Nat} {e : TypeId} {base n c : Nat} {w : World} {A : Option Addr} {l : List α} (f : Ow enc sz e base w (.slice A n c) l) : ∀ b ∈ addrBlock A, b < w.heap.size := by
  intro b hb
  cases A with
  | none => cases hb
  | some a =>
    simp only [addrBlock, List.mem_singleton] at hb
    subst hb
    exact (f.own.lt a.block rfl).2
theorem NumRes.of {w w' : World} {v : Value} {z : Int} {K : Nat} (h : Told w.heap.size w' v z) (hs : Sm K z) (hK : K ≤ 274877906944) : NumRes w z K true v w' := by
  have hl := hs.len
  obtain ⟨A, c, l, rfl, h1, h2, h3, h4⟩ := h.open (Nat.le_trans hl hK)
  refine ⟨_, A, l.length, c, rfl, ⟨⟨l, rfl, h1, h2, fun _ => ⟨rfl, h3⟩⟩, by rw [h3]; exact hl⟩, fun k hk => ⟨own_block_ge h4 k hk, own_block_lt h4 k hk⟩⟩
theorem Sm.of_le {z : Int} (h : z.natAbs < 18446744073709551616) : Sm 2 z := h
theorem cF {w : World} {L : List NR} {b : Bool} {A : Option Addr} {n c : Nat} {z : Int} {K : Nat} {can : Bool} (F : Fs w L) (h : (⟨b, A, n, c, z, K, can⟩ : NR) ∈ L) :
    Calls Tryd.prog 21 #[.agg #[.bool b, .slice A n c]] w (Gives w (NumRes w z K can)) := by
  obtain ⟨⟨l, h1, h2, h3, h4⟩, h5⟩ := F.out _ h
  simp only at h1 h2 h3 h4 h5
  subst h1
  refine (c_any l b A c w h2).mono ?_
  rintro e w' ⟨v, rfl, ⟨A2, c2, rfl, hl, hge, ho⟩, hb⟩
  exact ⟨_, rfl, ⟨b, A2, l.length, c2, rfl, ⟨⟨l, rfl, hl, h3, h4⟩, h5⟩, fun k hk => ⟨hge k hk, own_block_lt ho k hk⟩⟩, hb⟩
theorem ofF {w : World} (k : Int) (h1 : -9223372036854775808 ≤ k) (h2 : k ≤ 9223372036854775807) :
    Calls Tryd.prog 27 #[.int .i64 k] w (Gives w (NumRes w k 2 true)) := by
  refine (numInt_any k w h1 h2).mono ?_
  rintro e w' ⟨v, rfl, ht, hb⟩
  exact ⟨_, rfl, NumRes.of ht (Sm.of_le (by omega)) (by omega), hb⟩
theorem addF1 {w : World} {L : List NR} {g : Nat} {b : Bool} {A : Option Addr} {n c : Nat} {z : Int} {K : Nat} {can : Bool} {t : TypeId} (F : Fs w L) (B : Blk w g [.bool b, .slice A n c] t) (h : (⟨b, A, n, c, z, K, can⟩ : NR) ∈ L) (hK : K ≤ 274877906942) :
    Calls Tryd.prog 16 #[.slice (some ⟨g, 0, none⟩) 1 1] w (Gives w (NumRes w z (K + 1) true)) := by
  have ho := F.out _ h
  have hs := ho.sm
  obtain ⟨⟨l, h1, h2, h3, h4⟩, h5⟩ := ho
  simp only at h1 h2 h3 h4 h5 hs
  subst h1
  have := numAddAll_any [⟨b, A, c, l⟩] 1 rfl (some ⟨g, 0, none⟩) 1 w (B.rd (l := [⟨b, A, c, l⟩]) lenN rfl) (Nat.le_refl _) (fun x hx => by simp only [List.mem_singleton] at hx; subst hx; exact h2) K (fun x hx => by simp only [List.mem_singleton] at hx; subst hx; exact h5) (by omega) (by omega)
  rw [show sumZ (List.map zN [⟨b, A, c, l⟩]) = z by simp only [List.map_cons, List.map_nil, sumZ, zN]; rw [h3]; omega] at this
  refine this.mono ?_
  rintro e w' ⟨v, rfl, ht, hb⟩
  exact ⟨_, rfl, NumRes.of ht (hs.mono (by omega)) (by omega), hb⟩
theorem addF {w : World} {L : List NR} {g : Nat} {b b2 : Bool} {A A2 : Option Addr} {n c n2 c2 : Nat} {z z2 : Int} {K K2 : Nat} {can can2 : Bool} {t : TypeId} (F : Fs w L) (B : Blk w g [.bool b, .slice A n c, .bool b2, .slice A2 n2 c2] t) (h : (⟨b, A, n, c, z, K, can⟩ : NR) ∈ L) (h' : (⟨b2, A2, n2, c2, z2, K2, can2⟩ : NR) ∈ L) (hK : K + K2 ≤ 274877906942) :
    Calls Tryd.prog 16 #[.slice (some ⟨g, 0, none⟩) 2 2] w (Gives w (NumRes w (z + z2) (K + K2 + 1) true)) := by
  have ho := F.out _ h
  have hs := ho.sm
  obtain ⟨⟨l, h1, h2, h3, h4⟩, h5⟩ := ho
  have ho2 := F.out _ h'
  have hs2 := ho2.sm
  obtain ⟨⟨m, k1, k2, k3, k4⟩, k5⟩ := ho2
  simp only at h1 h2 h3 h4 h5 hs k1 k2 k3 k4 k5 hs2
  subst h1 k1
  have := add2_any l m b b2 A A2 c c2 w g (B.rd (l := [⟨b, A, c, l⟩, ⟨b2, A2, c2, m⟩]) lenN rfl) h2 k2 (by omega) (by omega)
  rw [h3, k3] at this
  refine this.mono ?_
  rintro e w' ⟨v, rfl, ht, hb⟩
  exact ⟨_, rfl, NumRes.of ht ((hs.mono (by omega)).add (hs2.mono (by omega))) (by omega), hb⟩
theorem mulF {w : World} {L : List NR} {g : Nat} {b b2 : Bool} {A A2 : Option Addr} {n c n2 c2 : Nat} {z z2 : Int} {K K2 : Nat} {can can2 : Bool} {t : TypeId} (F : Fs w L) (B : Blk w g [.bool b, .slice A n c, .bool b2, .slice A2 n2 c2] t) (h : (⟨b, A, n, c, z, K, can⟩ : NR) ∈ L) (h' : (⟨b2, A2, n2, c2, z2, K2, can2⟩ : NR) ∈ L) (hK : K + K2 ≤ 1073741824) :
    Calls Tryd.prog 35 #[.slice (some ⟨g, 0, none⟩) 2 2] w (Gives w (NumRes w (z * z2) (K + K2) true)) := by
  have ho := F.out _ h
  have hs := ho.sm
  obtain ⟨⟨l, h1, h2, h3, h4⟩, h5⟩ := ho
  have ho2 := F.out _ h'
  have hs2 := ho2.sm
  obtain ⟨⟨m, k1, k2, k3, k4⟩, k5⟩ := ho2
  simp only at h1 h2 h3 h4 h5 hs k1 k2 k3 k4 k5 hs2
  subst h1 k1
  have := numMulAll_any [⟨b, A, c, l⟩, ⟨b2, A2, c2, m⟩] 2 rfl (some ⟨g, 0, none⟩) 2 w (B.rd (l := [⟨b, A, c, l⟩, ⟨b2, A2, c2, m⟩]) lenN rfl) (Nat.le_refl _) (two_limN' h2 k2) (by simp only [mlens, List.map_cons, List.map_nil, lens]; omega) (by omega)
  rw [show prodZ (List.map zN [⟨b, A, c, l⟩, ⟨b2, A2, c2, m⟩]) = z * z2 by simp only [List.map_cons, List.map_nil, prodZ, zN]; rw [h3, k3, Int.mul_one]] at this
  refine this.mono ?_
  rintro e w' ⟨v, rfl, ht, hb⟩
  exact ⟨_, rfl, NumRes.of ht (hs.mul hs2) (by omega), hb⟩
theorem subF {w : World} {L : List NR} {b b2 : Bool} {A A2 : Option Addr} {n c n2 c2 : Nat} {z z2 : Int} {K K2 : Nat} {can can2 : Bool} (F : Fs w L) (h : (⟨b, A, n, c, z, K, can⟩ : NR) ∈ L) (h' : (⟨b2, A2, n2, c2, z2, K2, can2⟩ : NR) ∈ L) (hK : K + K2 ≤ 274877906942) :
    Calls Tryd.prog 29 #[.agg #[.bool b, .slice A n c], .agg #[.bool b2, .slice A2 n2 c2]] w (Gives w (NumRes w (z - z2) (K + K2 + 1) true)) := by
  have ho := F.out _ h
  have hs := ho.sm
  obtain ⟨⟨l, h1, h2, h3, h4⟩, h5⟩ := ho
  have ho2 := F.out _ h'
  have hs2 := ho2.sm
  obtain ⟨⟨m, k1, k2, k3, k4⟩, k5⟩ := ho2
  simp only at h1 h2 h3 h4 h5 hs k1 k2 k3 k4 k5 hs2
  subst h1 k1
  have := numSub_any l m b b2 A A2 c c2 w h2 k2 (by omega) (by omega)
  rw [h3, k3] at this
  refine this.mono ?_
  rintro e w' ⟨v, rfl, ht, hb⟩
  exact ⟨_, rfl, NumRes.of ht (by rw [Int.sub_eq_add_neg]; exact (hs.mono (by omega)).add (hs2.neg.mono (by omega))) (by omega), hb⟩
theorem negF {w : World} {L : List NR} {b : Bool} {A : Option Addr} {n c : Nat} {z : Int} {K : Nat} {can : Bool} (F : Fs w L) (h : (⟨b, A, n, c, z, K, can⟩ : NR) ∈ L) (hK : K ≤ 274877906942) :
    Calls Tryd.prog 31 #[.agg #[.bool b, .slice A n c]] w (Gives w (NumRes w (-z) K true)) := by
  have ho := F.out _ h
  have hs := ho.sm
  obtain ⟨⟨l, h1, h2, h3, h4⟩, h5⟩ := ho
  simp only at h1 h2 h3 h4 h5 hs
  subst h1
  have := numNeg_any l b A c w h2
  rw [h3] at this
  refine this.mono ?_
  rintro e w' ⟨v, rfl, ht, hb⟩
  exact ⟨_, rfl, NumRes.of ht hs.neg (by omega), hb⟩
theorem cmpF {w : World} {L : List NR} {b b2 : Bool} {A A2 : Option Addr} {n c n2 c2 : Nat} {z z2 : Int} {K K2 : Nat} {can can2 : Bool} (F : Fs w L) (h : (⟨b, A, n, c, z, K, can⟩ : NR) ∈ L) (h' : (⟨b2, A2, n2, c2, z2, K2, can2⟩ : NR) ∈ L) (hK : K + K2 ≤ 274877906942) (r : Int) (hr : cmpZ z z2 = r) :
    Calls Tryd.prog 33 #[.agg #[.bool b, .slice A n c], .agg #[.bool b2, .slice A2 n2 c2]] w (Gives w (fun v _ => v = .int .i64 r)) := by
  have ho := F.out _ h
  obtain ⟨⟨l, h1, h2, h3, h4⟩, h5⟩ := ho
  have ho2 := F.out _ h'
  obtain ⟨⟨m, k1, k2, k3, k4⟩, k5⟩ := ho2
  simp only at h1 h2 h3 h4 h5 k1 k2 k3 k4 k5
  subst h1 k1 hr
  have := numCmp_any l m b b2 A A2 c c2 w h2 k2 (by omega) (by omega)
  rw [h3, k3] at this
  exact this
theorem sameF {w : World} {L : List NR} {b b2 : Bool} {A A2 : Option Addr} {n c n2 c2 : Nat} {z z2 : Int} {K K2 : Nat} (F : Fs w L) (h : (⟨b, A, n, c, z, K, true⟩ : NR) ∈ L) (h' : (⟨b2, A2, n2, c2, z2, K2, true⟩ : NR) ∈ L) (hz : z = z2) :
    Calls Tryd.prog 15 #[.agg #[.bool b, .slice A n c], .agg #[.bool b2, .slice A2 n2 c2]] w (Gives w (fun v _ => v = .bool true)) := by
  subst hz
  have ho := F.out _ h
  obtain ⟨⟨l, h1, h2, h3, h4⟩, h5⟩ := ho
  have ho2 := F.out _ h'
  obtain ⟨⟨m, k1, k2, k3, k4⟩, k5⟩ := ho2
  simp only at h1 h2 h3 h4 h5 k1 k2 k3 k4 k5
  obtain ⟨hb, hl⟩ := h4 trivial
  obtain ⟨hb2, hm⟩ := k4 trivial
  obtain rfl : m = l := by rw [hl, hm]
  obtain rfl : b2 = b := by rw [hb, hb2]
  subst h1 k1
  have HS := As.mk (fun w1 (hb : Below w.heap.size w w1) => sameNum_any m b2 A A2 c c2 w1 (h2.below hb) (k2.below hb))
  obtain ⟨n, hn⟩ : ∃ n, n = m.length := ⟨_, rfl⟩
  rw [← hn] at HS ⊢
  clear h2 k2 h3 k3 h4 k4 h5 k5 hb hl hb2 hm hn F h h'
  go_enter Tryd.func15, Tryd.ntmps15
  go_wp2_with (first
    | ((with_reducible refine g_dst 2 ?_); go_must (refine ev_box 2 rfl (cs := [.bool b2, .slice A n c]) (by rfl) ?_); intro g2 w2 hb2 B2 hg2)
    | ((with_reducible refine g_dst 3 ?_); go_must (refine ev_box 3 rfl (cs := [.bool b2, .slice A2 n c2]) (by rfl) ?_); intro g3 w3 hb3 B3 hg3; replace B2 := B2.below hb3; have C2 := B2.cells; have C3 := B3.cells; replace hb3 := bthen hb2 hb3)
    | (go_at_call 45; (with_reducible refine (HS.out _ hb3).mono ?_); rintro e w4 ⟨v4, rfl, rfl, hb4⟩))
  go_ret
  exact ⟨_, rfl, rfl, bthen hb3 hb4⟩
end Go.Proofs.YtigoofeodbbbhaaDoor
