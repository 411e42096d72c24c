/- Lists of limbs that a law holds: what is asked and told of each, in one form for all functions of package nat and of chapter 1's own answer. -/
import Derived.Test.YtbdcjlikjpdhfaaDoorNat11
import Derived.Test.YtbdcjlikjpdhfaaDoorRef5
import Derived.Test.YtbdcjlikjpdhfaaDoorText1
import Derived.Test.YtbdcjlikjpdhfaaDoorNat3
import Derived.Test.YtbdcjlikjpdhfaaDoorSame
namespace Go.Proofs.YtbdcjlikjpdhfaaDoor
open Go.RowKit Go.Proofs.YtbdcjlikjpdhfaaDoorL Go.Proofs.YtbdcjlikjpdhfaaDoorM
set_option linter.unusedVariables false
set_option linter.unusedSimpArgs false
/-- a list that is held: address, length, capacity; its value; at most so many limbs; is it canonical? -/
structure UR where
  A : Option Addr
  n : Nat
  c : Nat
  V : Nat
  K : Nat
  can : Bool
structure UR.Ok (w : World) (r : UR) : Prop where
  ex : ∃ l : List Nat, l.length = r.n ∧ Lim w r.A r.c l ∧ valB 4294967296 l = r.V ∧ (r.can = true → l = digB 4294967296 r.V)
  le : r.n ≤ r.K
theorem UR.Ok.below {w w1 : World} {r : UR} (h : r.Ok w) (hb : Below w.heap.size w w1) : r.Ok w1 := by
  obtain ⟨l, h1, h2, h3, h4⟩ := h.ex
  exact ⟨⟨l, h1, h2.below hb, h3, h4⟩, h.le⟩
theorem UR.Ok.lt {w : World} {r : UR} (h : r.Ok w) : r.V < 4294967296 ^ r.K := by
  obtain ⟨l, h1, h2, h3, h4⟩ := h.ex
  rw [← h3]
  exact Nat.lt_of_lt_of_le (valB_lt _ (by omega) l h2.lt) (Nat.pow_le_pow_right (by omega) (by rw [h1]; exact h.le))
/-- the lists that are held -/
structure Us (w : World) (L : List UR) : Prop where
  out : ∀ r ∈ L, r.Ok w
theorem Us.nil (w : World) : Us w [] := ⟨fun r h => (nomatch h)⟩
theorem Us.below {w w1 : World} {L : List UR} (h : Us w L) (hb : Below w.heap.size w w1) : Us w1 L := ⟨fun r hr => (h.out r hr).below hb⟩
theorem Us.cons {w : World} {L : List UR} {r : UR} (h : Us w L) (k : r.Ok w) : Us w (r :: L) := ⟨fun x hx => by
  rcases List.mem_cons.1 hx with rfl | hx
  · exact k
  · exact h.out x hx⟩
theorem UR.Ok.of {w : World} {A : Option Addr} {c : Nat} {l : List Nat} (h : Lim w A c l) : ∃ n V, l.length = n ∧ valB 4294967296 l = V ∧ UR.Ok w ⟨A, n, c, V, n, false⟩ := ⟨_, _, rfl, rfl, ⟨l, rfl, h, rfl, fun h => (nomatch h)⟩, Nat.le_refl _⟩
/-- a number as an answer: canonical, in memory that is new -/
def LimRes (w : World) (V K : Nat) (v : Value) (w' : World) : Prop := ∃ A n c, v = .slice A n c ∧ UR.Ok w' ⟨A, n, c, V, K, true⟩ ∧ Ow encU 1 36 w.heap.size w' (.slice A n c) (digB 4294967296 V)
theorem LimRes.of {w w' : World} {v : Value} {V K : Nat} (h : Ow encU 1 36 w.heap.size w' v (digB 4294967296 V)) (hs : V < 4294967296 ^ K) (hK : K ≤ 274877906944) : LimRes w V K v w' := by
  have hl := digB_len_lt 4294967296 (by omega) K V hs
  obtain ⟨A, c, rfl, h1, h2⟩ := h.form
  exact ⟨A, _, c, rfl, ⟨⟨_, rfl, Ow.lim h h1 (Nat.le_trans hl hK), digB_val _ (by omega) V, fun _ => rfl⟩, hl⟩, h⟩
theorem UR.good {w : World} {A : Option Addr} {c : Nat} {l : List Nat} (h : Lim w A c l) : Sl.Good ⟨A, c, l⟩ w := ⟨h.rd, h.lt, h.cap, h.max, h.none⟩
theorem lt_pow_of_le {V K n : Nat} (h : V < 4294967296 ^ K) (hk : K ≤ n) : V < 4294967296 ^ n := Nat.lt_of_lt_of_le h (Nat.pow_le_pow_right (by omega) hk)
theorem add_lt_pow {V U K n : Nat} (h : V < 4294967296 ^ K) (h2 : U < 4294967296 ^ n) : V + U < 4294967296 ^ (K + n + 1) := by
  have h3 := lt_pow_of_le h (Nat.le_add_right K n)
  have h4 := lt_pow_of_le h2 (Nat.le_add_left n K)
  rw [Nat.pow_succ]; omega
theorem mul_lt_pow2 {V U K n : Nat} (h : V < 4294967296 ^ K) (h2 : U < 4294967296 ^ n) : V * U < 4294967296 ^ (K + n) := by
  rw [Nat.pow_add]; exact Nat.mul_lt_mul'' h h2
theorem UR.nil_ok (w : World) : UR.Ok w ⟨none, 0, 0, 0, 0, true⟩ := ⟨⟨[], rfl, ⟨Rd.nil _ _ _ _, fun x hx => (nomatch hx), Nat.le_refl _, fun _ => rfl, by simp⟩, rfl, fun _ => digB_zero _ |>.symm⟩, Nat.le_refl _⟩
section
variable {w : World} {L : List UR} {A A2 A3 : Option Addr} {n n2 n3 c c2 c3 V U T K K2 K3 : Nat} {can can2 can3 : Bool}
theorem cU (F : Us w L) (h : (⟨A, n, c, V, K, can⟩ : UR) ∈ L) :
    Calls Tryd.prog 14 #[.slice A n c] w (Gives w fun v w' => ∃ A2 c2, v = .slice A2 n c2 ∧ UR.Ok w' ⟨A2, n, c2, V, K, can⟩) := by
  obtain ⟨⟨l, h1, h2, h3, h4⟩, h5⟩ := F.out _ h
  simp only at h1 h2 h3 h4 h5
  subst h1
  have hm := h2.max
  have HC := As.mk (copy_any l A c w h2.rd h2.none (by omega))
  have HK := As.mk (And.intro h2.lt (And.intro h2.max (And.intro h3 (And.intro h4 h5))))
  obtain ⟨n, hn⟩ : ∃ n, n = l.length := ⟨_, rfl⟩
  have Hn := As.mk hn
  rw [← hn] at HC ⊢
  clear hn h2 h3 h4 h5 hm F h
  go_enter Tryd.func14, Tryd.ntmps14
  go_wp2_with (go_at_call 36; (with_reducible refine HC.out.mono ?_); rintro e w1 ⟨v1, rfl, ho, hb⟩)
  go_ret
  obtain ⟨A2, c2, rfl, h1, h2⟩ := ho.form
  refine ⟨_, rfl, ⟨A2, c2, by rw [Hn.out]; rfl, ⟨⟨l, Hn.out.symm, ⟨ho.rd lenU, HK.out.1, h1, ho.none, HK.out.2.1⟩, HK.out.2.2.1, HK.out.2.2.2.1⟩, ?_⟩⟩, hb⟩
  have := HK.out.2.2.2.2
  have h6 := Hn.out
  show n ≤ K
  omega
theorem sU (F : Us w L) (h : (⟨A, n, c, V, K, true⟩ : UR) ∈ L) (h' : (⟨A2, n2, c2, U, K2, true⟩ : UR) ∈ L) (hz : V = U) :
    Calls Tryd.prog 15 #[.slice A n c, .slice A2 n2 c2] w (Gives w (fun v _ => v = .bool true)) := by
  subst hz
  obtain ⟨⟨l, h1, h2, h3, h4⟩, h5⟩ := F.out _ h
  obtain ⟨⟨m, k1, k2, k3, k4⟩, k5⟩ := F.out _ h'
  simp only at h1 h2 h3 h4 h5 k1 k2 k3 k4 k5
  have hl := h4 trivial
  have hm := k4 trivial
  obtain rfl : m = l := by rw [hl, hm]
  obtain rfl : n2 = n := by rw [← h1, ← k1]
  have hmax := h2.max
  have HS := As.mk (sameLimbs_any m n2 n2 h1 rfl A A2 c c2 w h2.rd k2.rd (h1 ▸ h2.cap) (h1 ▸ k2.cap) (by omega))
  clear h1 h2 k2 h3 k1 k3 h4 k4 h5 k5 hl hm F h h' hmax
  go_enter Tryd.func15, Tryd.ntmps15
  go_wp2_with (go_at_call 37; (with_reducible refine HS.out.mono ?_); rintro e w1 ⟨v1, rfl, rfl, hb⟩)
  go_ret
  exact ⟨_, rfl, rfl, hb⟩
theorem addLU (F : Us w L) (h : (⟨A, n, c, V, K, can⟩ : UR) ∈ L) (h' : (⟨A2, n2, c2, U, K2, can2⟩ : UR) ∈ L) (Ls : List Sl) (hn3 : Ls.length = n3) (hr : Rd encS 1 w A3 Ls) (hg : ∀ s ∈ Ls, s.Good w) (hc : n3 ≤ c3) (hm : n3 ≤ 1073741824) (hT : sumV 4294967296 (Ls.map Sl.l) = T) (hT2 : T < 4294967296 ^ K3) (hK : K + K2 + K3 + 2 ≤ 274877906944) :
    Calls Tryd.prog 16 #[.slice A n c, .slice A2 n2 c2, .slice A3 n3 c3] w (Gives w (LimRes w (V + U + T) (K + K2 + K3 + 2))) := by
  have g1 := (F.out _ h).lt
  have g2 := (F.out _ h').lt
  obtain ⟨⟨l, h1, h2, h3, h4⟩, h5⟩ := F.out _ h
  obtain ⟨⟨m, k1, k2, k3, k4⟩, k5⟩ := F.out _ h'
  simp only at h1 h2 h3 h4 h5 k1 k2 k3 k4 k5 g1 g2
  have := natAdd_any l m n n2 n3 h1 k1 Ls hn3 A A2 A3 c c2 c3 w h2 k2 hr hg hc hm
  rw [h3, k3, hT] at this
  refine this.mono ?_
  rintro e w' ⟨v, rfl, ho, hb⟩
  exact ⟨_, rfl, LimRes.of ho (lt_pow_of_le (add_lt_pow (add_lt_pow g1 g2) hT2) (by omega)) (by omega), hb⟩
theorem addU (F : Us w L) (h : (⟨A, n, c, V, K, can⟩ : UR) ∈ L) (h' : (⟨A2, n2, c2, U, K2, can2⟩ : UR) ∈ L) (hK : K + K2 + 2 ≤ 274877906944) :
    Calls Tryd.prog 16 #[.slice A n c, .slice A2 n2 c2, .slice none 0 0] w (Gives w (LimRes w (V + U) (K + K2 + 2))) := by
  have := addLU (T := 0) (K3 := 0) (n3 := 0) F h h' [] rfl (Rd.nil encS 1 w none) (fun s hs => (nomatch hs)) (Nat.le_refl 0) (by omega) rfl (by simp) (by omega)
  simpa only [Nat.add_zero] using this
theorem addU0 (F : Us w L) (h : (⟨A, n, c, V, K, can⟩ : UR) ∈ L) (hK : K + 2 ≤ 274877906944) :
    Calls Tryd.prog 16 #[.slice A n c, .slice none 0 0, .slice none 0 0] w (Gives w (LimRes w V (K + 2))) := by
  have F2 : Us w ((⟨none, 0, 0, 0, 0, false⟩ : UR) :: L) := F.cons ⟨⟨[], rfl, ⟨Rd.nil _ _ _ _, fun x hx => (nomatch hx), Nat.le_refl _, fun _ => rfl, by simp⟩, rfl, fun h => (nomatch h)⟩, Nat.le_refl _⟩
  have := addU F2 (List.mem_cons_of_mem _ h) (List.mem_cons_self ..) (by omega)
  simpa only [Nat.add_zero] using this
/-- Add of two and one more -/
theorem addU3 {B : Nat} {V3 K4 : Nat} {t : TypeId} (F : Us w L) (h : (⟨A, n, c, V, K, can⟩ : UR) ∈ L) (h' : (⟨A2, n2, c2, U, K2, can2⟩ : UR) ∈ L) (hB : Blk w B [.slice A3 n3 c3] t) (h'' : (⟨A3, n3, c3, V3, K4, can3⟩ : UR) ∈ L) (hK : K + K2 + K4 + 3 ≤ 274877906944) :
    Calls Tryd.prog 16 #[.slice A n c, .slice A2 n2 c2, .slice (some ⟨B, 0, none⟩) 1 1] w (Gives w (LimRes w (V + U + V3) (K + K2 + K4 + 2))) := by
  have g3 := (F.out _ h'').lt
  obtain ⟨⟨l, h1, h2, h3, h4⟩, h5⟩ := F.out _ h''
  simp only at h1 h2 h3 h4 h5 g3
  subst h1
  exact addLU (T := V3) (K3 := K4) (n3 := 1) F h h' [⟨A3, c3, l⟩] rfl (hB.rd (l := [⟨A3, c3, l⟩]) lenS rfl) (fun s hs => by simp only [List.mem_singleton] at hs; subst hs; exact UR.good h2) (Nat.le_refl 1) (by omega) (by simp [sumV, h3]) g3 (by omega)
theorem mulLU (F : Us w L) (h : (⟨A, n, c, V, K, can⟩ : UR) ∈ L) (h' : (⟨A2, n2, c2, U, K2, can2⟩ : UR) ∈ L) (Ls : List Sl) (hn3 : Ls.length = n3) (hr : Rd encS 1 w A3 Ls) (hg : ∀ s ∈ Ls, s.Good w) (hc : n3 ≤ c3) (hm : n3 ≤ 1073741824) (hT : prodV 4294967296 (Ls.map Sl.l) = T) (hT2 : T < 4294967296 ^ K3) (hlens : lens (Ls.map Sl.l) ≤ K3) (hK : K + K2 + K3 ≤ 274877906944) :
    Calls Tryd.prog 26 #[.slice A n c, .slice A2 n2 c2, .slice A3 n3 c3] w (Gives w (LimRes w (V * U * T) (K + K2 + K3))) := by
  have g1 := (F.out _ h).lt
  have g2 := (F.out _ h').lt
  obtain ⟨⟨l, h1, h2, h3, h4⟩, h5⟩ := F.out _ h
  obtain ⟨⟨m, k1, k2, k3, k4⟩, k5⟩ := F.out _ h'
  simp only at h1 h2 h3 h4 h5 k1 k2 k3 k4 k5 g1 g2
  have := natMul_any l m n n2 n3 h1 k1 Ls hn3 A A2 A3 c c2 c3 w h2 k2 hr hg hc hm (by omega)
  rw [h3, k3, hT] at this
  refine this.mono ?_
  rintro e w' ⟨v, rfl, ho, hb⟩
  exact ⟨_, rfl, LimRes.of ho (mul_lt_pow2 (mul_lt_pow2 g1 g2) hT2) (by omega), hb⟩
theorem mulU (F : Us w L) (h : (⟨A, n, c, V, K, can⟩ : UR) ∈ L) (h' : (⟨A2, n2, c2, U, K2, can2⟩ : UR) ∈ L) (hK : K + K2 + 1 ≤ 274877906944) :
    Calls Tryd.prog 26 #[.slice A n c, .slice A2 n2 c2, .slice none 0 0] w (Gives w (LimRes w (V * U) (K + K2 + 1))) := by
  have := mulLU (T := 1) (K3 := 1) (n3 := 0) F h h' [] rfl (Rd.nil encS 1 w none) (fun s hs => (nomatch hs)) (Nat.le_refl 0) (by omega) rfl (by simp) (by simp [lens]) (by omega)
  simpa only [Nat.mul_one] using this
theorem mulU3 {B : Nat} {V3 K4 : Nat} {t : TypeId} (F : Us w L) (h : (⟨A, n, c, V, K, can⟩ : UR) ∈ L) (h' : (⟨A2, n2, c2, U, K2, can2⟩ : UR) ∈ L) (hB : Blk w B [.slice A3 n3 c3] t) (h'' : (⟨A3, n3, c3, V3, K4, can3⟩ : UR) ∈ L) (hK : K + K2 + K4 ≤ 274877906944) :
    Calls Tryd.prog 26 #[.slice A n c, .slice A2 n2 c2, .slice (some ⟨B, 0, none⟩) 1 1] w (Gives w (LimRes w (V * U * V3) (K + K2 + K4))) := by
  have g3 := (F.out _ h'').lt
  obtain ⟨⟨l, h1, h2, h3, h4⟩, h5⟩ := F.out _ h''
  simp only at h1 h2 h3 h4 h5 g3
  subst h1
  exact mulLU (T := V3) (K3 := K4) (n3 := 1) F h h' [⟨A3, c3, l⟩] rfl (hB.rd (l := [⟨A3, c3, l⟩]) lenS rfl) (fun s hs => by simp only [List.mem_singleton] at hs; subst hs; exact UR.good h2) (Nat.le_refl 1) (by omega) (by simp [prodV, h3]) g3 (by simpa [lens] using h5) (by omega)
theorem subU_lt (F : Us w L) (h : (⟨A, n, c, V, K, can⟩ : UR) ∈ L) (h' : (⟨A2, n2, c2, U, K2, can2⟩ : UR) ∈ L) (hlt : V < U) (hK : K ≤ 274877906944 ∧ K2 ≤ 274877906944) :
    Calls Tryd.prog 28 #[.slice A n c, .slice A2 n2 c2] w (Gives w (fun v _ => v = .tuple #[.slice none 0 0, .bool false])) := by
  obtain ⟨⟨l, h1, h2, h3, h4⟩, h5⟩ := F.out _ h
  obtain ⟨⟨m, k1, k2, k3, k4⟩, k5⟩ := F.out _ h'
  simp only at h1 h2 h3 h4 h5 k1 k2 k3 k4 k5
  subst h1 k1
  have := natSub_any l m A A2 c c2 w h2.rd k2.rd ⟨h2.lt, k2.lt⟩ h2.cap k2.cap (by omega) (by omega)
  rw [h3, k3] at this
  refine this.mono ?_
  rintro e w' ⟨v, rfl, ho, hb⟩
  exact ⟨_, rfl, ho.1 hlt, hb⟩
theorem subU_ge (F : Us w L) (h : (⟨A, n, c, V, K, can⟩ : UR) ∈ L) (h' : (⟨A2, n2, c2, U, K2, can2⟩ : UR) ∈ L) (hge : U ≤ V) (hK : K ≤ 274877906944 ∧ K2 ≤ 274877906944) :
    Calls Tryd.prog 28 #[.slice A n c, .slice A2 n2 c2] w (Gives w (fun v w' => ∃ q, v = .tuple #[q, .bool true] ∧ LimRes w (V - U) K q w')) := by
  have g1 := (F.out _ h).lt
  obtain ⟨⟨l, h1, h2, h3, h4⟩, h5⟩ := F.out _ h
  obtain ⟨⟨m, k1, k2, k3, k4⟩, k5⟩ := F.out _ h'
  simp only at h1 h2 h3 h4 h5 k1 k2 k3 k4 k5 g1
  subst h1 k1
  have := natSub_any l m A A2 c c2 w h2.rd k2.rd ⟨h2.lt, k2.lt⟩ h2.cap k2.cap (by omega) (by omega)
  rw [h3, k3] at this
  refine this.mono ?_
  rintro e w' ⟨v, rfl, ho, hb⟩
  obtain ⟨q, rfl, hq⟩ := ho.2 hge
  exact ⟨_, rfl, ⟨q, rfl, LimRes.of hq (Nat.lt_of_le_of_lt (Nat.sub_le _ _) g1) hK.1⟩, hb⟩
theorem cmpU (F : Us w L) (h : (⟨A, n, c, V, K, can⟩ : UR) ∈ L) (h' : (⟨A2, n2, c2, U, K2, can2⟩ : UR) ∈ L) (hK : K ≤ 274877906944 ∧ K2 ≤ 274877906944) (r : Int) (hr : cmpN V U = r) :
    Calls Tryd.prog 30 #[.slice A n c, .slice A2 n2 c2] w (Gives w (fun v _ => v = .int .i64 r)) := by
  obtain ⟨⟨l, h1, h2, h3, h4⟩, h5⟩ := F.out _ h
  obtain ⟨⟨m, k1, k2, k3, k4⟩, k5⟩ := F.out _ h'
  simp only at h1 h2 h3 h4 h5 k1 k2 k3 k4 k5
  subst h1 k1 hr
  have := natCmp_any l m A A2 c c2 w h2.rd k2.rd ⟨h2.lt, k2.lt⟩ h2.cap k2.cap (by omega) (by omega)
  rw [h3, k3] at this
  exact this
theorem rcmpU (F : Us w L) (h : (⟨A, n, c, V, K, can⟩ : UR) ∈ L) (h' : (⟨A2, n2, c2, U, K2, can2⟩ : UR) ∈ L) (r : Int) (hr : cmpN V U = r) :
    Calls Tryd.prog 31 #[.slice A n c, .slice A2 n2 c2] w (Gives w (fun v _ => v = .int .i64 r)) := by
  obtain ⟨⟨l, h1, h2, h3, h4⟩, h5⟩ := F.out _ h
  obtain ⟨⟨m, k1, k2, k3, k4⟩, k5⟩ := F.out _ h'
  simp only at h1 h2 h3 h4 h5 k1 k2 k3 k4 k5
  subst h1 k1 hr
  have := rCmp_any l m A A2 c c2 w (UR.good h2) (UR.good k2)
  rw [h3, k3] at this
  exact this
theorem rsubU_lt (F : Us w L) (h : (⟨A, n, c, V, K, can⟩ : UR) ∈ L) (h' : (⟨A2, n2, c2, U, K2, can2⟩ : UR) ∈ L) (hlt : V < U) :
    Calls Tryd.prog 29 #[.slice A n c, .slice A2 n2 c2] w (Gives w (fun v _ => v = .tuple #[.slice none 0 0, .bool false])) := by
  obtain ⟨⟨l, h1, h2, h3, h4⟩, h5⟩ := F.out _ h
  obtain ⟨⟨m, k1, k2, k3, k4⟩, k5⟩ := F.out _ h'
  simp only at h1 h2 h3 h4 h5 k1 k2 k3 k4 k5
  subst h1 k1
  have := rSub_any l m A A2 c c2 w (UR.good h2) (UR.good k2)
  rw [h3, k3] at this
  refine this.mono ?_
  rintro e w' ⟨v, rfl, ho, hb⟩
  exact ⟨_, rfl, ho.1 hlt, hb⟩
theorem rsubU_ge (F : Us w L) (h : (⟨A, n, c, V, K, can⟩ : UR) ∈ L) (h' : (⟨A2, n2, c2, U, K2, can2⟩ : UR) ∈ L) (hge : U ≤ V) (hK : K ≤ 274877906944) :
    Calls Tryd.prog 29 #[.slice A n c, .slice A2 n2 c2] w (Gives w (fun v w' => ∃ q, v = .tuple #[q, .bool true] ∧ LimRes w (V - U) K q w')) := by
  have g1 := (F.out _ h).lt
  obtain ⟨⟨l, h1, h2, h3, h4⟩, h5⟩ := F.out _ h
  obtain ⟨⟨m, k1, k2, k3, k4⟩, k5⟩ := F.out _ h'
  simp only at h1 h2 h3 h4 h5 k1 k2 k3 k4 k5 g1
  subst h1 k1
  have := rSub_any l m A A2 c c2 w (UR.good h2) (UR.good k2)
  rw [h3, k3] at this
  refine this.mono ?_
  rintro e w' ⟨v, rfl, ho, hb⟩
  obtain ⟨q, rfl, hq⟩ := ho.2 hge
  exact ⟨_, rfl, ⟨q, rfl, LimRes.of hq (Nat.lt_of_le_of_lt (Nat.sub_le _ _) g1) hK⟩, hb⟩
theorem divU0 (F : Us w L) (h : (⟨A, n, c, V, K, can⟩ : UR) ∈ L) (h' : (⟨A2, n2, c2, U, K2, can2⟩ : UR) ∈ L) (h0 : U = 0) :
    Calls Tryd.prog 32 #[.slice A n c, .slice A2 n2 c2] w (Gives w (fun v _ => v = .tuple #[.slice none 0 0, .slice none 0 0, .bool false])) := by
  obtain ⟨⟨l, h1, h2, h3, h4⟩, h5⟩ := F.out _ h
  obtain ⟨⟨m, k1, k2, k3, k4⟩, k5⟩ := F.out _ h'
  simp only at h1 h2 h3 h4 h5 k1 k2 k3 k4 k5
  subst h1 k1
  exact natDiv0_any l m A A2 c c2 w h2 k2 (by rw [k3, h0])
theorem natDiv_any (l m : List Nat) (A A2 : Option Addr) (c c2 : Nat) (w : World) (h : Lim w A c l) (h2 : Lim w A2 c2 m) (h0 : 0 < valB 4294967296 m) :
    Calls Tryd.prog 32 #[.slice A l.length c, .slice A2 m.length c2] w (Gives w fun v w' => DivTo w.heap.size w' v (valB 4294967296 l) (valB 4294967296 m)) := by
  rcases Nat.lt_or_ge (valB 4294967296 l) (valB 4294967296 m) with hlt | hge
  · exact natDivLt_any l m A A2 c c2 w h h2 hlt
  · rcases Nat.lt_or_ge (valB 4294967296 m) 4294967296 with h1 | h1
    · exact natDiv1_any l m A A2 c c2 w h h2 hge h0 h1
    · exact natDivG_any l m A A2 c c2 w h h2 hge h1
theorem divU (F : Us w L) (h : (⟨A, n, c, V, K, can⟩ : UR) ∈ L) (h' : (⟨A2, n2, c2, U, K2, can2⟩ : UR) ∈ L) (h0 : 0 < U) (hK : K ≤ 274877906944) :
    Calls Tryd.prog 32 #[.slice A n c, .slice A2 n2 c2] w (Gives w (fun v w' => ∃ q r, v = .tuple #[q, r, .bool true] ∧ LimRes w (V / U) K q w' ∧ LimRes w (V % U) K r w')) := by
  have g1 := (F.out _ h).lt
  obtain ⟨⟨l, h1, h2, h3, h4⟩, h5⟩ := F.out _ h
  obtain ⟨⟨m, k1, k2, k3, k4⟩, k5⟩ := F.out _ h'
  simp only at h1 h2 h3 h4 h5 k1 k2 k3 k4 k5 g1
  subst h1 k1
  have := natDiv_any l m A A2 c c2 w h2 k2 (by rw [k3]; exact h0)
  rw [h3, k3] at this
  refine this.mono ?_
  rintro e w' ⟨v, rfl, ⟨q, r, rfl, hq, hr⟩, hb⟩
  exact ⟨_, rfl, ⟨q, r, rfl, LimRes.of hq (Nat.lt_of_le_of_lt (Nat.div_le_self _ _) g1) hK, LimRes.of hr (Nat.lt_of_le_of_lt (Nat.mod_le _ _) g1) hK⟩, hb⟩
theorem bitsU (F : Us w L) (h : (⟨A, n, c, V, K, can⟩ : UR) ∈ L) (b : Nat) (hb : bitN V = b) :
    Calls Tryd.prog 23 #[.slice A n c] w (fun e w' => e = .returned (.int .i64 (b : Int)) ∧ w = w') := by
  obtain ⟨⟨l, h1, h2, h3, h4⟩, h5⟩ := F.out _ h
  simp only at h1 h2 h3 h4 h5
  have hm := h2.max
  have := bits_any l n h1 A c w h2.rd h2.lt (h1 ▸ h2.cap) (by omega)
  rw [h3, hb] at this
  exact this
theorem textU (F : Us w L) (h : (⟨A, n, c, V, K, can⟩ : UR) ∈ L) (htab : Tab w) (t : List UInt8) (ht : Lib.decDigits V = t) :
    Calls Tryd.prog 21 #[.slice A n c] w (Gives w (fun v _ => v = .string ⟨t.toArray⟩)) := by
  obtain ⟨⟨l, h1, h2, h3, h4⟩, h5⟩ := F.out _ h
  simp only at h1 h2 h3 h4 h5
  have hm := h2.max
  have := nText_any l n h1 A c w htab h2.rd h2.lt (h1 ▸ h2.cap) h2.none (by omega)
  rw [h3, ht] at this
  exact this
theorem rtextU (F : Us w L) (h : (⟨A, n, c, V, K, can⟩ : UR) ∈ L) (t : ByteArray) (ht : sB (decL V) = t) :
    Calls Tryd.prog 22 #[.slice A n c] w (Gives w (fun v _ => v = .string t)) := by
  obtain ⟨⟨l, h1, h2, h3, h4⟩, h5⟩ := F.out _ h
  simp only at h1 h2 h3 h4 h5
  have hm := h2.max
  have := rText_any l n h1 A c w h2.rd h2.lt (h1 ▸ h2.cap) (by omega)
  rw [h3, ht] at this
  exact this
theorem raddLU (Ls : List Sl) (hn3 : Ls.length = n3) (hr : Rd encS 1 w A3 Ls) (hg : ∀ s ∈ Ls, s.Good w) (hc : n3 ≤ c3) (hm : n3 ≤ 1073741824) (hT : sumV 4294967296 (Ls.map Sl.l) = T) (hT2 : T < 4294967296 ^ K3) (hK : K3 ≤ 274877906944) :
    Calls Tryd.prog 17 #[.slice A3 n3 c3] w (Gives w (LimRes w T K3)) := by
  have := rAdd_any Ls n3 hn3 A3 c3 w hr hg hc (by omega)
  rw [hT] at this
  refine this.mono ?_
  rintro e w' ⟨v, rfl, ho, hb⟩
  exact ⟨_, rfl, LimRes.of ho hT2 hK, hb⟩
theorem raddU {B : Nat} {t : TypeId} (F : Us w L) (hB : Blk w B [.slice A n c, .slice A2 n2 c2] t) (h : (⟨A, n, c, V, K, can⟩ : UR) ∈ L) (h' : (⟨A2, n2, c2, U, K2, can2⟩ : UR) ∈ L) (hK : K + K2 + 1 ≤ 274877906944) :
    Calls Tryd.prog 17 #[.slice (some ⟨B, 0, none⟩) 2 2] w (Gives w (LimRes w (V + U) (K + K2 + 1))) := by
  have g1 := (F.out _ h).lt
  have g2 := (F.out _ h').lt
  obtain ⟨⟨l, h1, h2, h3, h4⟩, h5⟩ := F.out _ h
  obtain ⟨⟨m, k1, k2, k3, k4⟩, k5⟩ := F.out _ h'
  simp only at h1 h2 h3 h4 h5 k1 k2 k3 k4 k5 g1 g2
  subst h1 k1
  exact raddLU (n3 := 2) [⟨A, c, l⟩, ⟨A2, c2, m⟩] rfl (hB.rd (l := [⟨A, c, l⟩, ⟨A2, c2, m⟩]) lenS rfl) (fun s hs => by
    simp only [List.mem_cons, List.not_mem_nil, or_false] at hs
    rcases hs with rfl | rfl
    · exact UR.good h2
    · exact UR.good k2) (Nat.le_refl 2) (by omega) (by simp [sumV, h3, k3]) (add_lt_pow g1 g2) hK
theorem rmulLU (Ls : List Sl) (hn3 : Ls.length = n3) (hr : Rd encS 1 w A3 Ls) (hg : ∀ s ∈ Ls, s.Good w) (hc : n3 ≤ c3) (hm : n3 ≤ 1073741824) (hT : prodV 4294967296 (Ls.map Sl.l) = T) (hlens : lens (Ls.map Sl.l) ≤ 274877906944) (hT2 : T < 4294967296 ^ K3) (hK : K3 ≤ 274877906944) :
    Calls Tryd.prog 27 #[.slice A3 n3 c3] w (Gives w (LimRes w T K3)) := by
  have := rMul_any Ls n3 hn3 A3 c3 w hr hg hc (by omega) hlens
  rw [hT] at this
  refine this.mono ?_
  rintro e w' ⟨v, rfl, ho, hb⟩
  exact ⟨_, rfl, LimRes.of ho hT2 hK, hb⟩
theorem rmulU {B : Nat} {t : TypeId} (F : Us w L) (hB : Blk w B [.slice A n c, .slice A2 n2 c2] t) (h : (⟨A, n, c, V, K, can⟩ : UR) ∈ L) (h' : (⟨A2, n2, c2, U, K2, can2⟩ : UR) ∈ L) (hK : K + K2 + 1 ≤ 274877906944) :
    Calls Tryd.prog 27 #[.slice (some ⟨B, 0, none⟩) 2 2] w (Gives w (LimRes w (V * U) (K + K2 + 1))) := by
  have g1 := (F.out _ h).lt
  have g2 := (F.out _ h').lt
  obtain ⟨⟨l, h1, h2, h3, h4⟩, h5⟩ := F.out _ h
  obtain ⟨⟨m, k1, k2, k3, k4⟩, k5⟩ := F.out _ h'
  simp only at h1 h2 h3 h4 h5 k1 k2 k3 k4 k5 g1 g2
  subst h1 k1
  exact rmulLU (n3 := 2) [⟨A, c, l⟩, ⟨A2, c2, m⟩] rfl (hB.rd (l := [⟨A, c, l⟩, ⟨A2, c2, m⟩]) lenS rfl) (fun s hs => by
    simp only [List.mem_cons, List.not_mem_nil, or_false] at hs
    rcases hs with rfl | rfl
    · exact UR.good h2
    · exact UR.good k2) (Nat.le_refl 2) (by omega) (by simp [prodV, h3, k3]) (by simp [lens]; omega) (lt_pow_of_le (mul_lt_pow2 g1 g2) (by omega)) hK
end
end Go.Proofs.YtbdcjlikjpdhfaaDoor
